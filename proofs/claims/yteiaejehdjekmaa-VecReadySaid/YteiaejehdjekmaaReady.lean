/-
  The walk of VecReady: it returns true, and no memory that was there turns. Condition: the slice has at most 17592186044415 elements.
-/
import Derived.Test.YteiaejehdjekmaaAw
namespace Go.Proofs.Yteiaejehdjekmaa
open Go.RowKit

set_option maxHeartbeats 400000 in
theorem ready_out (s : Int) (ao : Option Addr) (n c : Nat) (i z : Int) (w : World) (t1 t2 : Bool) (h1 : decide (s < 1) = t1) (h2 : t1 = false → decide (4 < s) = t2) (h3 : t1 = false → t2 = false → decide ((4 : Int) < (n : Int)) = true) :
    Calls Try.prog 3 #[.int .i64 s, .slice ao n c, .int .i64 i, .int .i64 z] w fun e w' => e = .returned (.bool true) ∧ Below w.heap.size w w' := by
  go_enter Try.func3, Try.ntmps3
  go_wp2_with fail
  refine (awake_any _).mono ?_
  rintro e w1 ⟨rfl, hb⟩
  go_wp2_with fail
  all_goals go_ret
  all_goals exact ⟨rfl, hb⟩

theorem in_has (l : List Int) (k : Nat) (h : k < l.length) : hasB l (k : Int) = true := by
  simp [hasB]; exact h

set_option maxHeartbeats 1000000 in
theorem ready_in (s : Nat) (ao : Option Addr) (n c : Nat) (l : List Int) (i z : Int) (w : World) (hl : IsI w ao n c l) (h1 : 1 ≤ s) (h4 : s ≤ 4) (hn : n ≤ 4) :
    Calls Try.prog 3 #[.int .i64 (s : Int), .slice ao n c, .int .i64 i, .int .i64 z] w fun e w' => e = .returned (.bool true) ∧ Below w.heap.size w w' := by
  have d1 : decide ((s : Int) < 1) = false := by simp; omega
  have d2 : decide ((4 : Int) < (s : Int)) = false := by simp; omega
  have d3 : decide ((4 : Int) < (n : Int)) = false := by simp; omega
  go_enter Try.func3, Try.ntmps3
  go_wp2_with fail
  refine (awake_any _).mono ?_
  rintro e w1 ⟨rfl, hb⟩
  go_wp2_with fail
  refine (new_ok s _ h1 h4).mono ?_
  rintro e w2 ⟨rfl, hv, ho, hs⟩
  have hb2 : Below w.heap.size w w2 := hb.trans (ho.below hb.size (by intro k hk; cases hk))
  have hB := hb.size
  have HL := Lib.hid hl
  generalize w1.heap.size = B at hv hs hB
  clear hb ho hl
  go_wp2_with fail
  go_loopw [11] (fun j wr => ∃ k : Nat, k ≤ n ∧ j = .int .i64 k ∧ IsV 48 wr (B + 1) B (rjoinTo (List.replicate s 0) l k) ∧ Below w.heap.size w wr) (fun j _ => n - (intOf j).toNat)
  case atStart => exact ⟨0, Nat.zero_le _, rfl, hv, hb2⟩
  case round =>
    obtain ⟨k, hk, rfl, hvr, hbr⟩ := hrel
    clear hv
    by_cases hlt : k < n
    · rcases HL.out.at_ with h0 | ⟨b, off, rfl, hcell⟩
      · omega
      have hc := cell_later hbr (hcell k hlt)
      have HR := Lib.hid (show rjoinTo (List.replicate s 0) l (k + 1) = seeL (rjoinTo (List.replicate s 0) l k) (k : Int) (l.getD k 0) from rfl)
      generalize l.getD k 0 = x at hc HR
      clear hb2 hcell
      go_wp2_with fail
      refine (see_any _ _ _ _ _ _ hvr).mono ?_
      rintro e w4 ⟨rfl, hv4, ho4⟩
      rw [← HR.out] at hv4
      have hbb : Below w.heap.size wr w4 := ho4.below hbr.size (by intro q hq; simp at hq; omega)
      have hb4 := hbr.trans hbb
      clear hvr hc HR hbr hbb ho4
      go_wp2_with fail
      go_roundw
      case rel => exact ⟨k + 1, by omega, by go_num, hv4, hb4⟩
      case measure => simp [intOf]; omega
    · obtain rfl : k = n := by omega
      have hlen : (rjoinTo (List.replicate s 0) l k).length = s := by rw [rjoinTo_len]; simp
      generalize rjoinTo (List.replicate s 0) l k = cur at hvr hlen
      have HC := Lib.hid hlen
      clear hlen hb2 HL
      by_cases hin : 0 ≤ i ∧ i < (s : Int)
      · obtain ⟨q, rfl⟩ := Int.eq_ofNat_of_zero_le hin.1
        have hq : q < s := by omega
        have hat : atL cur (q : Int) = cur.getD q 0 := by
          unfold atL
          rw [if_pos (in_has cur q (by rw [HC.out]; exact hq)), Int.toNat_natCast]
        have hrd : readyB cur (q : Int) z = decide (cur.getD q 0 ≤ z) := by
          unfold readyB
          rw [in_has cur q (by rw [HC.out]; exact hq), Bool.true_and, Int.toNat_natCast]
        have hse : seeB cur (q : Int) z = decide (cur.getD q 0 < z) := by
          unfold seeB
          rw [in_has cur q (by rw [HC.out]; exact hq), Bool.true_and, Int.toNat_natCast]
        have hat2 : atL (seeL cur (q : Int) z) (q : Int) = if cur.getD q 0 < z then z else cur.getD q 0 := by
          unfold atL
          rw [if_pos (in_has _ q (by rw [seeL_len, HC.out]; exact hq)), Int.toNat_natCast]
          unfold seeL
          rw [hse]
          by_cases hlt : cur.getD q 0 < z
          · rw [if_pos (decide_eq_true hlt), if_pos hlt, Int.toNat_natCast]
            have : q < cur.length := by rw [HC.out]; exact hq
            simp only [List.getD_eq_getElem?_getD, List.getElem?_set_self this, Option.getD_some]
          · rw [if_neg (by simpa using hlt), if_neg hlt]
        have d4 : decide ((q : Int) < 0) = false := by simp
        have d5 : decide ((s : Int) ≤ (q : Int)) = false := by simp; omega
        clear hin
        generalize cur.getD q 0 = x at hat hrd hse hat2
        have A1 := Lib.hid hat
        have A2 := Lib.hid hrd
        have A3 := Lib.hid hse
        have A4 := Lib.hid hat2
        clear hat hrd hse hat2
        go_wp2_with fail
        refine (at_any _ _ _ _ _ hvr).mono ?_
        rintro e w' ⟨rfl, rfl⟩
        rw [A1.out]
        go_wp2_with fail
        refine (ready_any _ _ _ _ z _ hvr).mono ?_
        rintro e w' ⟨rfl, rfl⟩
        rw [A2.out]
        by_cases hxz : x < z
        · have b1 : decide (x ≤ z) = true := by simp; omega
          have b2 : decide (x < z) = true := by simpa using hxz
          rw [b1]
          rw [if_pos hxz] at A4
          rw [b2] at A3
          go_wp2_with fail
          refine (see_any _ _ _ _ z _ hvr).mono ?_
          rintro e w5 ⟨rfl, hv5, ho5⟩
          rw [A3.out]
          have hb5 : Below w.heap.size w w5 := hbr.trans (ho5.below hbr.size (by intro q hq; simp at hq; omega))
          clear hvr hbr
          go_wp2_with fail
          refine (at_any _ _ _ _ _ hv5).mono ?_
          rintro e w' ⟨rfl, rfl⟩
          rw [A4.out]
          go_wp2
          go_ret
          exact ⟨rfl, hb5⟩
        · by_cases hxe : x = z
          · subst hxe
            have b1 : decide (x ≤ x) = true := by simp
            have b2 : decide (x < x) = false := by simp
            rw [b1]
            rw [if_neg hxz] at A4
            rw [b2] at A3
            go_wp2_with fail
            refine (see_any _ _ _ _ x _ hvr).mono ?_
            rintro e w5 ⟨rfl, hv5, ho5⟩
            rw [A3.out]
            have hb5 : Below w.heap.size w w5 := hbr.trans (ho5.below hbr.size (by intro q hq; simp at hq; omega))
            clear hvr hbr
            go_wp2_with fail
            refine (at_any _ _ _ _ _ hv5).mono ?_
            rintro e w' ⟨rfl, rfl⟩
            rw [A4.out]
            go_wp2
            go_ret
            exact ⟨rfl, hb5⟩
          · have b1 : decide (x ≤ z) = false := by simp; omega
            have b2 : decide (x < z) = false := by simpa using hxz
            rw [b1]
            rw [if_neg hxz] at A4
            rw [b2] at A3
            go_wp2_with fail
            refine (see_any _ _ _ _ z _ hvr).mono ?_
            rintro e w5 ⟨rfl, hv5, ho5⟩
            rw [A3.out]
            have hb5 : Below w.heap.size w w5 := hbr.trans (ho5.below hbr.size (by intro q hq; simp at hq; omega))
            clear hvr hbr
            go_wp2_with fail
            refine (at_any _ _ _ _ _ hv5).mono ?_
            rintro e w' ⟨rfl, rfl⟩
            rw [A4.out]
            go_wp2
            go_ret
            exact ⟨rfl, hb5⟩
      · have hno : hasB cur i = false := by
          simp only [hasB, HC.out, Bool.and_eq_false_iff, decide_eq_false_iff_not]
          omega
        have A2 : Hid (readyB cur i z = false) := by unfold readyB; rw [hno]; rfl
        have A3 : Hid (seeB cur i z = false) := by unfold seeB; rw [hno]; rfl
        have d4 : decide (i < 0) = false → decide ((s : Int) ≤ i) = true := by simp; omega
        clear hno
        go_wp2_with fail
        refine (at_any _ _ _ i _ hvr).mono ?_
        rintro e w' ⟨rfl, rfl⟩
        go_wp2_with fail
        refine (ready_any _ _ _ i z _ hvr).mono ?_
        rintro e w' ⟨rfl, rfl⟩
        rw [A2.out]
        go_wp2_with fail
        all_goals
          refine (see_any _ _ _ i z _ hvr).mono ?_
          rintro e w5 ⟨rfl, hv5, ho5⟩
          rw [A3.out]
          have hb5 : Below w.heap.size w w5 := hbr.trans (ho5.below hbr.size (by intro q hq; simp at hq; omega))
          go_wp2
          go_ret
          exact ⟨rfl, hb5⟩

theorem vready_walk (s : Int) (ao : Option Addr) (n c : Nat) (l : List Int) (i z : Int) (w : World) (_ : (Lit.int .i64 s).wf = true) (hl : IsI w ao n c l) (_ : n ≤ c) (_ : c * 8 ≤ 140737488351232)
    (_ : ∀ z ∈ l, -9223372036854775808 ≤ z ∧ z ≤ 9223372036854775807) (_ : (Lit.int .i64 i).wf = true) (_ : (Lit.int .i64 z).wf = true) :
    Calls Try.prog 3 #[.int .i64 s, .slice ao n c, .int .i64 i, .int .i64 z] w fun e w' => e = .returned (.bool true) ∧ Below w.heap.size w w' := by
  by_cases h1 : s < 1
  · exact ready_out s ao n c i z w true true (by simpa using h1) (fun h => by cases h) (fun h => by cases h)
  · by_cases h2 : 4 < s
    · exact ready_out s ao n c i z w false true (by simpa using h1) (fun _ => by simpa using h2) (fun _ h => by cases h)
    · by_cases h3 : 4 < n
      · exact ready_out s ao n c i z w false false (by simpa using h1) (fun _ => by simpa using h2) (fun _ _ => by simp; omega)
      · obtain ⟨k, rfl⟩ := Int.eq_ofNat_of_zero_le (show 0 ≤ s by omega)
        exact ready_in k ao n c l i z w hl (by omega) (by omega) (by omega)

end Go.Proofs.Yteiaejehdjekmaa
