/-
  The document's own Vec, and same64, told by lists of numbers. Condition: at most 4 of them.
-/
import Derived.Test.YteiaejehdjekmaaVec2
namespace Go.Proofs.Yteiaejehdjekmaa
open Go.RowKit

set_option maxHeartbeats 400000 in
theorem rat_any (a g : Nat) (l : List Int) (i : Int) (w : World) (h : IsV 38 w a g l) :
    Calls Try.prog 20 #[.pointer (some ⟨a, 0, none⟩), .int .i64 i] w fun e w' => e = .returned (.int .i64 (atL l i)) ∧ w = w' := by
  unfold atL
  cases hb : hasB l i with
  | true =>
    obtain ⟨k, rfl, hk⟩ := hasB_true hb
    have hh := h.head
    have hc := h.at k hk
    rw [if_pos rfl, Int.toNat_natCast]
    generalize l.getD k 0 = z at hc
    clear h hb
    generalize l.length = n at hh hk
    go_enter Try.func20, Try.ntmps20
    go_wp2
    go_ret
    exact ⟨rfl, rfl⟩
  | false =>
    rw [if_neg (by simp)]
    have hh := h.head
    have hn : i < 0 ∨ (0 ≤ i ∧ (l.length : Int) ≤ i) := by
      simp only [hasB, Bool.and_eq_false_iff, decide_eq_false_iff_not] at hb
      omega
    clear hb h
    generalize l.length = n at hh hn
    rcases hn with hn | ⟨hn, hn2⟩
    · go_enter Try.func20, Try.ntmps20
      go_wp2
      go_ret
      exact ⟨rfl, rfl⟩
    · go_enter Try.func20, Try.ntmps20
      go_wp2
      go_ret
      exact ⟨rfl, rfl⟩

set_option maxHeartbeats 400000 in
theorem rready_any (a g : Nat) (l : List Int) (i z : Int) (w : World) (h : IsV 38 w a g l) :
    Calls Try.prog 21 #[.pointer (some ⟨a, 0, none⟩), .int .i64 i, .int .i64 z] w fun e w' => e = .returned (.bool (readyB l i z)) ∧ w = w' := by
  unfold readyB
  cases hb : hasB l i with
  | true =>
    obtain ⟨k, rfl, hk⟩ := hasB_true hb
    have hh := h.head
    have hc := h.at k hk
    rw [Bool.true_and, Int.toNat_natCast]
    generalize l.getD k 0 = z0 at hc
    clear h hb
    generalize l.length = n at hh hk
    go_enter Try.func21, Try.ntmps21
    go_wp2
    go_ret
    exact ⟨rfl, rfl⟩
  | false =>
    rw [Bool.false_and]
    have hh := h.head
    have hn : i < 0 ∨ (0 ≤ i ∧ (l.length : Int) ≤ i) := by
      simp only [hasB, Bool.and_eq_false_iff, decide_eq_false_iff_not] at hb
      omega
    clear hb h
    generalize l.length = n at hh hn
    rcases hn with hn | ⟨hn, hn2⟩
    · go_enter Try.func21, Try.ntmps21
      go_wp2
      go_ret
      exact ⟨rfl, rfl⟩
    · go_enter Try.func21, Try.ntmps21
      go_wp2
      go_ret
      exact ⟨rfl, rfl⟩

set_option maxHeartbeats 400000 in
theorem rsee_any (a g : Nat) (l : List Int) (i z : Int) (w : World) (h : IsV 38 w a g l) :
    Calls Try.prog 17 #[.pointer (some ⟨a, 0, none⟩), .int .i64 i, .int .i64 z] w fun e w' => e = .returned (.bool (seeB l i z)) ∧ IsV 38 w' a g (seeL l i z) ∧ Only [g] w w' := by
  cases hb : hasB l i with
  | true =>
    obtain ⟨k, rfl, hk⟩ := hasB_true hb
    have hh := h.head
    have hc := h.at k hk
    have hf := h.free k
    by_cases hlt : l.getD k 0 < z
    · have hs : seeB l (k : Int) z = true := by simp only [seeB, hb, Int.toNat_natCast, hlt, decide_true, Bool.and_self]
      have hfin : IsV 38 (w.setCell ⟨g, k, none⟩ (.int .i64 z)) a g (seeL l k z) := by
        unfold seeL
        rw [if_pos hs, Int.toNat_natCast]
        exact h.set k z
      rw [hs]
      have HF := Lib.hid hfin
      clear hs hfin h hb
      generalize seeL l k z = l' at HF
      generalize l.getD k 0 = z0 at hc hlt
      generalize l.length = n at hh hk
      go_enter Try.func17, Try.ntmps17
      go_wp2
      go_ret
      exact ⟨rfl, HF.out, (Only.refl _ _).setCell (by simp) _⟩
    · have hs : seeB l (k : Int) z = false := by simp only [seeB, hb, Int.toNat_natCast, hlt, decide_false, Bool.and_false]
      have hfin : IsV 38 w a g (seeL l k z) := by
        unfold seeL
        rw [hs, if_neg (by simp)]
        exact h
      rw [hs]
      have HF := Lib.hid hfin
      clear hs hfin h hb
      generalize seeL l k z = l' at HF
      generalize l.getD k 0 = z0 at hc hlt
      generalize l.length = n at hh hk
      go_enter Try.func17, Try.ntmps17
      go_wp2
      go_ret
      exact ⟨rfl, HF.out, Only.refl _ _⟩
  | false =>
    have hs : seeB l i z = false := by simp only [seeB, hb, Bool.false_and]
    have hfin : IsV 38 w a g (seeL l i z) := by
      unfold seeL
      rw [hs, if_neg (by simp)]
      exact h
    rw [hs]
    have HF := Lib.hid hfin
    have hh := h.head
    have hn : i < 0 ∨ (0 ≤ i ∧ (l.length : Int) ≤ i) := by
      simp only [hasB, Bool.and_eq_false_iff, decide_eq_false_iff_not] at hb
      omega
    clear hs hfin hb h
    generalize seeL l i z = l' at HF
    generalize l.length = n at hh hn
    rcases hn with hn | ⟨hn, hn2⟩
    · go_enter Try.func17, Try.ntmps17
      go_wp2
      go_ret
      exact ⟨rfl, HF.out, Only.refl _ _⟩
    · go_enter Try.func17, Try.ntmps17
      go_wp2
      go_ret
      exact ⟨rfl, HF.out, Only.refl _ _⟩

/-- the document's Join: each place is seen -/
def rjoinTo (l m : List Int) : Nat → List Int
  | 0 => l
  | t + 1 => seeL (rjoinTo l m t) (t : Int) (m.getD t 0)
theorem rjoinTo_len (l m : List Int) (t : Nat) : (rjoinTo l m t).length = l.length := by
  induction t with
  | zero => rfl
  | succ t ih => rw [rjoinTo, seeL_len, ih]
theorem rjoinTo_at (l m : List Int) (t j : Nat) (hj : j < l.length) : (rjoinTo l m t).getD j 0 = if j < t then max (l.getD j 0) (m.getD j 0) else l.getD j 0 := by
  induction t with
  | zero => rfl
  | succ t ih =>
    have hlen := rjoinTo_len l m t
    rw [rjoinTo]
    unfold seeL seeB hasB
    by_cases htl : t < l.length
    · rw [show (decide ((0 : Int) ≤ (t : Int)) && decide ((t : Int) < ((rjoinTo l m t).length : Int))) = true from by simp [hlen]; exact htl, Bool.true_and, Int.toNat_natCast]
      by_cases hjt : j = t
      · subst hjt
        rw [if_neg (by omega)] at ih
        by_cases hd : (rjoinTo l m j).getD j 0 < m.getD j 0
        · rw [if_pos (decide_eq_true hd), if_pos (by omega)]
          have hj2 : j < (rjoinTo l m j).length := by omega
          rw [ih] at hd
          simp only [List.getD_eq_getElem?_getD, List.getElem?_set_self hj2, Option.getD_some] at hd ⊢
          omega
        · rw [if_neg (by simpa using hd), if_pos (by omega), ih]
          omega
      · by_cases hd : (rjoinTo l m t).getD t 0 < m.getD t 0
        · rw [if_pos (decide_eq_true hd)]
          simp only [List.getD_eq_getElem?_getD, List.getElem?_set_ne (Ne.symm hjt)] at ih ⊢
          rw [ih]
          by_cases h1 : j < t
          · rw [if_pos h1, if_pos (by omega)]
          · rw [if_neg h1, if_neg (by omega)]
        · rw [if_neg (by simpa using hd), ih]
          by_cases h1 : j < t
          · rw [if_pos h1, if_pos (by omega)]
          · rw [if_neg h1, if_neg (by omega)]
    · rw [show (decide ((0 : Int) ≤ (t : Int)) && decide ((t : Int) < ((rjoinTo l m t).length : Int))) = false from by simp [hlen]; omega, Bool.false_and, if_neg (by simp), ih]
      rw [if_pos (by omega), if_pos (by omega)]
theorem maxTo_at (l m : List Int) (t j : Nat) (hj : j < l.length) : (maxTo l m t).getD j 0 = if j < t then max (l.getD j 0) (m.getD j 0) else l.getD j 0 := by
  induction t with
  | zero => rfl
  | succ t ih =>
    have hlen := maxTo_len l m t
    rw [maxTo]
    by_cases hjt : j = t
    · subst hjt
      rw [if_neg (by omega)] at ih
      have hj2 : j < (maxTo l m j).length := by omega
      simp only [List.getD_eq_getElem?_getD, List.getElem?_set_self hj2, Option.getD_some] at ih ⊢
      rw [ih, if_pos (by omega)]
    · simp only [List.getD_eq_getElem?_getD, List.getElem?_set_ne (Ne.symm hjt)] at ih ⊢
      rw [ih]
      by_cases h1 : j < t
      · rw [if_pos h1, if_pos (by omega)]
      · rw [if_neg h1, if_neg (by omega)]
theorem list_eq (l m : List Int) (h : l.length = m.length) (he : ∀ j, j < l.length → l.getD j 0 = m.getD j 0) : l = m := by
  apply List.ext_getElem h
  intro i h1 h2
  have := he i h1
  simpa [h1, h2] using this
theorem rjoin_eq (l m : List Int) : rjoinTo l m m.length = joinL l m := by
  apply list_eq
  · rw [rjoinTo_len, joinL_len]
  · intro j hj
    rw [rjoinTo_len] at hj
    unfold joinL
    rw [rjoinTo_at l m _ j hj, maxTo_at l m _ j hj]
    by_cases h1 : j < m.length
    · rw [if_pos h1, if_pos (by omega)]
    · rw [if_neg h1, if_neg (by omega)]

set_option maxHeartbeats 400000 in
theorem rjoin_any (a g : Nat) (l : List Int) (a2 g2 : Nat) (m : List Int) (w : World) (h : IsV 38 w a g l) (h2 : IsV 38 w a2 g2 m) (n1 : a2 ≠ g) (n2 : g2 ≠ g) :
    Calls Try.prog 19 #[.pointer (some ⟨a, 0, none⟩), .pointer (some ⟨a2, 0, none⟩)] w fun e w' => e = .returned (.tuple #[]) ∧ IsV 38 w' a g (joinL l m) ∧ Only [g] w w' := by
  rw [← rjoin_eq]
  have H2 := Lib.hid h2
  have hl4 := h2.len
  clear h2
  generalize hn : m.length = n at hl4
  have HN := Lib.hid hn
  clear hn
  go_enter Try.func19, Try.ntmps19
  go_wp2_with fail
  go_loopw [4] (fun i wr => ∃ k : Nat, k ≤ n ∧ i = .int .i64 k ∧ IsV 38 wr a g (rjoinTo l m k) ∧ Only [g] w wr) (fun i _ => n - (intOf i).toNat)
  case atStart => exact ⟨0, Nat.zero_le _, rfl, h, Only.refl _ _⟩
  case round =>
    obtain ⟨k, hk, rfl, hv, ho⟩ := hrel
    have h2r : IsV 38 wr a2 g2 m := H2.out.only ho (by simpa using n1) (by simpa using n2)
    have hh := h2r.head
    rw [HN.out] at hh
    by_cases hlt : k < n
    · have hc := h2r.at k (by rw [HN.out]; exact hlt)
      have HR := Lib.hid (show rjoinTo l m (k + 1) = seeL (rjoinTo l m k) (k : Int) (m.getD k 0) from rfl)
      clear h2r h
      generalize m.getD k 0 = z at hc HR
      go_wp2_with fail
      refine (rsee_any a g _ _ _ _ hv).mono ?_
      rintro e w' ⟨rfl, hv2, ho2⟩
      rw [← HR.out] at hv2
      have ho3 := ho.trans ho2
      clear hh hc hv ho ho2 HR
      go_wp2_with fail
      go_roundw
      case rel => exact ⟨k + 1, by omega, by go_num, hv2, ho3⟩
      case measure => simp [intOf]; omega
    · obtain rfl : k = n := by omega
      clear h2r h
      go_wp2_with fail
      go_end0
      exact ⟨rfl, hv, ho⟩

set_option maxHeartbeats 1000000 in
theorem rwithin_any (a g : Nat) (l : List Int) (a2 g2 : Nat) (m : List Int) (w : World) (h : IsV 38 w a g l) (h2 : IsV 38 w a2 g2 m) :
    Calls Try.prog 18 #[.pointer (some ⟨a, 0, none⟩), .pointer (some ⟨a2, 0, none⟩)] w fun e w' => e = .returned (.bool (withinB l m)) ∧ ∃ n, w' = w.drewN n := by
  have HV := Lib.hid h
  have HV2 := Lib.hid h2
  have hl4 := h.len
  have hm4 := h2.len
  clear h h2
  generalize hn : l.length = n at hl4
  generalize hm : m.length = q at hm4
  have HN := Lib.hid hn
  have HM := Lib.hid hm
  clear hn hm
  go_enter Try.func18, Try.ntmps18
  go_wp2_with fail
  go_loopw [5] (fun i wr => ∃ k : Nat, k ≤ n ∧ i = .int .i64 k ∧ k ≤ q ∧ Ups l m k ∧ ∃ d, wr = w.drewN d) (fun i _ => n - (intOf i).toNat)
  case atStart => exact ⟨0, Nat.zero_le _, rfl, Nat.zero_le _, fun j hj => by omega, 0, rfl⟩
  case round =>
    obtain ⟨k, hk, rfl, hkq, hup, d, rfl⟩ := hrel
    have hv : IsV 38 (w.drewN d) a g l := ⟨HV.out.ptr, HV.out.row, HV.out.ne, HV.out.len⟩
    have hv2 : IsV 38 (w.drewN d) a2 g2 m := ⟨HV2.out.ptr, HV2.out.row, HV2.out.ne, HV2.out.len⟩
    have hd2 : ∀ n, ∃ m, (w.drewN d).drewN n = w.drewN m := fun n => ⟨_, World.drewN_drewN _ _ _⟩
    generalize w.drewN d = wd at hv hv2 hd2
    have HD := Lib.hid hd2
    clear hd2
    have hh := hv.head
    have hh2 := hv2.head
    rw [HN.out] at hh
    rw [HM.out] at hh2
    by_cases hlt : k < n
    · by_cases hltq : k < q
      · have c1 := hv.at k (by rw [HN.out]; exact hlt)
        have c2 := hv2.at k (by rw [HM.out]; exact hltq)
        have hno := fun hh => withinB_no l m k (by rw [HN.out]; exact hlt) hh
        have hup' : l.getD k 0 ≤ m.getD k 0 → Ups l m (k + 1) := by
          intro hle j hj
          by_cases hjk : j = k
          · subst hjk; exact hle
          · exact hup j (by omega)
        have g1 : decide ((q : Int) ≤ (k : Int)) = false := by simp; omega
        have g1' : decide (q ≤ k) = false := by simp; omega
        generalize l.getD k 0 = x at c1 hno hup'
        generalize m.getD k 0 = y at c2 hno hup'
        have HNO := Lib.hid hno
        have HUP := Lib.hid hup'
        clear hno hup' hup hv hv2
        by_cases hxy : y < x
        · have g2 : decide (y < x) = true := by simpa using hxy
          go_wp2_with fail
          go_quiet (fail)
          go_wp2
          go_ret
          exact ⟨by rw [HNO.out hxy]; rfl, HD.out _⟩
        · have g2 : decide (y < x) = false := by simpa using hxy
          go_wp2_with fail
          go_quiet (fail)
          go_wp2_with fail
          go_roundw
          case rel => exact ⟨k + 1, by omega, by go_num, by omega, HUP.out (by omega), HD.out _⟩
          case measure => simp [intOf]; omega
      · have hfin : withinB l m = false := by
          simp only [withinB, HN.out, HM.out, show ¬ n = q by omega, decide_false, Bool.false_and]
        have HF := Lib.hid hfin
        have g1 : decide ((q : Int) ≤ (k : Int)) = true := by simp; omega
        have g1' : decide (q ≤ k) = true := by simp; omega
        clear hfin hup hv hv2
        go_wp2_with fail
        go_quiet (fail)
        go_wp2
        go_ret
        exact ⟨by rw [HF.out]; rfl, HD.out _⟩
    · have hfin : withinB l m = ((n : Int) == (q : Int)) := by
        obtain rfl : k = n := by omega
        by_cases hnq : k = q
        · subst hnq
          rw [withinB_yes l m (by rw [HN.out, HM.out]) (fun j hj => hup j (by rw [HN.out] at hj; exact hj))]
          simp
        · simp only [withinB, HN.out, HM.out, hnq, decide_false, Bool.false_and]
          symm
          simp
          omega
      have HF := Lib.hid hfin
      clear hfin hup hv hv2
      go_wp2_with fail
      go_quiet (fail)
      go_wp2
      go_ret
      exact ⟨by rw [HF.out]; rfl, HD.out _⟩

end Go.Proofs.Yteiaejehdjekmaa
