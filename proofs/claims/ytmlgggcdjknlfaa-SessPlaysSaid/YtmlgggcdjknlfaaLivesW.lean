/-
  One that is touched often enough lives on; one that is not ends at just its time: the walk.
-/
import Derived.Test.YtmlgggcdjknlfaaLives
namespace Go.Proofs.Ytmlgggcdjknlfaa
open Go.RowKit

theorem lit_sc {z : Int} (h : (Lit.int .i64 z).wf = true) : -9223372036854775808 ≤ z ∧ z ≤ 9223372036854775807 := by
  simp only [Lit.wf, IntKind.min, IntKind.max, IntKind.signed, IntKind.bits, Bool.and_eq_true, decide_eq_true_eq, if_true] at h
  omega
theorem num_cell {w : World} {ao : Option Addr} {n c : Nat} {l : List Int} (h : IsI w ao n c l) {k : Nat} (hk : k < n) : ∃ b off, ao = some ⟨b, off, none⟩ ∧ w.cell? ⟨b, off + k, none⟩ = some (.int .i64 (l.getD k 0)) := by
  rcases h.at_ with h0 | ⟨b, off, h1, h2⟩
  · omega
  · exact ⟨b, off, h1, h2 k hk⟩

set_option maxHeartbeats 8000000 in
set_option maxRecDepth 100000 in
theorem lives_any (span more : Int) (ao : Option Addr) (n c : Nat) (gaps : List Int) (w : World) (h : IsI w ao n c gaps) (hnc : n ≤ c) (hc : c ≤ 17592186044416) (hs1 : -9223372036854775808 ≤ span) (hs2 : span ≤ 9223372036854775807) (hm1 : -9223372036854775808 ≤ more) (hm2 : more ≤ 9223372036854775807) :
    Calls Try.prog 3 #[.int .i64 span, .slice ao n c, .int .i64 more] w fun e w' => e = .returned (.bool true) ∧ Below w.heap.size w w' := by
  have HA := Lib.hid (awake_any w)
  have HI := Lib.hid h
  clear h
  by_cases hbad : span < 1 ∨ 100 < span ∨ 10 < n ∨ more < 0 ∨ 200 < more
  · have hq : span < 1 ∨ (1 ≤ span ∧ 100 < span) ∨ (1 ≤ span ∧ span ≤ 100 ∧ 10 < n) ∨ (1 ≤ span ∧ span ≤ 100 ∧ n ≤ 10 ∧ more < 0) ∨ (1 ≤ span ∧ span ≤ 100 ∧ n ≤ 10 ∧ 0 ≤ more ∧ 200 < more) := by omega
    clear hbad
    rcases hq with q1 | ⟨q1, q2⟩ | ⟨q1, q2, q3⟩ | ⟨q1, q2, q3, q4⟩ | ⟨q1, q2, q3, q4, q5⟩
    all_goals
      go_enter Try.func3, Try.ntmps3
      go_wp2_with fail
      refine HA.out.mono ?_
      rintro e w1 ⟨rfl, hb1⟩
      have HB1 := Lib.hid hb1; clear hb1
      go_wp2_with fail
      go_ret
      exact ⟨rfl, HB1.out⟩
  · obtain ⟨q1, q2, q3, q4, q5⟩ : 1 ≤ span ∧ span ≤ 100 ∧ n ≤ 10 ∧ 0 ≤ more ∧ more ≤ 200 := by omega
    clear hbad hs1 hs2 hm1 hm2
    go_enter Try.func3, Try.ntmps3
    go_wp2_with fail
    refine HA.out.mono ?_
    rintro e w1 ⟨rfl, hb1⟩
    have HN := Lib.hid (new_ok w.heap.size 3 w1 (by decide) (by decide) hb1.size)
    have HB1 := Lib.hid hb1; clear hb1
    go_wp2_with fail
    refine HN.out.mono ?_
    rintro e w2 ⟨rfl, hs2, hb2, hz2⟩
    have HO := Lib.hid (open_ok w.heap.size w1.heap.size none (newS 3) span w2 hs2 q1 (by omega) (by decide) (by decide) (by decide) (by decide) (by decide) (by decide))
    have HB2 := Lib.hid (HB1.out.trans (hb2.mono HB1.out.size))
    have hz := hb2.size
    clear hs2 hb2
    go_wp2_with fail
    refine HO.out.mono ?_
    rintro e w3 ⟨g, rfl, hs3, ho3, hg3⟩
    rw [alone_open] at hs3
    have hbase := HB1.out.size
    have HG : Hid (∀ j, g = some j → w.heap.size ≤ j) := Lib.hid (fun j hj => by
      rcases hg3 with h | ⟨k, h, hk⟩
      · rw [h] at hj; cases hj
      · rw [h] at hj; cases hj; omega)
    have HB3 := Lib.hid (HB2.out.trans (ho3.below HB2.out.size (fun k hk => by simp at hk; omega)))
    have HS3 := Lib.hid hs3; clear hs3
    generalize hA : w1.heap.size = a at *
    clear ho3 hg3 hz2 hz hbase
    have hnx : (newS 3).next = 1 := rfl
    go_wp2_with fail
    go_loopw [11] (fun i wr => ∃ (k : Nat) (t : Int), k ≤ n ∧ i = .int .i64 (k : Int) ∧ 0 ≤ t ∧ t ≤ k * 100 ∧ IsSess wr w.heap.size a g (alone t span (t + span)) ∧ Below w.heap.size w wr) (fun i _ => n - (intOf i).toNat)
    case atStart => exact ⟨0, 0, Nat.zero_le _, rfl, by omega, by omega, by simpa using HS3.out, HB3.out⟩
    case round =>
      obtain ⟨k, t, hk, rfl, ht0, ht1, hsr, hbr⟩ := hrel
      have HSR := Lib.hid hsr; clear hsr
      have HBR := Lib.hid hbr; clear hbr
      by_cases hlt : k < n
      · obtain ⟨b, off, rfl, hcell⟩ := num_cell (HI.out.below HBR.out) hlt
        generalize hgap : gaps.getD k 0 = gap at *
        have HGAP := Lib.hid hgap
        by_cases hg0 : gap < 0
        · go_wp2_with fail
          go_ret
          exact ⟨rfl, HBR.out⟩
        by_cases hg1 : span ≤ gap
        · have hg2 : 0 ≤ gap := by omega
          clear hg0
          go_wp2_with fail
          go_ret
          exact ⟨rfl, HBR.out⟩
        have hg2 : 0 ≤ gap := by omega
        have hg3 : gap < span := by omega
        clear hg0 hg1 hgap
        go_wp2_with fail
        go_loopw [12] (fun j wz => ∃ (m : Nat), (m : Int) ≤ gap ∧ j = .int .i64 (m : Int) ∧ IsSess wz w.heap.size a g (after t span m) ∧ Below w.heap.size w wz) (fun j _ => gap.toNat - (intOf j).toNat)
        case atStart =>
          refine ⟨0, by omega, rfl, ?_, HBR.out⟩
          have := HSR.out
          unfold after
          rw [if_pos (by omega)]
          simpa using this
        case round =>
          obtain ⟨m, hm, rfl, hss, hbs⟩ := hrel
          have HSS := Lib.hid hss; clear hss
          have HBS := Lib.hid hbs; clear hbs
          have hcell2 : wr.cell? ⟨b, off + k, none⟩ = some (.int .i64 gap) := by
            obtain ⟨b', off', he, hc⟩ := num_cell (HI.out.below HBS.out) hlt
            cases he
            rw [HGAP.out] at hc
            exact hc
          by_cases hmg : (m : Int) < gap
          · have HT := Lib.hid (at_tick w.heap.size a g t span m w wr HSS.out HBS.out HG.out HBS.out.size (by omega) (by omega) (by omega) (by omega))
            go_wp2_with fail
            refine HT.out.mono ?_
            rintro e ws2 ⟨ao2, c2, rfl, hs2, hb2, _⟩
            have HS2 := Lib.hid hs2; clear hs2
            have HB2 := Lib.hid hb2; clear hb2
            rw [if_neg (by omega)]
            go_wp2_with fail
            go_roundw
            case rel => exact ⟨m + 1, by omega, by go_num, by simpa using HS2.out, HB2.out⟩
            case measure => simp [intOf]; omega
          · obtain rfl : (m : Int) = gap := by omega
            have HS2 : Hid (IsSess wr w.heap.size a g (alone (t + m) span (t + span))) := Lib.hid (by
              have := HSS.out
              unfold after at this
              rwa [if_pos (by omega)] at this)
            have HT := Lib.hid (at_touch w.heap.size a g (t + m) span (t + span) w wr HS2.out HBS.out HG.out HBS.out.size (by omega) (by omega) (by omega) (by omega))
            go_wp2_with fail
            refine HT.out.mono ?_
            rintro e ws2 ⟨rfl, hs3, hb3, _⟩
            have HS3 := Lib.hid hs3; clear hs3
            have HB3 := Lib.hid hb3; clear hb3
            go_wp2_with fail
            go_roundw
            case rel => exact ⟨k + 1, t + m, by omega, by go_num, by omega, by omega, HS3.out, HB3.out⟩
            case measure => simp [intOf]; omega
      · obtain rfl : k = n := by omega
        clear hlt hk
        go_wp2_with fail
        go_loopw [13] (fun j wz => ∃ (m : Nat), (m : Int) ≤ more ∧ j = .int .i64 ((m : Int) + 1) ∧ IsSess wz w.heap.size a g (after t span m) ∧ Below w.heap.size w wz) (fun j _ => more.toNat + 1 - (intOf j).toNat)
        case atStart =>
          refine ⟨0, by omega, rfl, ?_, HBR.out⟩
          have := HSR.out
          unfold after
          rw [if_pos (by omega)]
          simpa using this
        case round =>
          obtain ⟨m, hm, rfl, hss, hbs⟩ := hrel
          have HSS := Lib.hid hss; clear hss
          have HBS := Lib.hid hbs; clear hbs
          by_cases hmg : (m : Int) < more
          · have HT := Lib.hid (at_tick w.heap.size a g t span m w wr HSS.out HBS.out HG.out HBS.out.size (by omega) (by omega) (by omega) (by omega))
            by_cases hsp : (m : Int) + 1 = span
            · rw [if_pos hsp] at HT
              go_wp2_with fail
              refine HT.out.mono ?_
              rintro e ws2 ⟨ao2, c2, rfl, hs2, hb2, _⟩
              have HS2 := Lib.hid hs2; clear hs2
              have HB2 := Lib.hid hb2; clear hb2
              go_wp2_with fail
              go_roundw
              case rel => exact ⟨m + 1, by omega, by go_num, by simpa using HS2.out, HB2.out⟩
              case measure => simp [intOf]; omega
            · rw [if_neg hsp] at HT
              go_wp2_with fail
              refine HT.out.mono ?_
              rintro e ws2 ⟨ao2, c2, rfl, hs2, hb2, _⟩
              have HS2 := Lib.hid hs2; clear hs2
              have HB2 := Lib.hid hb2; clear hb2
              go_wp2_with fail
              go_roundw
              case rel => exact ⟨m + 1, by omega, by go_num, by simpa using HS2.out, HB2.out⟩
              case measure => simp [intOf]; omega
          · obtain rfl : (m : Int) = more := by omega
            have HL := Lib.hid (at_live w.heap.size a g t span m wr HSS.out)
            go_wp2_with fail
            refine HL.out.mono ?_
            rintro e ws2 ⟨rfl, hb2⟩
            have HB2 := Lib.hid (HBS.out.trans (hb2.mono HBS.out.size)); clear hb2
            by_cases hf : (m : Int) < span
            · rw [decide_eq_true hf]
              go_wp2_with fail
              go_ret
              exact ⟨rfl, HB2.out⟩
            · rw [decide_eq_false hf]
              have hf2 : span ≤ (m : Int) := by omega
              clear hf
              go_wp2_with fail
              go_ret
              exact ⟨by rw [decide_eq_false (show ¬ (m : Int) < span by omega)]; rfl, HB2.out⟩

theorem lives_said (span : Int) (ao : Option Addr) (n c : Nat) (gaps : List Int) (more : Int) (W : World) (h0 : (Lit.int .i64 span).wf = true) (h : IsI W ao n c gaps) (hnc : n ≤ c) (hc : c * 8 ≤ 140737488351232) (hz : ∀ z ∈ gaps, -9223372036854775808 ≤ z ∧ z ≤ 9223372036854775807) (h2 : (Lit.int .i64 more).wf = true) :
    Calls Try.prog 3 #[.int .i64 span, .slice ao n c, .int .i64 more] W fun e w' => e = .returned (.bool true) ∧ Below W.heap.size W w' :=
  lives_any span more ao n c gaps W h hnc (by omega) (lit_sc h0).1 (lit_sc h0).2 (lit_sc h2).1 (lit_sc h2).2
end Go.Proofs.Ytmlgggcdjknlfaa
