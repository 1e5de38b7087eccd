/-
  A session that is touched by nobody ends at its own time: the walk.
-/
import Derived.Test.YtmlgggcdjknlfaaDo
namespace Go.Proofs.Ytmlgggcdjknlfaa
open Go.RowKit

theorem act_cell {w : World} {ao : Option Addr} {n : Nat} {l : List Ac} (h : IsActs w ao n l) {k : Nat} (hk : k < n) : ∃ b off, ao = some ⟨b, off, none⟩ ∧ w.cell? ⟨b, off + k * 3, none⟩ = some (.int .i64 (l.getD k ⟨0, 0, 0⟩).op) ∧ w.cell? ⟨b, off + k * 3 + 1, none⟩ = some (.int .i64 (l.getD k ⟨0, 0, 0⟩).id) ∧ w.cell? ⟨b, off + k * 3 + 2, none⟩ = some (.int .i64 (l.getD k ⟨0, 0, 0⟩).span) ∧ (l.getD k ⟨0, 0, 0⟩).ok := by
  rcases h.at_ with h0 | ⟨b, off, h1, h2⟩
  · omega
  · exact ⟨b, off, h1, h2 k hk⟩

set_option maxHeartbeats 8000000 in
set_option maxRecDepth 100000 in
theorem apart_any (span : Int) (ao : Option Addr) (n c : Nat) (acts : List Ac) (w : World) (h : IsActs w ao n acts) (hnc : n ≤ c) (hs1 : -9223372036854775808 ≤ span) (hs2 : span ≤ 9223372036854775807) :
    Calls Try.prog 4 #[.int .i64 span, .slice ao n c] w fun e w' => e = .returned (.bool true) ∧ Below w.heap.size w w' := by
  have HA := Lib.hid (awake_any w)
  have HI := Lib.hid h
  clear h
  by_cases hbad : span < 1 ∨ 30 < span ∨ 80 < n
  · have hq : span < 1 ∨ (1 ≤ span ∧ 30 < span) ∨ (1 ≤ span ∧ span ≤ 30 ∧ 80 < n) := by omega
    clear hbad
    rcases hq with q1 | ⟨q1, q2⟩ | ⟨q1, q2, q3⟩
    all_goals
      go_enter Try.func4, Try.ntmps4
      go_wp2_with fail
      refine HA.out.mono ?_
      rintro e w1 ⟨rfl, hb1⟩
      have HB1 := Lib.hid hb1; clear hb1
      go_wp2_with fail
      go_ret
      exact ⟨rfl, HB1.out⟩
  · obtain ⟨q1, q2, q3⟩ : 1 ≤ span ∧ span ≤ 30 ∧ n ≤ 80 := by omega
    clear hbad hs1 hs2
    go_enter Try.func4, Try.ntmps4
    go_wp2_with fail
    refine HA.out.mono ?_
    rintro e w1 ⟨rfl, hb1⟩
    have HN := Lib.hid (new_ok w.heap.size 10 w1 (by decide) (by decide) hb1.size)
    have HB1 := Lib.hid hb1; clear hb1
    go_wp2_with fail
    refine HN.out.mono ?_
    rintro e w2 ⟨rfl, hs2, hb2, hz2⟩
    have HM0 : Hid (Made (newS 10) 0) := Lib.hid ⟨by decide, by decide, by decide, by decide, by decide, by decide, by simp [newS]⟩
    have HB2 := Lib.hid (HB1.out.trans (hb2.mono HB1.out.size))
    have HU0 : Hid (Ours w w2 w.heap.size w1.heap.size (newS 10)) := Lib.hid ⟨⟨none, hs2, by simp⟩, HB2.out, HB2.out.size⟩
    have HO := Lib.hid (do_open span HU0.out HM0.out (by decide) (by omega) (by omega))
    have e1 : openAny (newS 10) span = openS (newS 10) span := by unfold openAny; rw [if_neg (by unfold openBad; omega), if_neg (by simp [newS])]
    have e2 : openN (newS 10) span = 1 := by unfold openN; rw [if_neg (by unfold openBad; omega), if_neg (by simp [newS])]; rfl
    have HM1 := Lib.hid (HM0.out.any span)
    have HW1 : Hid (Own1 (openS (newS 10) span) span) := Lib.hid ⟨by simp [openS, newS], by simp [openS, newS]; omega, Int.le_refl 2⟩
    rw [e1, e2] at HO
    rw [e1] at HM1
    clear hs2 hb2 e1 e2 hz2
    generalize hA : w1.heap.size = a at *
    generalize hE : openE (newS 10) span = oe at *
    have hnow : (openS (newS 10) span).now = 0 := rfl
    have hroom : (openS (newS 10) span).room = 10 := rfl
    generalize openS (newS 10) span = s0 at *
    go_wp2_with fail
    refine HO.out.mono ?_
    rintro e w3 ⟨rfl, hu⟩
    have HU := Lib.hid hu; clear hu
    go_wp2_with fail
    go_loopw [9, 10] (fun t i wr => ∃ (k : Nat) (s : Ss), k ≤ n ∧ i = .int .i64 (k : Int) ∧ t = .int .i64 s.now ∧ Made s (k + 1) ∧ Own1 s span ∧ Ours w wr w.heap.size a s) (fun _ i _ => n - (intOf i).toNat)
    case atStart => exact ⟨0, s0, Nat.zero_le _, rfl, by rw [hnow], HM1.out, HW1.out, HU.out⟩
    case round =>
      obtain ⟨k, s, hk, rfl, rfl, hm, how, hu⟩ := hrel
      have HM := Lib.hid hm
      have HOW := Lib.hid how; clear how
      have HUR := Lib.hid hu; clear hu
      have hn0 := hm.now0
      have hn1 := hm.now1
      clear hm
      by_cases hlt : k < n
      · obtain ⟨b, off, rfl, c0, c1, c2, hok⟩ := act_cell (HI.out.below HUR.out.below) hlt
        generalize acts.getD k ⟨0, 0, 0⟩ = x at *
        obtain ⟨op, id, sp⟩ := x
        obtain ⟨ok1, ok2, ok3⟩ := hok
        simp only at c0 c1 c2 ok1 ok2 ok3
        have fin : ∀ (s' : Ss) (w' : World), Made s' (k + 2) → Own1 s' span → Ours w w' w.heap.size a s' → Hid (Calls Try.prog 14 #[.pointer (some ⟨a, 0, none⟩), .int .i64 1] w' fun e w'' => e = .returned (.bool (decide (s'.now < span))) ∧ Ours w w'' w.heap.size a s') := fun s' w' h1 h2 h3 => Lib.hid (by
          refine (do_live 1 h3 h1).mono ?_
          rintro e w'' ⟨rfl, h4⟩
          refine ⟨?_, h4⟩
          congr 2
          exact decide_eq_decide.2 ((find_iff _ _).trans h2.lives))
        have FIN := Lib.hid fin; clear fin
        by_cases h0 : op = 0
        · subst h0
          have HD := Lib.hid (do_open sp HUR.out HM.out (by omega) ok3.1 ok3.2)
          have hna : (openAny s sp).now = s.now := by unfold openAny; split; rfl; split <;> rfl
          have M2 := Lib.hid (HM.out.any sp)
          have O2 := Lib.hid (HOW.out.any sp)
          generalize openAny s sp = s' at *
          go_wp2_with fail
          refine HD.out.mono ?_
          rintro e w4 ⟨rfl, hu4⟩
          have HU4 := Lib.hid hu4; clear hu4
          go_wp2_with fail
          refine (FIN.out s' w4 M2.out O2.out HU4.out).out.mono ?_
          rintro e w5 ⟨rfl, hu5⟩
          have HU5 := Lib.hid hu5; clear hu5
          rw [hna]
          by_cases hl : s.now < span
          · rw [decide_eq_true hl]
            go_wp2_with fail
            go_roundw
            case rel => exact ⟨k + 1, s', by omega, by go_num, by rw [hna], M2.out, O2.out, HU5.out⟩
            case measure => simp [intOf]; omega
          · rw [decide_eq_false hl]
            have hl2 : span ≤ s.now := by omega
            clear hl
            go_wp2_with fail
            go_roundw
            case rel => exact ⟨k + 1, s', by omega, by go_num, by rw [hna], M2.out, O2.out, HU5.out⟩
            case measure => simp [intOf]; omega
        by_cases h3 : op = 3
        · subst h3
          clear h0
          have HD := Lib.hid (do_tick HUR.out HM.out (by omega))
          have hna : (tickS s).now = s.now + 1 := rfl
          have M2 := Lib.hid HM.out.tick
          have O2 := Lib.hid HOW.out.tick
          generalize tickS s = s' at *
          go_wp2_with fail
          refine HD.out.mono ?_
          rintro e w4 ⟨v, rfl, hv, hu4, _⟩
          obtain ⟨a4, c4, rfl, _⟩ := hv.isI
          have HU4 := Lib.hid hu4; clear hu4 hv
          go_wp2_with fail
          refine (FIN.out s' w4 M2.out O2.out HU4.out).out.mono ?_
          rintro e w5 ⟨rfl, hu5⟩
          have HU5 := Lib.hid hu5; clear hu5
          rw [hna]
          by_cases hl : s.now + 1 < span
          · rw [decide_eq_true hl]
            go_wp2_with fail
            go_roundw
            case rel => exact ⟨k + 1, s', by omega, by go_num, by rw [hna], M2.out, O2.out, HU5.out⟩
            case measure => simp [intOf]; omega
          · rw [decide_eq_false hl]
            have hl2 : span ≤ s.now + 1 := by omega
            clear hl
            go_wp2_with fail
            go_roundw
            case rel => exact ⟨k + 1, s', by omega, by go_num, by rw [hna], M2.out, O2.out, HU5.out⟩
            case measure => simp [intOf]; omega
        by_cases h1 : id = 1
        · subst h1
          have M2 := Lib.hid HM.out.next
          have O2 := HOW
          have HU4 := HUR
          go_wp2_with fail
          refine (FIN.out s wr M2.out O2.out HU4.out).out.mono ?_
          rintro e w5 ⟨rfl, hu5⟩
          have HU5 := Lib.hid hu5; clear hu5
          by_cases hl : s.now < span
          · rw [decide_eq_true hl]
            go_wp2_with fail
            go_roundw
            case rel => exact ⟨k + 1, s, by omega, by go_num, rfl, M2.out, O2.out, HU5.out⟩
            case measure => simp [intOf]; omega
          · rw [decide_eq_false hl]
            have hl2 : span ≤ s.now := by omega
            clear hl
            go_wp2_with fail
            go_roundw
            case rel => exact ⟨k + 1, s, by omega, by go_num, rfl, M2.out, O2.out, HU5.out⟩
            case measure => simp [intOf]; omega
        · have HD := Lib.hid (do_touch id HUR.out HM.out (by omega))
          have hna : (touchS s id).now = s.now := by unfold touchS; split <;> rfl
          have M2 := Lib.hid (HM.out.touch id)
          have O2 := Lib.hid (HOW.out.touch id h1)
          generalize touchS s id = s' at *
          generalize (if findS s.l id < 0 then (11 : Int) else 0) = r at *
          have hb1 : (id != 1) = true := by simpa using h1
          clear h1
          go_wp2_with fail
          refine HD.out.mono ?_
          rintro e w4 ⟨rfl, hu4⟩
          have HU4 := Lib.hid hu4; clear hu4
          go_wp2_with fail
          refine (FIN.out s' w4 M2.out O2.out HU4.out).out.mono ?_
          rintro e w5 ⟨rfl, hu5⟩
          have HU5 := Lib.hid hu5; clear hu5
          rw [hna]
          by_cases hl : s.now < span
          · rw [decide_eq_true hl]
            go_wp2_with fail
            go_roundw
            case rel => exact ⟨k + 1, s', by omega, by go_num, by rw [hna], M2.out, O2.out, HU5.out⟩
            case measure => simp [intOf]; omega
          · rw [decide_eq_false hl]
            have hl2 : span ≤ s.now := by omega
            clear hl
            go_wp2_with fail
            go_roundw
            case rel => exact ⟨k + 1, s', by omega, by go_num, by rw [hna], M2.out, O2.out, HU5.out⟩
            case measure => simp [intOf]; omega
      · obtain rfl : k = n := by omega
        go_wp2_with fail
        go_ret
        exact ⟨rfl, HUR.out.below⟩

theorem apart_said (span : Int) (ao : Option Addr) (n c : Nat) (acts : List Ac) (W : World) (h0 : (Lit.int .i64 span).wf = true) (h : IsActs W ao n acts) (hnc : n ≤ c) :
    Calls Try.prog 4 #[.int .i64 span, .slice ao n c] W fun e w' => e = .returned (.bool true) ∧ Below W.heap.size W w' :=
  apart_any span ao n c acts W h hnc (lit_sc h0).1 (lit_sc h0).2
end Go.Proofs.Ytmlgggcdjknlfaa
