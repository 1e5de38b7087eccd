/-
  Sessions that are written and read go on as they would have: the walk.
-/
import Derived.Test.YtmlgggcdjknlfaaFit
import Derived.Test.YtmlgggcdjknlfaaApartW
import Derived.Deep.RegionWith
namespace Go.Proofs.Ytmlgggcdjknlfaa
open Go.RowKit

theorem own_conv {w : World} {base : Nat} {v : Value} {l : List UInt8} (h : OwnB w base 5 v l) : ∃ ao n c, v = .slice ao n c ∧ IsB w ao n c l ∧ (convert 40 9 (.slice ao n c)).run Try.prog w = .ok (.string (strB l)) w := by
  obtain ⟨ao, c, rfl, h1⟩ := h.isB
  exact ⟨ao, _, c, rfl, h1, conv_any w ao _ c l h1⟩

theorem all_of {w : World} {base a : Nat} {g : Option Nat} {s : Ss} (h : IsSess w base a g s) (hl : s.l.length ≤ 1000000) :
    ∀ w', Below w.heap.size w w' → Calls Try.prog 16 #[.pointer (some ⟨a, 0, none⟩)] w' fun e w2 => ∃ v, e = .returned v ∧ OwnI w2 w'.heap.size 2 v (idsOf s) ∧ Below w.heap.size w w2 ∧ Below w'.heap.size w' w2 := by
  intro w' hb
  refine (all_any base a g s w' (h.below hb) hl).mono ?_
  rintro e w2 ⟨v, rfl, hv, hb2⟩
  exact ⟨v, rfl, hv, hb.trans (hb2.mono hb.size), hb2⟩
theorem put_of {w : World} {base a : Nat} {g : Option Nat} {s : Ss} (h : IsSess w base a g s) (hl : s.l.length ≤ 1000) :
    ∀ w', Below w.heap.size w w' → Calls Try.prog 18 #[.pointer (some ⟨a, 0, none⟩)] w' fun e w2 => ∃ ao n c, e = .returned (.slice ao n c) ∧ (∀ w3, Below w2.heap.size w2 w3 → (convert 40 9 (.slice ao n c)).run Try.prog w3 = .ok (.string (strB (putB s))) w3) ∧ Below w.heap.size w w2 ∧ Below w'.heap.size w' w2 := by
  intro w' hb
  refine (put_any base a g s w' (h.below hb) hl).mono ?_
  rintro e w2 ⟨v, rfl, hv, hb2⟩
  obtain ⟨ao, n, c, rfl, h1, _⟩ := own_conv hv
  exact ⟨ao, n, c, rfl, fun w3 hb3 => conv_any w3 ao n c _ (h1.below hb3), hb.trans (hb2.mono hb.size), hb2⟩

set_option maxHeartbeats 8000000 in
set_option maxRecDepth 100000 in
theorem back_any (ao : Option Addr) (n c : Nat) (acts : List Ac) (bo : Option Addr) (q c2 : Nat) (more : List Ac) (w : World) (h : IsActs w ao n acts) (hnc : n ≤ c) (h2 : IsActs w bo q more) (hqc : q ≤ c2) :
    Calls Try.prog 7 #[.slice ao n c, .slice bo q c2] w fun e w' => e = .returned (.bool true) ∧ Below w.heap.size w w' := by
  have HA := Lib.hid (awake_any w)
  have HI := Lib.hid h
  have HJ := Lib.hid h2
  clear h h2
  by_cases hbad : 40 < n ∨ 40 < q
  · have hq : 40 < n ∨ (n ≤ 40 ∧ 40 < q) := by omega
    clear hbad
    rcases hq with q1 | ⟨q1, q2⟩
    all_goals
      go_enter Try.func7, Try.ntmps7
      go_wp2_with fail
      refine HA.out.mono ?_
      rintro e w1 ⟨rfl, hb1⟩
      have HB1 := Lib.hid hb1; clear hb1
      go_wp2_with fail
      go_ret
      exact ⟨rfl, HB1.out⟩
  · obtain ⟨q1, q2⟩ : n ≤ 40 ∧ q ≤ 40 := by omega
    clear hbad
    go_enter Try.func7, Try.ntmps7
    go_wp2_with fail
    refine HA.out.mono ?_
    rintro e w1 ⟨rfl, hb1⟩
    have HN := Lib.hid (new_ok w.heap.size 5 w1 (by decide) (by decide) hb1.size)
    have HB1 := Lib.hid hb1; clear hb1
    go_wp2_with fail
    refine HN.out.mono ?_
    rintro e w2 ⟨rfl, hs2, hb2, hz2⟩
    have HM0 : Hid (Fit (newS 5) 0) := Lib.hid (fit_new 5 (by decide) (by decide) 0)
    have HB2 := Lib.hid (HB1.out.trans (hb2.mono HB1.out.size))
    have HU0 : Hid (Ours w w2 w.heap.size w1.heap.size (newS 5)) := Lib.hid ⟨⟨none, hs2, by simp⟩, HB2.out, HB2.out.size⟩
    clear hs2 hb2 hz2 HN
    generalize w1.heap.size = a at *
    generalize newS 5 = s0 at *
    go_wp2_with fail
    go_loopw [7] (fun i wr => ∃ (k : Nat) (s : Ss), k ≤ n ∧ i = .int .i64 (k : Int) ∧ Fit s k ∧ Ours w wr w.heap.size a s) (fun i _ => n - (intOf i).toNat)
    case atStart => exact ⟨0, s0, Nat.zero_le _, rfl, HM0.out, HU0.out⟩
    case round =>
      obtain ⟨k, s, hk, rfl, hm, hu⟩ := hrel
      have HM := Lib.hid hm
      have HUR := Lib.hid hu; clear hu hm
      by_cases hlt : k < n
      · obtain ⟨b, off, rfl, c0, c1, c2, hok⟩ := act_cell (HI.out.below HUR.out.below) hlt
        generalize acts.getD k ⟨0, 0, 0⟩ = x at *
        obtain ⟨op, id, sp⟩ := x
        obtain ⟨ok1, ok2, ok3⟩ := hok
        simp only at c0 c1 c2 ok1 ok2 ok3
        by_cases h0 : op = 0
        · subst h0
          have HD := Lib.hid (do_open sp HUR.out HM.out.made (by omega) ok3.1 ok3.2)
          have M2 := Lib.hid (HM.out.any sp)
          generalize openAny s sp = s' at *
          generalize openE s sp = oe at *
          generalize openN s sp = on at *
          go_wp2_with fail
          refine HD.out.mono ?_
          rintro e w4 ⟨rfl, hu4⟩
          have HU4 := Lib.hid hu4; clear hu4
          go_wp2_with fail
          go_roundw
          case rel => exact ⟨k + 1, s', by omega, by go_num, M2.out, HU4.out⟩
          case measure => simp [intOf]; omega
        by_cases h3 : op = 3
        · subst h3
          clear h0
          have HD := Lib.hid (do_tick HUR.out HM.out.made (by omega))
          have M2 := Lib.hid HM.out.tick
          generalize tickS s = s' at *
          go_wp2_with fail
          refine HD.out.mono ?_
          rintro e w4 ⟨v, rfl, hv, hu4, _⟩
          obtain ⟨a4, c4, rfl, _⟩ := hv.isI
          have HU4 := Lib.hid hu4; clear hu4 hv
          go_wp2_with fail
          go_roundw
          case rel => exact ⟨k + 1, s', by omega, by go_num, M2.out, HU4.out⟩
          case measure => simp [intOf]; omega
        · have g0 : (op == 0) = false := by simpa using h0
          have g3 : (op == 3) = false := by simpa using h3
          clear h0 h3
          have HD := Lib.hid (do_touch id HUR.out HM.out.made (by omega))
          have M2 := Lib.hid (HM.out.touch id)
          generalize touchS s id = s' at *
          generalize (if findS s.l id < 0 then (11 : Int) else 0) = r at *
          go_wp2_with fail
          refine HD.out.mono ?_
          rintro e w4 ⟨rfl, hu4⟩
          have HU4 := Lib.hid hu4; clear hu4
          go_wp2_with fail
          go_roundw
          case rel => exact ⟨k + 1, s', by omega, by go_num, M2.out, HU4.out⟩
          case measure => simp [intOf]; omega
      · obtain rfl : k = n := by omega
        obtain ⟨⟨g1, hs, hg1⟩, hbl, hsz⟩ := HUR.out
        have HPU := Lib.hid (put_any w.heap.size a g1 s wr hs (by have := HM.out.made.len; have := HM.out.made.room; omega))
        have HS := Lib.hid hs
        have HBL := Lib.hid hbl
        clear hs hbl
        go_wp2_with fail
        refine HPU.out.mono ?_
        rintro e w3 ⟨v, rfl, hown, hb3⟩
        obtain ⟨a3, c3, rfl, hbs⟩ := hown.isB
        have HG := Lib.hid (get_put s (HM.out.good (by omega)) a3 _ c3 w3 hbs)
        have HB3 := Lib.hid hb3
        clear hown hbs hb3
        go_wp2_with fail
        refine HG.out.mono ?_
        rintro e w4 ⟨b, g2, rfl, hs4, hb4⟩
        have hp : Pair w w4 a b g1 g2 s s := by
          have k1 := HS.out.lt
          have k2 := HS.out.glt
          have k3 := hs4.ge
          have k4 := hs4.glt
          have k5 := HB3.out.size
          refine ⟨(HS.out.below HB3.out).below hb4, ?_, by omega, fun e => by have := (k2 _ e).2; omega, fun e => by have := (k4 _ e).1; omega, fun j hj e => by have := (k2 _ hj).2; have := (k4 _ e).1; omega, (HBL.out.trans (HB3.out.mono hsz)).trans (hb4.mono (by omega))⟩
          obtain ⟨⟨v, m1, m2, m3⟩, m4, m5⟩ := hs4
          exact ⟨⟨v, m1, rows_mono m2 (by omega), m3⟩, by omega, m5⟩
        have HP := Lib.hid hp
        clear hp hs4 hb4 HS HBL HUR HU0
        go_wp2_with fail
        go_loopw [10] (fun i wr => ∃ (j : Nat) (s : Ss) (g1 g2 : Option Nat), j ≤ q ∧ i = .int .i64 (j : Int) ∧ Fit s (k + j) ∧ Pair w wr a b g1 g2 s s) (fun i _ => q - (intOf i).toNat)
        case atStart => exact ⟨0, s, g1, g2, Nat.zero_le _, rfl, HM.out, HP.out⟩
        case round =>
          obtain ⟨j, t, g1, g2, hj, rfl, hm, hu⟩ := hrel
          have HMT := Lib.hid hm
          have HUR := Lib.hid hu; clear hu hm
          by_cases hlt : j < q
          · obtain ⟨b5, off, rfl, _, _, e2, _⟩ := act_cell HJ.out hlt
            obtain ⟨b6, off6, he, c0, c1, c2, hok⟩ := act_cell (HJ.out.below HUR.out.below) hlt
            obtain ⟨rfl, rfl⟩ : b5 = b6 ∧ off = off6 := by simpa using he
            have hcc : ∀ w', Below w.heap.size w w' → w'.cell? ⟨b5, off + j * 3 + 2, none⟩ = _ := fun w' hb' => cell_later hb' e2
            clear he e2
            generalize more.getD j ⟨0, 0, 0⟩ = x at *
            obtain ⟨op, id, sp⟩ := x
            obtain ⟨ok1, ok2, ok3⟩ := hok
            simp only at c0 c1 c2 ok1 ok2 ok3 hcc
            by_cases h0 : op = 0
            · subst h0
              have HD := Lib.hid (two_open HUR.out HMT.out.made (by omega) sp ok3.1 ok3.2)
              have HD2 : Hid (∀ w' g1', Pair w w' a b g1' g2 (openAny t sp) t → Calls Try.prog 11 #[.pointer (some ⟨b, 0, none⟩), .int .i64 sp] w' fun e W' => e = .returned (.tuple #[.int .i64 (openN t sp), .int .i64 (openE t sp)]) ∧ ∃ g2', Pair w W' a b g1' g2' (openAny t sp) (openAny t sp)) := Lib.hid (by
                intro w' g1' hp
                refine (two_open hp.symm HMT.out.made (by omega) sp ok3.1 ok3.2).mono ?_
                rintro e W' ⟨rfl, g2', hp2⟩
                exact ⟨rfl, g2', hp2.symm⟩)
              have M2 := Lib.hid (HMT.out.any sp)
              generalize openAny t sp = t' at *
              generalize openE t sp = oe at *
              generalize openN t sp = on at *
              have hon : (on != on) = false := by simp
              have hoe : (oe != oe) = false := by simp
              go_wp2_with fail
              refine HD.out.mono ?_
              rintro e w5 ⟨rfl, g1', hp5⟩
              have hc2 := hcc w5 hp5.below
              have HP5 := Lib.hid hp5; clear hp5
              go_wp2_with fail
              refine (HD2.out _ _ HP5.out).mono ?_
              rintro e w6 ⟨rfl, g2', hp6⟩
              have HP6 := Lib.hid hp6; clear hp6 hc2
              go_wp2_with fail
              go_roundw
              case rel => exact ⟨j + 1, t', g1', g2', by omega, by go_num, M2.out, HP6.out⟩
              case measure => simp [intOf]; omega
            · have g0 : (op == 0) = false := by simpa using h0
              clear h0
              have HD := Lib.hid (two_tick HUR.out HMT.out.made (by omega))
              have HD2 : Hid (∀ w', Pair w w' a b g1 g2 (tickS t) t → Calls Try.prog 12 #[.pointer (some ⟨b, 0, none⟩)] w' fun e W' => ∃ v, e = .returned v ∧ OwnI W' w'.heap.size 2 v (overIds (t.now + 1) t.l) ∧ Pair w W' a b g1 g2 (tickS t) (tickS t) ∧ Only (b :: g2.toList) w' W') := Lib.hid (by
                intro w' hp
                refine (two_tick hp.symm HMT.out.made (by omega)).mono ?_
                rintro e W' ⟨v, rfl, h1, h2, h3⟩
                exact ⟨v, rfl, h1, h2.symm, h3⟩)
              have M2 := Lib.hid HMT.out.tick
              have hsm : ∀ k ∈ b :: g2.toList, k < wr.heap.size := by
                intro k hk
                simp at hk
                rcases hk with rfl | hk
                · exact HUR.out.two.lt
                · exact (HUR.out.two.glt k hk).2
              have HSM := Lib.hid hsm; clear hsm
              have hol : (overIds (t.now + 1) t.l).length ≤ 1000000 := by
                have h1 : (overIds (t.now + 1) t.l).length ≤ t.l.length := by unfold overIds; rw [List.length_map]; exact List.length_filter_le _ _
                have := HMT.out.made.len
                have := HMT.out.made.room
                omega
              generalize tickS t = t' at *
              generalize overIds (t.now + 1) t.l = ol at *
              have HSA : Hid (sameI ol ol = true) := Lib.hid (by simp [sameI])
              go_wp2_with fail
              refine HD.out.mono ?_
              rintro e w5 ⟨v, rfl, hv, hp5, ho5⟩
              obtain ⟨a5, c5, rfl, _⟩ := hv.isI
              have HV := Lib.hid hv
              have HP5 := Lib.hid hp5; clear hp5 hv ho5
              go_wp2_with fail
              refine (HD2.out _ HP5.out).mono ?_
              rintro e w6 ⟨v, rfl, hv6, hp6, ho6⟩
              have hv5 := OwnI.only HV.out ho6 HSM.out
              obtain ⟨a6, c6, rfl, hi6⟩ := hv6.isI
              have hi5 : IsI w6 a5 ol.length c5 ol := by
                obtain ⟨a7, c7, he, h7⟩ := hv5.isI
                simp only [Value.slice.injEq] at he
                obtain ⟨rfl, _, rfl⟩ := he
                exact h7
              have HS6 := Lib.hid (ids_any a5 _ c5 ol a6 _ c6 ol w6 hi5 hi6 hol hol)
              rw [HSA.out] at HS6
              have HP6 := Lib.hid hp6; clear hp6 hv6 hv5 hi5 hi6 ho6
              go_wp2_with fail
              refine HS6.out.mono ?_
              rintro e w7 ⟨rfl, d, rfl⟩
              go_wp2_with fail
              go_roundw
              case rel => exact ⟨j + 1, t', g1, g2, by omega, by go_num, M2.out, HP6.out.later (below_drew (Below.refl _ _) d)⟩
              case measure => simp [intOf]; omega
          · obtain rfl : j = q := by omega
            have hol : (idsOf t).length ≤ 1000000 := by
              have := HMT.out.made.len
              have := HMT.out.made.room
              simp only [idsOf, List.length_map]; omega
            have hl64 : t.l.length ≤ 1000 := by
              have := HMT.out.made.len
              have := HMT.out.made.room
              omega
            have HAA := Lib.hid (all_of HUR.out.one (by omega))
            have HAB := Lib.hid (all_of HUR.out.two (by omega))
            have HPA := Lib.hid (put_of HUR.out.one hl64)
            have HPB := Lib.hid (put_of HUR.out.two hl64)
            have HBW := Lib.hid HUR.out.below
            generalize idsOf t = ol at *
            generalize strB (putB t) = sB at *
            have HSA : Hid (sameI ol ol = true) := Lib.hid (by simp [sameI])
            clear HUR HP HMT HM HPU HG
            go_wp2_with fail
            go_region_with (first
              | (go_at_call_of 16 a; refine (HAA.out _ (by exact below_drew (Below.refl wr.heap.size wr) 1)).mono ?_; rintro e u1 ⟨v, rfl, hv1, hB1, _⟩; obtain ⟨a1, c1, rfl, hi1⟩ := hv1.isI; have HI1 := Lib.hid hi1; clear hv1 hi1)
              | (go_at_call_of 16 b; refine (HAB.out _ (by exact hB1)).mono ?_; rintro e u2 ⟨v, rfl, hv2, hB2, hb2⟩; obtain ⟨a2, c2', rfl, hi2⟩ := hv2.isI; have HI2 := Lib.hid hi2; have HI12 := Lib.hid (HI1.out.below hb2); clear hv2 hi2 hb2)
              | (go_at_call 19; refine (ids_any _ _ _ ol _ _ _ ol _ (by exact HI12.out) (by exact HI2.out) hol hol).mono ?_; rw [HSA.out]; rintro e u3 ⟨rfl, d, rfl⟩)
              | (go_at_call_of 18 a; refine (HPA.out _ (by exact below_drew hB2 d)).mono ?_; rintro e u4 ⟨a4, n4, c4, rfl, hcv, hB4, _⟩; have HCV := Lib.hid hcv; have hcv4 := hcv u4 (Below.refl _ _); clear hcv)
              | (go_at_call_of 18 b; refine (HPB.out _ (by exact hB4)).mono ?_; rintro e u5 ⟨a5, n5, c5, rfl, hcv, hB5, hb5⟩; have hcv5 := hcv u5 (Below.refl _ _); have hcv45 := HCV.out u5 hb5; clear hcv hb5))
            all_goals go_wp2_with fail
            all_goals go_ret
            all_goals exact ⟨rfl, HBW.out.trans (hB5.mono HBW.out.size)⟩
theorem back_said (ao : Option Addr) (n c : Nat) (acts : List Ac) (bo : Option Addr) (q c2 : Nat) (more : List Ac) (W : World) (h : IsActs W ao n acts) (hnc : n ≤ c) (h2 : IsActs W bo q more) (hqc : q ≤ c2) :
    Calls Try.prog 7 #[.slice ao n c, .slice bo q c2] W fun e w' => e = .returned (.bool true) ∧ Below W.heap.size W w' := back_any ao n c acts bo q c2 more W h hnc h2 hqc
end Go.Proofs.Ytmlgggcdjknlfaa
