/-
  Sessions have numbers that rise: the walk.
-/
import Derived.Test.YtmlgggcdjknlfaaNum
import Derived.Test.YtmlgggcdjknlfaaApartW
import Derived.Deep.DeepCutAuto
import Derived.Deep.CutBlock
import Derived.Deep.RegionHeld3
namespace Go.Proofs.Ytmlgggcdjknlfaa
open Go.RowKit

set_option maxHeartbeats 8000000 in
set_option maxRecDepth 100000 in
theorem numbers_any (ao : Option Addr) (n c : Nat) (acts : List Ac) (w : World) (h : IsActs w ao n acts) (hnc : n ≤ c) :
    Calls Try.prog 5 #[.slice ao n c] w fun e w' => e = .returned (.bool true) ∧ Below w.heap.size w w' := by
  have HA := Lib.hid (awake_any w)
  have HI := Lib.hid h
  clear h
  by_cases hbad : 80 < n
  · go_enter Try.func5, Try.ntmps5
    go_wp2_with fail
    refine HA.out.mono ?_
    rintro e w1 ⟨rfl, hb1⟩
    have HB1 := Lib.hid hb1; clear hb1
    go_wp2_with fail
    go_ret
    exact ⟨rfl, HB1.out⟩
  · have q3 : n ≤ 80 := by omega
    clear hbad
    go_enter Try.func5, Try.ntmps5
    go_wp2_with fail
    refine HA.out.mono ?_
    rintro e w1 ⟨rfl, hb1⟩
    have HN := Lib.hid (new_ok w.heap.size 5 w1 (by decide) (by decide) hb1.size)
    have HB1 := Lib.hid hb1; clear hb1
    go_wp2_with fail
    refine HN.out.mono ?_
    rintro e w2 ⟨rfl, hs2, hb2, hz2⟩
    have HM0 : Hid (Nums (newS 5) 0) := Lib.hid ⟨⟨by decide, by decide, by decide, by decide, by decide, by decide, by simp [newS]⟩, ⟨by simp [newS, idsOf], by simp [newS, idsOf]⟩, rfl⟩
    have HB2 := Lib.hid (HB1.out.trans (hb2.mono HB1.out.size))
    have HU0 : Hid (Ours w w2 w.heap.size w1.heap.size (newS 5)) := Lib.hid ⟨⟨none, hs2, by simp⟩, HB2.out, HB2.out.size⟩
    clear hs2 hb2 hz2
    generalize hA : w1.heap.size = a at *
    have hnext : (newS 5).next = 1 := rfl
    generalize newS 5 = s0 at *
    go_wp2_with fail
    go_loopw [5, 6] (fun t i wr => ∃ (k : Nat) (s : Ss), k ≤ n ∧ i = .int .i64 (k : Int) ∧ t = .int .i64 (s.next - 1) ∧ Nums s k ∧ Ours w wr w.heap.size a s) (fun _ i _ => n - (intOf i).toNat)
    case atStart => exact ⟨0, s0, Nat.zero_le _, rfl, by rw [hnext]; rfl, HM0.out, HU0.out⟩
    case round =>
      obtain ⟨k, s, hk, rfl, rfl, hm, hu⟩ := hrel
      have HM := Lib.hid hm
      have HUR := Lib.hid hu; clear hu
      have hn0 := hm.made.next0
      have hn1 := hm.made.next1
      clear hm
      by_cases hlt : k < n
      · obtain ⟨b, off, rfl, c0, c1, c2, hok⟩ := act_cell (HI.out.below HUR.out.below) hlt
        generalize acts.getD k ⟨0, 0, 0⟩ = x at *
        obtain ⟨op, id, sp⟩ := x
        obtain ⟨ok1, ok2, ok3⟩ := hok
        simp only at c0 c1 c2 ok1 ok2 ok3
        go_upto_block 2 with (fail)
        go_cut [5] (fun t wx => ∃ s' : Ss, t = .int .i64 (s'.next - 1) ∧ Nums s' (k + 1) ∧ Ours w wx w.heap.size a s')
        case first =>
          by_cases h0 : op = 0
          · subst h0
            have HD := Lib.hid (do_open sp HUR.out HM.out.made (by omega) ok3.1 ok3.2)
            have M2 := Lib.hid (HM.out.any sp)
            rcases openE_cases s sp with ⟨e1, e2, e3⟩ | ⟨e1, e2, e3⟩
            · rw [e1, e3] at HD
              have hlv : decide (0 ≤ findS (openAny s sp).l s.next) = true := decide_eq_true ((live_ids _ _).2 (by rw [e2, ids_open]; simp))
              have hnx : (openAny s sp).next = s.next + 1 := by rw [e2]; rfl
              have HLV := Lib.hid hlv
              generalize openAny s sp = s' at *
              clear e1 e2 e3 hlv
              have h5 : (s.next != s.next) = false := by simp
              go_wp2_with fail
              refine HD.out.mono ?_
              rintro e w4 ⟨rfl, hu4⟩
              have HL := Lib.hid (do_live s.next hu4 M2.out.made)
              have HU4 := Lib.hid hu4; clear hu4
              rw [HLV.out] at HL
              have e6 : s.next - 1 + 1 = s.next := by omega
              go_wp2_with fail
              refine HL.out.mono ?_
              rintro e w5 ⟨rfl, hu5⟩
              have HU5 := Lib.hid hu5; clear hu5
              go_wp2_with fail
              go_meet
              exact ⟨s', by rw [hnx]; congr 1; omega, M2.out, HU5.out⟩
            · rw [e3] at HD M2
              generalize openE s sp = oe at *
              generalize openN s sp = on at *
              clear e3
              go_wp2_with fail
              refine HD.out.mono ?_
              rintro e w4 ⟨rfl, hu4⟩
              have HU4 := Lib.hid hu4; clear hu4
              go_wp2_with fail
              go_meet
              exact ⟨s, rfl, M2.out, HU4.out⟩
          by_cases h2 : op = 2
          · subst h2
            clear h0
            have HD := Lib.hid (do_close id HUR.out HM.out.made)
            have hna : (closeS s id).next = s.next := by unfold closeS; split <;> rfl
            have M2 := Lib.hid (HM.out.close id)
            generalize closeS s id = s' at *
            generalize (if findS s.l id < 0 then (11 : Int) else 0) = r at *
            go_wp2_with fail
            refine HD.out.mono ?_
            rintro e w4 ⟨rfl, hu4⟩
            have HU4 := Lib.hid hu4; clear hu4
            go_wp2_with fail
            go_meet
            exact ⟨s', by rw [hna], M2.out, HU4.out⟩
          by_cases h3 : op = 3
          · subst h3
            clear h0 h2
            have HD := Lib.hid (do_tick HUR.out HM.out.made (by omega))
            have hna : (tickS s).next = s.next := rfl
            have M2 := Lib.hid HM.out.tick
            generalize tickS s = s' at *
            go_wp2_with fail
            refine HD.out.mono ?_
            rintro e w4 ⟨v, rfl, hv, hu4, _⟩
            obtain ⟨a4, c4, rfl, _⟩ := hv.isI
            have HU4 := Lib.hid hu4; clear hu4 hv
            go_wp2_with fail
            go_meet
            exact ⟨s', by rw [hna], M2.out, HU4.out⟩
          · have g0 : (op == 0) = false := by simpa using h0
            have g2 : (op == 2) = false := by simpa using h2
            have g3 : (op == 3) = false := by simpa using h3
            clear h0 h2 h3
            have HD := Lib.hid (do_touch id HUR.out HM.out.made (by omega))
            have hna : (touchS s id).next = s.next := by unfold touchS; split <;> rfl
            have M2 := Lib.hid (HM.out.touch id)
            generalize touchS s id = s' at *
            generalize (if findS s.l id < 0 then (11 : Int) else 0) = r at *
            go_wp2_with fail
            refine HD.out.mono ?_
            rintro e w4 ⟨rfl, hu4⟩
            have HU4 := Lib.hid hu4; clear hu4
            go_wp2_with fail
            go_meet
            exact ⟨s', by rw [hna], M2.out, HU4.out⟩
        case rest =>
          obtain ⟨s', rfl, hm', hu'⟩ := hcut
          have HM' := Lib.hid hm'
          have hn0' := hm'.made.next0
          have hn1' := hm'.made.next1
          have HD := Lib.hid (do_all hu' hm'.made)
          clear hu' hm' HM HUR c0 c1 c2 hn0 hn1
          go_wp2_with fail
          refine HD.out.mono ?_
          rintro e w4 ⟨v, rfl, hv, hu4, _⟩
          have hlen : ((s'.l.map Se.id).length : Int) ≤ 5 := by
            have h1 := HM'.out.made.len
            have h2 := HM'.out.room
            rw [List.length_map]; omega
          change OwnI w4 wc.heap.size 2 v (idsOf s') at hv
          change ((idsOf s').length : Int) ≤ 5 at hlen
          obtain ⟨a4, c4, rfl, hi4⟩ := hv.isI
          have HU4 := Lib.hid hu4; clear hu4 hv
          have HI4 := Lib.hid hi4; clear hi4
          have HR : Hid (∀ j, j < (idsOf s').length → 1 ≤ (idsOf s').getD j 0 ∧ (idsOf s').getD j 0 < s'.next ∧ decide (0 ≤ findS s'.l ((idsOf s').getD j 0)) = true ∧ (0 < j → (idsOf s').getD (j - 1) 0 < (idsOf s').getD j 0)) := Lib.hid fun j hj => by
            obtain ⟨h1, h2, h3, h4⟩ := HM'.out.rise.at_ hj
            exact ⟨h1, h2, decide_eq_true ((live_ids _ _).2 h3), h4⟩
          generalize idsOf s' = m at *
          generalize hml : m.length = q at *
          have HML := Lib.hid hml; clear hml HD
          go_wp2_with fail
          go_loopw [10] (fun i wr => ∃ j : Nat, j ≤ q ∧ i = .int .i64 (j : Int) ∧ IsI wr a4 q c4 m ∧ Ours w wr w.heap.size a s') (fun i _ => q - (intOf i).toNat)
          case atStart => exact ⟨0, Nat.zero_le _, rfl, HI4.out, HU4.out⟩
          case round =>
            obtain ⟨j, hj, rfl, hi, hu⟩ := hrel
            by_cases hjq : j < q
            · obtain ⟨r1, r2, r3, r4⟩ := HR.out j hjq
              obtain ⟨b5, off5, rfl, hcell⟩ : ∃ b off, a4 = some ⟨b, off, none⟩ ∧ ∀ i, i < q → wr.cell? ⟨b, off + i, none⟩ = some (.int .i64 (m.getD i 0)) := by
                obtain ⟨_, _, h3⟩ := hi
                rcases h3 with h3 | ⟨b, off, h4, h5⟩
                · omega
                · exact ⟨b, off, h4, h5⟩
              have HII := Lib.hid hi
              have HUU := Lib.hid hu
              have cx := hcell j hjq
              by_cases hj0 : j = 0
              · subst hj0
                clear hcell hi hu r4
                generalize m.getD 0 0 = x at *
                rw [Nat.add_zero] at cx
                have d1 : decide (x < 1) = false := decide_eq_false (by omega)
                have d2 : decide (s'.next - 1 < x) = false := decide_eq_false (by omega)
                clear r1 r2
                have HLV := Lib.hid (do_live2 x (HUU.out.draws 1) HM'.out.made)
                rw [r3] at HLV
                go_wp2_with fail
                refine wp_region_held_drew (S := fun w' => w'.cell? ⟨b5, off5, none⟩ = some (.int .i64 x)) (by kernel_rfl) (show wr.drew.cell? ⟨b5, off5, none⟩ = _ from cx) (fun hHeld => ?_)
                refine wpAnyH_take (i := 0) (oi := { dst := some 84, op := Op.move (Operand.tmp 9), type := 22, pos := _, after := #[], guard := none }) (v := ?_) rfl (by kernel_rfl) (by kernel_rfl) (by kernel_rfl) (fun _ _ _ h => h) (Or.inl ⟨by rfl, ?_⟩) (by exact hHeld) ?_
                rotate_left
                · (intro w hSw; (try dsimp only at hSw); go_simp <;> with_reducible rfl)
                try simp only [Act.put, List.setIfInBounds_toArray, List.set_cons_zero, List.set_cons_succ]
                refine wpAnyH_take (i := 1) (oi := { dst := some 85, op := Op.move (Operand.tmp 10), type := 3, pos := _, after := #[], guard := none }) (v := ?_) rfl (by kernel_rfl) (by kernel_rfl) (by kernel_rfl) (fun _ _ _ h => h) (Or.inl ⟨by rfl, ?_⟩) (by exact hHeld) ?_
                rotate_left
                · (intro w hSw; (try dsimp only at hSw); go_simp <;> with_reducible rfl)
                try simp only [Act.put, List.setIfInBounds_toArray, List.set_cons_zero, List.set_cons_succ]
                refine wpAnyH_take (i := 2) (oi := { dst := some 86, op := Op.indexAddr 22 (Operand.tmp 84) (Operand.tmp 85), type := 0, pos := _, after := #[{ on := 0, ground := Ground.data }, { on := 1, ground := Ground.data }], guard := none }) (v := ?_) rfl (by kernel_rfl) (by kernel_rfl) (by kernel_rfl) (fun _ _ _ h => h) (Or.inl ⟨by rfl, ?_⟩) (by exact hHeld) ?_
                rotate_left
                · (intro w hSw; (try dsimp only at hSw); go_simp <;> with_reducible rfl)
                try simp only [Act.put, List.setIfInBounds_toArray, List.set_cons_zero, List.set_cons_succ]
                refine wpAnyH_take (i := 3) (oi := { dst := some 87, op := Op.load 2 (Operand.tmp 86), type := 2, pos := _, after := #[{ on := 2, ground := Ground.data }], guard := none }) (v := ?_) rfl (by kernel_rfl) (by kernel_rfl) (by kernel_rfl) (fun _ _ _ h => h) (Or.inl ⟨by rfl, ?_⟩) (by exact hHeld) ?_
                rotate_left
                · (intro w hSw; (try dsimp only at hSw); go_simp <;> with_reducible rfl)
                try simp only [Act.put, List.setIfInBounds_toArray, List.set_cons_zero, List.set_cons_succ]
                refine wpAnyH_take (i := 4) (oi := { dst := some 88, op := Op.binOp BinOp.lss 2 (Operand.tmp 87) (Operand.const (Value.int IntKind.i64 1)) 2, type := 4, pos := _, after := #[{ on := 3, ground := Ground.data }], guard := none }) (v := ?_) rfl (by kernel_rfl) (by kernel_rfl) (by kernel_rfl) (fun _ _ _ h => h) (Or.inl ⟨by rfl, ?_⟩) (by exact hHeld) ?_
                rotate_left
                · (intro w hSw; (try dsimp only at hSw); go_simp <;> with_reducible rfl)
                try simp only [Act.put, List.setIfInBounds_toArray, List.set_cons_zero, List.set_cons_succ]
                refine wpAnyH_take (i := 5) (oi := { dst := some 89, op := Op.move (Operand.tmp 88), type := 4, pos := _, after := #[{ on := 4, ground := Ground.data }], guard := none }) (v := ?_) rfl (by kernel_rfl) (by kernel_rfl) (by kernel_rfl) (fun _ _ _ h => h) (Or.inl ⟨by rfl, ?_⟩) (by exact hHeld) ?_
                rotate_left
                · (intro w hSw; (try dsimp only at hSw); go_simp <;> with_reducible rfl)
                try simp only [Act.put, List.setIfInBounds_toArray, List.set_cons_zero, List.set_cons_succ]
                refine wpAnyH_take (i := 6) (oi := { dst := some 90, op := Op.move (Operand.tmp 9), type := 22, pos := _, after := #[{ on := 5, ground := Ground.guard }], guard := some (5, false) }) (v := ?_) rfl (by kernel_rfl) (by kernel_rfl) (by kernel_rfl) (fun _ _ _ h => h) (Or.inl ⟨by rfl, ?_⟩) (by exact hHeld) ?_
                rotate_left
                · (intro w hSw; (try dsimp only at hSw); go_simp <;> with_reducible rfl)
                try simp only [Act.put, List.setIfInBounds_toArray, List.set_cons_zero, List.set_cons_succ]
                refine wpAnyH_take (i := 7) (oi := { dst := some 91, op := Op.move (Operand.tmp 10), type := 3, pos := _, after := #[{ on := 5, ground := Ground.guard }], guard := some (5, false) }) (v := ?_) rfl (by kernel_rfl) (by kernel_rfl) (by kernel_rfl) (fun _ _ _ h => h) (Or.inl ⟨by rfl, ?_⟩) (by exact hHeld) ?_
                rotate_left
                · (intro w hSw; (try dsimp only at hSw); go_simp <;> with_reducible rfl)
                try simp only [Act.put, List.setIfInBounds_toArray, List.set_cons_zero, List.set_cons_succ]
                refine wpAnyH_take (i := 8) (oi := { dst := some 92, op := Op.indexAddr 22 (Operand.tmp 90) (Operand.tmp 91), type := 0, pos := _, after := #[{ on := 6, ground := Ground.data }, { on := 7, ground := Ground.data }, { on := 5, ground := Ground.guard }], guard := some (5, false) }) (v := ?_) rfl (by kernel_rfl) (by kernel_rfl) (by kernel_rfl) (fun _ _ _ h => h) (Or.inl ⟨by rfl, ?_⟩) (by exact hHeld) ?_
                rotate_left
                · (intro w hSw; (try dsimp only at hSw); go_simp <;> with_reducible rfl)
                try simp only [Act.put, List.setIfInBounds_toArray, List.set_cons_zero, List.set_cons_succ]
                refine wpAnyH_take (i := 9) (oi := { dst := some 93, op := Op.load 2 (Operand.tmp 92), type := 2, pos := _, after := #[{ on := 8, ground := Ground.data }, { on := 5, ground := Ground.guard }], guard := some (5, false) }) (v := ?_) rfl (by kernel_rfl) (by kernel_rfl) (by kernel_rfl) (fun _ _ _ h => h) (Or.inl ⟨by rfl, ?_⟩) (by exact hHeld) ?_
                rotate_left
                · (intro w hSw; (try dsimp only at hSw); go_simp <;> with_reducible rfl)
                try simp only [Act.put, List.setIfInBounds_toArray, List.set_cons_zero, List.set_cons_succ]
                refine wpAnyH_take (i := 10) (oi := { dst := some 94, op := Op.move (Operand.tmp 5), type := 2, pos := _, after := #[{ on := 5, ground := Ground.guard }], guard := some (5, false) }) (v := ?_) rfl (by kernel_rfl) (by kernel_rfl) (by kernel_rfl) (fun _ _ _ h => h) (Or.inl ⟨by rfl, ?_⟩) (by exact hHeld) ?_
                rotate_left
                · (intro w hSw; (try dsimp only at hSw); go_simp <;> with_reducible rfl)
                try simp only [Act.put, List.setIfInBounds_toArray, List.set_cons_zero, List.set_cons_succ]
                refine wpAnyH_take (i := 11) (oi := { dst := some 95, op := Op.binOp BinOp.gtr 2 (Operand.tmp 93) (Operand.tmp 94) 2, type := 4, pos := _, after := #[{ on := 9, ground := Ground.data }, { on := 10, ground := Ground.data }, { on := 5, ground := Ground.guard }], guard := some (5, false) }) (v := ?_) rfl (by kernel_rfl) (by kernel_rfl) (by kernel_rfl) (fun _ _ _ h => h) (Or.inl ⟨by rfl, ?_⟩) (by exact hHeld) ?_
                rotate_left
                · (intro w hSw; (try dsimp only at hSw); go_simp <;> with_reducible rfl)
                try simp only [Act.put, List.setIfInBounds_toArray, List.set_cons_zero, List.set_cons_succ]
                refine wpAnyH_take (i := 12) (oi := { dst := some 96, op := Op.pick (Operand.tmp 89) (Operand.const (Value.bool true)) (Operand.tmp 95), type := 4, pos := _, after := #[{ on := 5, ground := Ground.data }, { on := 11, ground := Ground.data }], guard := none }) (v := ?_) rfl (by kernel_rfl) (by kernel_rfl) (by kernel_rfl) (fun _ _ _ h => h) (Or.inl ⟨by rfl, ?_⟩) (by exact hHeld) ?_
                rotate_left
                · (intro w hSw; (try dsimp only at hSw); go_simp <;> with_reducible rfl)
                try simp only [Act.put, List.setIfInBounds_toArray, List.set_cons_zero, List.set_cons_succ]
                refine wpAnyH_take (i := 13) (oi := { dst := some 97, op := Op.move (Operand.tmp 96), type := 4, pos := _, after := #[{ on := 12, ground := Ground.data }, { on := 5, ground := Ground.chain }], guard := none }) (v := ?_) rfl (by kernel_rfl) (by kernel_rfl) (by kernel_rfl) (fun _ _ _ h => h) (Or.inl ⟨by rfl, ?_⟩) (by exact hHeld) ?_
                rotate_left
                · (intro w hSw; (try dsimp only at hSw); go_simp <;> with_reducible rfl)
                try simp only [Act.put, List.setIfInBounds_toArray, List.set_cons_zero, List.set_cons_succ]
                refine wpAnyH_take (i := 14) (oi := { dst := some 98, op := Op.move (Operand.tmp 10), type := 3, pos := _, after := #[{ on := 13, ground := Ground.guard }], guard := some (13, false) }) (v := ?_) rfl (by kernel_rfl) (by kernel_rfl) (by kernel_rfl) (fun _ _ _ h => h) (Or.inl ⟨by rfl, ?_⟩) (by exact hHeld) ?_
                rotate_left
                · (intro w hSw; (try dsimp only at hSw); go_simp <;> with_reducible rfl)
                try simp only [Act.put, List.setIfInBounds_toArray, List.set_cons_zero, List.set_cons_succ]
                refine wpAnyH_take (i := 15) (oi := { dst := some 99, op := Op.binOp BinOp.gtr 3 (Operand.tmp 98) (Operand.const (Value.int IntKind.i64 0)) 3, type := 4, pos := _, after := #[{ on := 14, ground := Ground.data }, { on := 13, ground := Ground.guard }], guard := some (13, false) }) (v := ?_) rfl (by kernel_rfl) (by kernel_rfl) (by kernel_rfl) (fun _ _ _ h => h) (Or.inl ⟨by rfl, ?_⟩) (by exact hHeld) ?_
                rotate_left
                · (intro w hSw; (try dsimp only at hSw); go_simp <;> with_reducible rfl)
                try simp only [Act.put, List.setIfInBounds_toArray, List.set_cons_zero, List.set_cons_succ]
                refine wpAnyH_take (i := 16) (oi := { dst := some 100, op := Op.move (Operand.tmp 99), type := 4, pos := _, after := #[{ on := 15, ground := Ground.data }, { on := 13, ground := Ground.chain }, { on := 13, ground := Ground.guard }], guard := some (13, false) }) (v := ?_) rfl (by kernel_rfl) (by kernel_rfl) (by kernel_rfl) (fun _ _ _ h => h) (Or.inl ⟨by rfl, ?_⟩) (by exact hHeld) ?_
                rotate_left
                · (intro w hSw; (try dsimp only at hSw); go_simp <;> with_reducible rfl)
                try simp only [Act.put, List.setIfInBounds_toArray, List.set_cons_zero, List.set_cons_succ]
                refine wpAnyH_take (i := 17) (oi := { dst := some 101, op := Op.move (Operand.tmp 9), type := 22, pos := _, after := #[{ on := 16, ground := Ground.guard }], guard := some (16, true) }) (v := undef) rfl (by kernel_rfl) (by kernel_rfl) (by kernel_rfl) (fun _ _ _ h => h) (Or.inr ⟨by rfl, rfl⟩) (by exact hHeld) ?_
                try simp only [Act.put, List.setIfInBounds_toArray, List.set_cons_zero, List.set_cons_succ]
                refine wpAnyH_take (i := 18) (oi := { dst := some 102, op := Op.move (Operand.tmp 10), type := 3, pos := _, after := #[{ on := 16, ground := Ground.guard }], guard := some (16, true) }) (v := undef) rfl (by kernel_rfl) (by kernel_rfl) (by kernel_rfl) (fun _ _ _ h => h) (Or.inr ⟨by rfl, rfl⟩) (by exact hHeld) ?_
                try simp only [Act.put, List.setIfInBounds_toArray, List.set_cons_zero, List.set_cons_succ]
                refine wpAnyH_take (i := 19) (oi := { dst := some 103, op := Op.indexAddr 22 (Operand.tmp 101) (Operand.tmp 102), type := 0, pos := _, after := #[{ on := 17, ground := Ground.data }, { on := 18, ground := Ground.data }, { on := 16, ground := Ground.guard }], guard := some (16, true) }) (v := undef) rfl (by kernel_rfl) (by kernel_rfl) (by kernel_rfl) (fun _ _ _ h => h) (Or.inr ⟨by rfl, rfl⟩) (by exact hHeld) ?_
                try simp only [Act.put, List.setIfInBounds_toArray, List.set_cons_zero, List.set_cons_succ]
                refine wpAnyH_take (i := 20) (oi := { dst := some 104, op := Op.load 2 (Operand.tmp 103), type := 2, pos := _, after := #[{ on := 19, ground := Ground.data }, { on := 16, ground := Ground.guard }], guard := some (16, true) }) (v := undef) rfl (by kernel_rfl) (by kernel_rfl) (by kernel_rfl) (fun _ _ _ h => h) (Or.inr ⟨by rfl, rfl⟩) (by exact hHeld) ?_
                try simp only [Act.put, List.setIfInBounds_toArray, List.set_cons_zero, List.set_cons_succ]
                refine wpAnyH_take (i := 21) (oi := { dst := some 105, op := Op.move (Operand.tmp 9), type := 22, pos := _, after := #[{ on := 16, ground := Ground.guard }], guard := some (16, true) }) (v := undef) rfl (by kernel_rfl) (by kernel_rfl) (by kernel_rfl) (fun _ _ _ h => h) (Or.inr ⟨by rfl, rfl⟩) (by exact hHeld) ?_
                try simp only [Act.put, List.setIfInBounds_toArray, List.set_cons_zero, List.set_cons_succ]
                refine wpAnyH_take (i := 22) (oi := { dst := some 106, op := Op.move (Operand.tmp 10), type := 3, pos := _, after := #[{ on := 16, ground := Ground.guard }], guard := some (16, true) }) (v := undef) rfl (by kernel_rfl) (by kernel_rfl) (by kernel_rfl) (fun _ _ _ h => h) (Or.inr ⟨by rfl, rfl⟩) (by exact hHeld) ?_
                try simp only [Act.put, List.setIfInBounds_toArray, List.set_cons_zero, List.set_cons_succ]
                refine wpAnyH_take (i := 23) (oi := { dst := some 107, op := Op.binOp BinOp.sub 3 (Operand.tmp 106) (Operand.const (Value.int IntKind.i64 1)) 3, type := 3, pos := _, after := #[{ on := 22, ground := Ground.data }, { on := 16, ground := Ground.guard }], guard := some (16, true) }) (v := undef) rfl (by kernel_rfl) (by kernel_rfl) (by kernel_rfl) (fun _ _ _ h => h) (Or.inr ⟨by rfl, rfl⟩) (by exact hHeld) ?_
                try simp only [Act.put, List.setIfInBounds_toArray, List.set_cons_zero, List.set_cons_succ]
                refine wpAnyH_take (i := 24) (oi := { dst := some 108, op := Op.indexAddr 22 (Operand.tmp 105) (Operand.tmp 107), type := 0, pos := _, after := #[{ on := 21, ground := Ground.data }, { on := 23, ground := Ground.data }, { on := 16, ground := Ground.guard }], guard := some (16, true) }) (v := undef) rfl (by kernel_rfl) (by kernel_rfl) (by kernel_rfl) (fun _ _ _ h => h) (Or.inr ⟨by rfl, rfl⟩) (by exact hHeld) ?_
                try simp only [Act.put, List.setIfInBounds_toArray, List.set_cons_zero, List.set_cons_succ]
                refine wpAnyH_take (i := 25) (oi := { dst := some 109, op := Op.load 2 (Operand.tmp 108), type := 2, pos := _, after := #[{ on := 24, ground := Ground.data }, { on := 16, ground := Ground.guard }], guard := some (16, true) }) (v := undef) rfl (by kernel_rfl) (by kernel_rfl) (by kernel_rfl) (fun _ _ _ h => h) (Or.inr ⟨by rfl, rfl⟩) (by exact hHeld) ?_
                try simp only [Act.put, List.setIfInBounds_toArray, List.set_cons_zero, List.set_cons_succ]
                refine wpAnyH_take (i := 26) (oi := { dst := some 110, op := Op.binOp BinOp.leq 2 (Operand.tmp 104) (Operand.tmp 109) 2, type := 4, pos := _, after := #[{ on := 20, ground := Ground.data }, { on := 25, ground := Ground.data }, { on := 16, ground := Ground.guard }], guard := some (16, true) }) (v := undef) rfl (by kernel_rfl) (by kernel_rfl) (by kernel_rfl) (fun _ _ _ h => h) (Or.inr ⟨by rfl, rfl⟩) (by exact hHeld) ?_
                try simp only [Act.put, List.setIfInBounds_toArray, List.set_cons_zero, List.set_cons_succ]
                refine wpAnyH_take (i := 27) (oi := { dst := some 111, op := Op.pick (Operand.tmp 100) (Operand.tmp 110) (Operand.const (Value.bool false)), type := 4, pos := _, after := #[{ on := 16, ground := Ground.data }, { on := 26, ground := Ground.data }, { on := 13, ground := Ground.guard }], guard := some (13, false) }) (v := ?_) rfl (by kernel_rfl) (by kernel_rfl) (by kernel_rfl) (fun _ _ _ h => h) (Or.inl ⟨by rfl, ?_⟩) (by exact hHeld) ?_
                rotate_left
                · (intro w hSw; (try dsimp only at hSw); go_simp <;> with_reducible rfl)
                try simp only [Act.put, List.setIfInBounds_toArray, List.set_cons_zero, List.set_cons_succ]
                refine wpAnyH_take (i := 28) (oi := { dst := some 112, op := Op.pick (Operand.tmp 97) (Operand.const (Value.bool true)) (Operand.tmp 111), type := 4, pos := _, after := #[{ on := 13, ground := Ground.data }, { on := 27, ground := Ground.data }], guard := none }) (v := ?_) rfl (by kernel_rfl) (by kernel_rfl) (by kernel_rfl) (fun _ _ _ h => h) (Or.inl ⟨by rfl, ?_⟩) (by exact hHeld) ?_
                rotate_left
                · (intro w hSw; (try dsimp only at hSw); go_simp <;> with_reducible rfl)
                try simp only [Act.put, List.setIfInBounds_toArray, List.set_cons_zero, List.set_cons_succ]
                refine wpAnyH_take (i := 29) (oi := { dst := some 113, op := Op.move (Operand.tmp 112), type := 4, pos := _, after := #[{ on := 28, ground := Ground.data }, { on := 16, ground := Ground.chain }], guard := none }) (v := ?_) rfl (by kernel_rfl) (by kernel_rfl) (by kernel_rfl) (fun _ _ _ h => h) (Or.inl ⟨by rfl, ?_⟩) (by exact hHeld) ?_
                rotate_left
                · (intro w hSw; (try dsimp only at hSw); go_simp <;> with_reducible rfl)
                try simp only [Act.put, List.setIfInBounds_toArray, List.set_cons_zero, List.set_cons_succ]
                refine wpAnyH_take (i := 30) (oi := { dst := some 114, op := Op.move (Operand.tmp 3), type := 24, pos := _, after := #[{ on := 29, ground := Ground.guard }], guard := some (29, false) }) (v := ?_) rfl (by kernel_rfl) (by kernel_rfl) (by kernel_rfl) (fun _ _ _ h => h) (Or.inl ⟨by rfl, ?_⟩) (by exact hHeld) ?_
                rotate_left
                · (intro w hSw; (try dsimp only at hSw); go_simp <;> with_reducible rfl)
                try simp only [Act.put, List.setIfInBounds_toArray, List.set_cons_zero, List.set_cons_succ]
                refine wpAnyH_take (i := 31) (oi := { dst := some 115, op := Op.move (Operand.tmp 9), type := 22, pos := _, after := #[{ on := 29, ground := Ground.guard }], guard := some (29, false) }) (v := ?_) rfl (by kernel_rfl) (by kernel_rfl) (by kernel_rfl) (fun _ _ _ h => h) (Or.inl ⟨by rfl, ?_⟩) (by exact hHeld) ?_
                rotate_left
                · (intro w hSw; (try dsimp only at hSw); go_simp <;> with_reducible rfl)
                try simp only [Act.put, List.setIfInBounds_toArray, List.set_cons_zero, List.set_cons_succ]
                refine wpAnyH_take (i := 32) (oi := { dst := some 116, op := Op.move (Operand.tmp 10), type := 3, pos := _, after := #[{ on := 29, ground := Ground.guard }], guard := some (29, false) }) (v := ?_) rfl (by kernel_rfl) (by kernel_rfl) (by kernel_rfl) (fun _ _ _ h => h) (Or.inl ⟨by rfl, ?_⟩) (by exact hHeld) ?_
                rotate_left
                · (intro w hSw; (try dsimp only at hSw); go_simp <;> with_reducible rfl)
                try simp only [Act.put, List.setIfInBounds_toArray, List.set_cons_zero, List.set_cons_succ]
                refine wpAnyH_take (i := 33) (oi := { dst := some 117, op := Op.indexAddr 22 (Operand.tmp 115) (Operand.tmp 116), type := 0, pos := _, after := #[{ on := 31, ground := Ground.data }, { on := 32, ground := Ground.data }, { on := 29, ground := Ground.guard }], guard := some (29, false) }) (v := ?_) rfl (by kernel_rfl) (by kernel_rfl) (by kernel_rfl) (fun _ _ _ h => h) (Or.inl ⟨by rfl, ?_⟩) (by exact hHeld) ?_
                rotate_left
                · (intro w hSw; (try dsimp only at hSw); go_simp <;> with_reducible rfl)
                try simp only [Act.put, List.setIfInBounds_toArray, List.set_cons_zero, List.set_cons_succ]
                refine wpAnyH_take (i := 34) (oi := { dst := some 118, op := Op.load 2 (Operand.tmp 117), type := 2, pos := _, after := #[{ on := 33, ground := Ground.data }, { on := 29, ground := Ground.guard }], guard := some (29, false) }) (v := ?_) rfl (by kernel_rfl) (by kernel_rfl) (by kernel_rfl) (fun _ _ _ h => h) (Or.inl ⟨by rfl, ?_⟩) (by exact hHeld) ?_
                rotate_left
                · (intro w hSw; (try dsimp only at hSw); go_simp <;> with_reducible rfl)
                try simp only [Act.put, List.setIfInBounds_toArray, List.set_cons_zero, List.set_cons_succ]
                refine wpAnyH_ready (rs := [35]) (by kernel_rfl) (by simp) ?_
                refine AllReadyH.cons (o := { dst := some 119, op := Op.call { callee := Callee.value (Operand.func 14), args := #[Operand.tmp 114, Operand.tmp 118], argTypes := #[24, 2] }, type := 4, pos := _, after := #[{ on := 30, ground := Ground.data }, { on := 34, ground := Ground.data }, { on := 29, ground := Ground.chain }, { on := 29, ground := Ground.guard }], guard := some (29, false) }) rfl (fun K hK => ?_) AllReadyH.nil
                go_simp
                refine (HLV.out).mono ?_
                rintro e w5 ⟨rfl, hu5, hb5⟩
                go_wp2_with fail
                refine hK.out _ _ (cell_later hb5 (show wr.drew.cell? ⟨b5, off5, none⟩ = _ from cx)) (fun hHeld => ?_)
                clear hK K
                try simp only [Act.put, List.setIfInBounds_toArray, List.set_cons_zero, List.set_cons_succ]
                refine wpAnyH_take (i := 36) (oi := { dst := some 120, op := Op.unOp UnOp.not 4 (Operand.tmp 119), type := 4, pos := _, after := #[{ on := 35, ground := Ground.data }, { on := 29, ground := Ground.guard }], guard := some (29, false) }) (v := ?_) rfl (by kernel_rfl) (by kernel_rfl) (by kernel_rfl) (fun _ _ _ h => h) (Or.inl ⟨by rfl, ?_⟩) (by exact hHeld) ?_
                rotate_left
                · (intro w hSw; (try dsimp only at hSw); go_simp <;> with_reducible rfl)
                try simp only [Act.put, List.setIfInBounds_toArray, List.set_cons_zero, List.set_cons_succ]
                refine wpAnyH_take (i := 37) (oi := { dst := some 121, op := Op.pick (Operand.tmp 113) (Operand.const (Value.bool true)) (Operand.tmp 120), type := 4, pos := _, after := #[{ on := 29, ground := Ground.data }, { on := 36, ground := Ground.data }], guard := none }) (v := ?_) rfl (by kernel_rfl) (by kernel_rfl) (by kernel_rfl) (fun _ _ _ h => h) (Or.inl ⟨by rfl, ?_⟩) (by exact hHeld) ?_
                rotate_left
                · (intro w hSw; (try dsimp only at hSw); go_simp <;> with_reducible rfl)
                try simp only [Act.put, List.setIfInBounds_toArray, List.set_cons_zero, List.set_cons_succ]
                refine wpAnyH_done (by kernel_rfl) ?_ _
                go_wp2_with fail
                go_roundw
                case rel => exact ⟨0 + 1, by omega, by go_num, (HII.out.below (below_drew (Below.refl _ _) 1)).below hb5, hu5⟩
                case measure => simp [intOf]; omega
              · have cy := hcell (j - 1) (by omega)
                have r5 := r4 (by omega)
                clear hcell hi hu r4
                generalize m.getD j 0 = x at *
                generalize m.getD (j - 1) 0 = y at *
                have d1 : decide (x < 1) = false := decide_eq_false (by omega)
                have d2 : decide (s'.next - 1 < x) = false := decide_eq_false (by omega)
                have d3 : decide ((0 : Int) < (j : Int)) = true := decide_eq_true (by omega)
                have d6 : 0 < j := by omega
                have d4 : decide (x ≤ y) = false := decide_eq_false (by omega)
                have d5 : (j : Int) - 1 = ((j - 1 : Nat) : Int) := by omega
                have d7 : IntKind.i64.wrap ((j : Int) - 1) = (j : Int) - 1 := IntWalk.i64_in _ (by omega)
                have d8 : (j : Int) - 1 < (q : Int) := by omega
                have d10 : (1 : Int) ≤ (j : Int) := by omega
                have d9 : ((j : Int) - 1).toNat = j - 1 := by omega
                clear d5
                clear r1 r2 r5
                have HLV := Lib.hid (do_live2 x (HUU.out.draws 1) HM'.out.made)
                rw [r3] at HLV
                go_wp2_with fail
                go_region_held3 (fun w' => w'.cell? ⟨b5, off5 + j, none⟩ = some (.int .i64 x) ∧ w'.cell? ⟨b5, off5 + (j - 1), none⟩ = some (.int .i64 y)) (first | go_keep | exact kept1)
                  ((go_at_call 14; refine (HLV.out).mono ?_; rintro e w5 ⟨rfl, hu5, hb5⟩; have kept1 := And.intro (cell_later hb5 (show wr.drew.cell? ⟨b5, off5 + j, none⟩ = _ from cx)) (cell_later hb5 (show wr.drew.cell? ⟨b5, off5 + (j - 1), none⟩ = _ from cy))))
                clear kept1
                go_wp2_with fail
                go_roundw
                case rel => exact ⟨j + 1, by omega, by go_num, (HII.out.below (below_drew (Below.refl _ _) 1)).below hb5, hu5⟩
                case measure => simp [intOf]; omega
            · obtain rfl : j = q := by omega
              go_wp2_with fail
              go_roundw
              case rel => exact ⟨k + 1, s', by omega, by go_num, rfl, HM'.out, hu⟩
              case measure => simp [intOf]; omega
      · obtain rfl : k = n := by omega
        go_wp2_with fail
        go_ret
        exact ⟨rfl, HUR.out.below⟩
theorem numbers_said (ao : Option Addr) (n c : Nat) (acts : List Ac) (W : World) (h : IsActs W ao n acts) (hnc : n ≤ c) :
    Calls Try.prog 5 #[.slice ao n c] W fun e w' => e = .returned (.bool true) ∧ Below W.heap.size W w' := numbers_any ao n c acts W h hnc
end Go.Proofs.Ytmlgggcdjknlfaa

