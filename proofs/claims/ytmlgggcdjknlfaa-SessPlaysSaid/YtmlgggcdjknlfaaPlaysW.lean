/-
  Any calls: as the document says. The walk.
-/
import Derived.Test.YtmlgggcdjknlfaaDuo
import Derived.Deep.RegionWith
import Derived.Deep.DeepCutAuto
import Derived.Deep.CutBlock
namespace Go.Proofs.Ytmlgggcdjknlfaa
open Go.RowKit

set_option maxHeartbeats 8000000 in
set_option maxRecDepth 100000 in
theorem plays_any (room : Int) (ao : Option Addr) (n c : Nat) (acts : List Ac) (w : World) (h : IsActs w ao n acts) (hnc : n ≤ c) (hr1 : -9223372036854775808 ≤ room) (hr2 : room ≤ 9223372036854775807) :
    Calls Try.prog 8 #[.int .i64 room, .slice ao n c] w fun e w' => e = .returned (.bool true) ∧ Below w.heap.size w w' := by
  have HA := Lib.hid (awake_any w)
  have HI := Lib.hid h
  clear h
  by_cases hbad : room < 1 ∨ 64 < room
  · have HN := fun w1 => new_bad room w1 hbad hr1 hr2
    have hq : room < 1 ∨ (1 ≤ room ∧ 64 < room) := by omega
    clear hbad
    rcases hq with q1 | ⟨q1, q2⟩
    all_goals
      go_enter Try.func8, Try.ntmps8
      go_wp2_with fail
      refine HA.out.mono ?_
      rintro e w1 ⟨rfl, hb1⟩
      have HB1 := Lib.hid hb1; clear hb1
      go_wp2_with fail
      refine (HN w1).mono ?_
      rintro e w2 ⟨rfl, rfl⟩
      go_wp2_with fail
      go_ret
      exact ⟨rfl, HB1.out⟩
  have q1 : 1 ≤ room := by omega
  have q2 : room ≤ 64 := by omega
  clear hbad hr1 hr2
  by_cases hlong : 100 < n
  · go_enter Try.func8, Try.ntmps8
    go_wp2_with fail
    refine HA.out.mono ?_
    rintro e w1 ⟨rfl, hb1⟩
    have HN := Lib.hid (new_ok w.heap.size room w1 q1 q2 hb1.size)
    have HB1 := Lib.hid hb1; clear hb1
    go_wp2_with fail
    refine HN.out.mono ?_
    rintro e w2 ⟨rfl, hs2, hb2, hz2⟩
    have HB2 := Lib.hid (HB1.out.trans (hb2.mono HB1.out.size))
    clear hs2 hb2 hz2 HN
    go_wp2_with fail
    go_ret
    exact ⟨rfl, HB2.out⟩
  · have q3 : n ≤ 100 := by omega
    clear hlong
    go_enter Try.func8, Try.ntmps8
    go_wp2_with fail
    refine HA.out.mono ?_
    rintro e w1 ⟨rfl, hb1⟩
    have HN := Lib.hid (new_ok w.heap.size room w1 q1 q2 hb1.size)
    have HB1 := Lib.hid hb1; clear hb1
    go_wp2_with fail
    refine HN.out.mono ?_
    rintro e w2 ⟨rfl, hs2, hb2, hz2⟩
    have HM0 : Hid (Fit (newS room) 0) := Lib.hid (fit_new room q1 q2 0)
    have HB2 := Lib.hid (HB1.out.trans (hb2.mono HB1.out.size))
    have HS2 := Lib.hid hs2
    clear hs2 hb2 hz2 HN
    generalize w1.heap.size = a at *
    go_wp2_with fail
    have hst : ∀ w3 : World, w3.heap = (w2.alloc (.cells #[.int .i64 room, .int .i64 0, .int .i64 1, .slice none 0 0] 47)).heap → w3.os = w2.os → w3.tape = w2.tape → w3.output = w2.output →
        IsSess w3 w.heap.size a none (newS room) ∧ IsRef w3 w.heap.size w2.heap.size none (newS room) ∧ Below w.heap.size w w3 := by
      intro w3 e1 e2 e3 e4
      have hb : Below w2.heap.size w2 (w2.alloc (.cells #[.int .i64 room, .int .i64 0, .int .i64 1, .slice none 0 0] 47)) := (Below.refl _ _).alloc (Nat.le_refl _) _
      have hb3 : Below w2.heap.size w2 w3 := ⟨e2, e3, e4, by rw [e1]; exact hb.size, fun k hk => by rw [e1]; exact hb.block k hk⟩
      refine ⟨HS2.out.below hb3, ⟨⟨.slice none 0 0, by rw [e1]; exact heap_new _ _, ?_, rfl⟩, HB2.out.size, by simp⟩, HB2.out.trans (hb3.mono HB2.out.size)⟩
      exact ⟨by simp [row3, newS], .inl ⟨rfl, rfl⟩⟩
    have HST := Lib.hid (hst _ rfl rfl rfl rfl)
    clear hst
    generalize newS room = s0 at *
    generalize w2.heap.size = b at *
    go_loopw [5, 8] (fun p i wr => ∃ (k : Nat) (s : Ss) (a : Nat) (g1 g2 : Option Nat), k ≤ n ∧ i = .int .i64 (k : Int) ∧ p = .pointer (some ⟨a, 0, none⟩) ∧ Fit s k ∧ IsSess wr w.heap.size a g1 s ∧ IsRef wr w.heap.size b g2 s ∧ Below w.heap.size w wr) (fun _ i _ => n - (intOf i).toNat)
    case atStart => exact ⟨0, s0, a, none, none, Nat.zero_le _, rfl, rfl, HM0.out, HST.out⟩
    case round =>
      obtain ⟨k, s, a, g1, g2, hk, rfl, rfl, hm, hone, htwo, hbl⟩ := hrel
      have HM := Lib.hid hm
      have HONE := Lib.hid hone
      have HTWO := Lib.hid htwo
      have HBL := Lib.hid hbl
      clear hm hone htwo hbl HST HS2
      by_cases hlt : k < n
      · obtain ⟨b5, off, rfl, c0, c1, c2, hok⟩ := act_cell (HI.out.below HBL.out) hlt
        generalize acts.getD k ⟨0, 0, 0⟩ = x at *
        obtain ⟨op, id, sp⟩ := x
        obtain ⟨ok1, ok2, ok3⟩ := hok
        simp only at c0 c1 c2 ok1 ok2 ok3
        go_upto_region 13 with (fail)
        have HD0 : Hid (Duo w (wr.alloc (.cells #[.int .i64 op, .int .i64 id, .int .i64 sp] 36)) wr.heap.size ⟨op, id, sp⟩ a b g1 g2 s s) := Lib.hid (by
          have hb : Below wr.heap.size wr (wr.alloc (.cells #[.int .i64 op, .int .i64 id, .int .i64 sp] 36)) := (Below.refl _ _).alloc (Nat.le_refl _) _
          exact ⟨HONE.out.below hb, HTWO.out.below hb, heap_new _ _, HBL.out.trans (hb.mono HBL.out.size)⟩)
        clear c0 c1 c2 HONE HTWO HBL
        generalize wr.heap.size = X at *
        generalize wr.alloc (.cells #[.int .i64 op, .int .i64 id, .int .i64 sp] 36) = W0 at *
        have c0 := HD0.out.op
        have c1 := HD0.out.id
        have c2 := HD0.out.span
        simp only at c0 c1 c2
        have HOK : Hid (-9223372036854775808 ≤ sp ∧ sp ≤ 9223372036854775807) := Lib.hid ok3
        clear ok1 ok2 ok3
        go_upto_block 2 with (fail)
        go_cut [5, 10] (fun p o wx => ∃ (s' : Ss) (a' : Nat) (g1' g2' : Option Nat), p = .pointer (some ⟨a', 0, none⟩) ∧ o = .bool true ∧ Fit s' (k + 1) ∧ Duo w wx X ⟨op, id, sp⟩ a' b g1' g2' s' s')
        case first =>
          by_cases h0 : op = 0
          · subst h0
            have HD := Lib.hid (p_open1 HD0.out HM.out.made (by omega) sp HOK.out.1 HOK.out.2)
            have HE : Hid (∀ w' g1', Duo w w' X ⟨0, id, sp⟩ a b g1' g2 (openAny s sp) s → Calls Try.prog 20 #[.pointer (some ⟨b, 0, none⟩), .int .i64 sp] w' fun e W' => e = .returned (.tuple #[.int .i64 (openN s sp), .int .i64 (openE s sp)]) ∧ ∃ g2', Duo w W' X ⟨0, id, sp⟩ a b g1' g2' (openAny s sp) (openAny s sp)) := Lib.hid (fun w' g1' h => p_open2 h HM.out.made (by omega) sp HOK.out.1 HOK.out.2)
            have M2 := Lib.hid (HM.out.any sp)
            generalize openAny s sp = s' at *
            generalize openE s sp = oe at *
            generalize openN s sp = on at *
            have hon : (on == on) = true := by simp
            have hoe : (oe == oe) = true := by simp
            go_wp2_with fail
            refine HD.out.mono ?_
            rintro e w4 ⟨rfl, g1', hd4⟩
            have HD4 := Lib.hid hd4
            have c24 := hd4.span
            simp only at c24
            clear hd4 c0 c1 c2
            go_wp2_with fail
            refine (HE.out _ _ HD4.out).mono ?_
            rintro e w5 ⟨rfl, g2', hd5⟩
            have HD5 := Lib.hid hd5; clear hd5 c24
            go_wp2_with fail
            go_meet
            exact ⟨s', a, g1', g2', rfl, rfl, M2.out, HD5.out⟩
          by_cases h1 : op = 1
          · subst h1
            clear h0
            have HD := Lib.hid (p_touch1 (HD0.out.later (below_drew (Below.refl _ _) 1)) HM.out.made (by omega) id)
            have HE : Hid (∀ w' g1', Duo w w' X ⟨1, id, sp⟩ a b g1' g2 (touchS s id) s → Calls Try.prog 21 #[.pointer (some ⟨b, 0, none⟩), .int .i64 id] w' fun e W' => e = .returned (.int .i64 (if findS s.l id < 0 then 11 else 0)) ∧ Duo w W' X ⟨1, id, sp⟩ a b g1' g2 (touchS s id) (touchS s id)) := Lib.hid (fun w' g1' h => p_touch2 h HM.out.made (by omega) id)
            have M2 := Lib.hid (HM.out.touch id)
            generalize touchS s id = s' at *
            generalize (if findS s.l id < 0 then (11 : Int) else 0) = r at *
            go_wp2_with fail
            refine wp_region_held_drew (S := fun w' => w'.cell? ⟨X, 1, none⟩ = some (.int .i64 id)) (by kernel_rfl) (show W0.drew.cell? ⟨X, 1, none⟩ = _ from c1) (fun hHeld => ?_)
            refine wpAnyH_take (i := 0) (oi := { dst := some 96, op := Op.move (Operand.tmp 5), type := 24, pos := _, after := #[], guard := none }) (v := ?_) rfl (by kernel_rfl) (by kernel_rfl) (by kernel_rfl) (fun _ _ _ h => h) (Or.inl ⟨by rfl, ?_⟩) (by exact hHeld) ?_
            rotate_left
            · (intro w hSw; (try dsimp only at hSw); go_simp <;> with_reducible rfl)
            try simp only [Act.put, List.setIfInBounds_toArray, List.set_cons_zero, List.set_cons_succ]
            refine wpAnyH_take (i := 1) (oi := { dst := some 97, op := Op.fieldAddr 36 (Operand.tmp 9) 1, type := 0, pos := _, after := #[], guard := none }) (v := ?_) rfl (by kernel_rfl) (by kernel_rfl) (by kernel_rfl) (fun _ _ _ h => h) (Or.inl ⟨by rfl, ?_⟩) (by exact hHeld) ?_
            rotate_left
            · (intro w hSw; (try dsimp only at hSw); go_simp <;> with_reducible rfl)
            try simp only [Act.put, List.setIfInBounds_toArray, List.set_cons_zero, List.set_cons_succ]
            refine wpAnyH_take (i := 2) (oi := { dst := some 98, op := Op.load 2 (Operand.tmp 97), type := 2, pos := _, after := #[{ on := 1, ground := Ground.data }], guard := none }) (v := ?_) rfl (by kernel_rfl) (by kernel_rfl) (by kernel_rfl) (fun _ _ _ h => h) (Or.inl ⟨by rfl, ?_⟩) (by exact hHeld) ?_
            rotate_left
            · (intro w hSw; (try dsimp only at hSw); go_simp <;> with_reducible rfl)
            try simp only [Act.put, List.setIfInBounds_toArray, List.set_cons_zero, List.set_cons_succ]
            refine wpAnyH_take (i := 4) (oi := { dst := some 100, op := Op.move (Operand.tmp 7), type := 44, pos := _, after := #[], guard := none }) (v := ?_) rfl (by kernel_rfl) (by kernel_rfl) (by kernel_rfl) (fun _ _ _ h => h) (Or.inl ⟨by rfl, ?_⟩) (by exact hHeld) ?_
            rotate_left
            · (intro w hSw; (try dsimp only at hSw); go_simp <;> with_reducible rfl)
            try simp only [Act.put, List.setIfInBounds_toArray, List.set_cons_zero, List.set_cons_succ]
            refine wpAnyH_take (i := 5) (oi := { dst := some 101, op := Op.fieldAddr 36 (Operand.tmp 9) 1, type := 0, pos := _, after := #[], guard := none }) (v := ?_) rfl (by kernel_rfl) (by kernel_rfl) (by kernel_rfl) (fun _ _ _ h => h) (Or.inl ⟨by rfl, ?_⟩) (by exact hHeld) ?_
            rotate_left
            · (intro w hSw; (try dsimp only at hSw); go_simp <;> with_reducible rfl)
            try simp only [Act.put, List.setIfInBounds_toArray, List.set_cons_zero, List.set_cons_succ]
            refine wpAnyH_take (i := 6) (oi := { dst := some 102, op := Op.load 2 (Operand.tmp 101), type := 2, pos := _, after := #[{ on := 5, ground := Ground.data }], guard := none }) (v := ?_) rfl (by kernel_rfl) (by kernel_rfl) (by kernel_rfl) (fun _ _ _ h => h) (Or.inl ⟨by rfl, ?_⟩) (by exact hHeld) ?_
            rotate_left
            · (intro w hSw; (try dsimp only at hSw); go_simp <;> with_reducible rfl)
            try simp only [Act.put, List.setIfInBounds_toArray, List.set_cons_zero, List.set_cons_succ]
            refine wpAnyH_ready (rs := [3]) (by kernel_rfl) (by simp) ?_
            refine AllReadyH.cons (o := { dst := some 99, op := Op.call { callee := Callee.value (Operand.func 13), args := #[Operand.tmp 96, Operand.tmp 98], argTypes := #[24, 2] }, type := 25, pos := _, after := #[{ on := 0, ground := Ground.data }, { on := 2, ground := Ground.data }], guard := none }) rfl (fun K hK => ?_) AllReadyH.nil
            go_simp
            refine HD.out.mono ?_
            rintro e w4 ⟨rfl, hd4⟩
            have HD4 := Lib.hid hd4; have c14 := hd4.id; simp only at c14; clear hd4 c0 c1 c2
            go_wp2_with fail
            refine hK.out _ _ c14 (fun hHeld => ?_)
            clear hK K
            try simp only [Act.put, List.setIfInBounds_toArray, List.set_cons_zero, List.set_cons_succ]
            refine wpAnyH_ready (rs := [7]) (by kernel_rfl) (by simp) ?_
            refine AllReadyH.cons (o := { dst := some 103, op := Op.call { callee := Callee.value (Operand.func 21), args := #[Operand.tmp 100, Operand.tmp 102], argTypes := #[44, 2] }, type := 25, pos := _, after := #[{ on := 4, ground := Ground.data }, { on := 6, ground := Ground.data }, { on := 3, ground := Ground.chain }], guard := none }) rfl (fun K hK => ?_) AllReadyH.nil
            go_simp
            refine (HE.out _ _ HD4.out).mono ?_
            rintro e w5 ⟨rfl, hd5⟩
            have HD5 := Lib.hid hd5; have c15 := hd5.id; simp only at c15; clear hd5 c14
            go_wp2_with fail
            refine hK.out _ _ c15 (fun hHeld => ?_)
            clear hK K
            try simp only [Act.put, List.setIfInBounds_toArray, List.set_cons_zero, List.set_cons_succ]
            refine wpAnyH_take (i := 8) (oi := { dst := some 104, op := Op.binOp BinOp.eql 25 (Operand.tmp 99) (Operand.tmp 103) 25, type := 4, pos := _, after := #[{ on := 3, ground := Ground.data }, { on := 7, ground := Ground.data }], guard := none }) (v := ?_) rfl (by kernel_rfl) (by kernel_rfl) (by kernel_rfl) (fun _ _ _ h => h) (Or.inl ⟨by rfl, ?_⟩) (by exact hHeld) ?_
            rotate_left
            · (intro w hSw; (try dsimp only at hSw); go_simp <;> with_reducible rfl)
            try simp only [Act.put, List.setIfInBounds_toArray, List.set_cons_zero, List.set_cons_succ]
            refine wpAnyH_take (i := 9) (oi := { dst := some 10, op := Op.assign (Operand.tmp 104), type := 4, pos := _, after := #[{ on := 8, ground := Ground.data }, { on := 7, ground := Ground.chain }, { on := 0, ground := Ground.phase }, { on := 1, ground := Ground.phase }, { on := 2, ground := Ground.phase }, { on := 3, ground := Ground.phase }, { on := 4, ground := Ground.phase }, { on := 5, ground := Ground.phase }, { on := 6, ground := Ground.phase }, { on := 7, ground := Ground.phase }, { on := 8, ground := Ground.phase }], guard := none }) (v := ?_) rfl (by kernel_rfl) (by kernel_rfl) (by kernel_rfl) (fun _ _ _ h => h) (Or.inl ⟨by rfl, ?_⟩) (by exact hHeld) ?_
            rotate_left
            · (intro w hSw; (try dsimp only at hSw); go_simp <;> with_reducible rfl)
            try simp only [Act.put, List.setIfInBounds_toArray, List.set_cons_zero, List.set_cons_succ]
            refine wpAnyH_done (by kernel_rfl) ?_ _
            go_wp2_with fail
            go_meet
            exact ⟨s', a, g1, g2, rfl, by simp, M2.out, HD5.out⟩
          by_cases h2 : op = 2
          · subst h2
            clear h0 h1
            have HD := Lib.hid (p_close1 (HD0.out.later (below_drew (Below.refl _ _) 1)) HM.out.made id)
            have HE : Hid (∀ w' g1', Duo w w' X ⟨2, id, sp⟩ a b g1' g2 (closeS s id) s → Calls Try.prog 22 #[.pointer (some ⟨b, 0, none⟩), .int .i64 id] w' fun e W' => e = .returned (.int .i64 (if findS s.l id < 0 then 11 else 0)) ∧ ∃ g2', Duo w W' X ⟨2, id, sp⟩ a b g1' g2' (closeS s id) (closeS s id)) := Lib.hid (fun w' g1' h => p_close2 h HM.out.made id)
            have M2 := Lib.hid (HM.out.close id)
            generalize closeS s id = s' at *
            generalize (if findS s.l id < 0 then (11 : Int) else 0) = r at *
            go_wp2_with fail
            refine wp_region_held_drew (S := fun w' => w'.cell? ⟨X, 1, none⟩ = some (.int .i64 id)) (by kernel_rfl) (show W0.drew.cell? ⟨X, 1, none⟩ = _ from c1) (fun hHeld => ?_)
            refine wpAnyH_take (i := 0) (oi := { dst := some 107, op := Op.move (Operand.tmp 5), type := 24, pos := _, after := #[], guard := none }) (v := ?_) rfl (by kernel_rfl) (by kernel_rfl) (by kernel_rfl) (fun _ _ _ h => h) (Or.inl ⟨by rfl, ?_⟩) (by exact hHeld) ?_
            rotate_left
            · (intro w hSw; (try dsimp only at hSw); go_simp <;> with_reducible rfl)
            try simp only [Act.put, List.setIfInBounds_toArray, List.set_cons_zero, List.set_cons_succ]
            refine wpAnyH_take (i := 1) (oi := { dst := some 108, op := Op.fieldAddr 36 (Operand.tmp 9) 1, type := 0, pos := _, after := #[], guard := none }) (v := ?_) rfl (by kernel_rfl) (by kernel_rfl) (by kernel_rfl) (fun _ _ _ h => h) (Or.inl ⟨by rfl, ?_⟩) (by exact hHeld) ?_
            rotate_left
            · (intro w hSw; (try dsimp only at hSw); go_simp <;> with_reducible rfl)
            try simp only [Act.put, List.setIfInBounds_toArray, List.set_cons_zero, List.set_cons_succ]
            refine wpAnyH_take (i := 2) (oi := { dst := some 109, op := Op.load 2 (Operand.tmp 108), type := 2, pos := _, after := #[{ on := 1, ground := Ground.data }], guard := none }) (v := ?_) rfl (by kernel_rfl) (by kernel_rfl) (by kernel_rfl) (fun _ _ _ h => h) (Or.inl ⟨by rfl, ?_⟩) (by exact hHeld) ?_
            rotate_left
            · (intro w hSw; (try dsimp only at hSw); go_simp <;> with_reducible rfl)
            try simp only [Act.put, List.setIfInBounds_toArray, List.set_cons_zero, List.set_cons_succ]
            refine wpAnyH_take (i := 4) (oi := { dst := some 111, op := Op.move (Operand.tmp 7), type := 44, pos := _, after := #[], guard := none }) (v := ?_) rfl (by kernel_rfl) (by kernel_rfl) (by kernel_rfl) (fun _ _ _ h => h) (Or.inl ⟨by rfl, ?_⟩) (by exact hHeld) ?_
            rotate_left
            · (intro w hSw; (try dsimp only at hSw); go_simp <;> with_reducible rfl)
            try simp only [Act.put, List.setIfInBounds_toArray, List.set_cons_zero, List.set_cons_succ]
            refine wpAnyH_take (i := 5) (oi := { dst := some 112, op := Op.fieldAddr 36 (Operand.tmp 9) 1, type := 0, pos := _, after := #[], guard := none }) (v := ?_) rfl (by kernel_rfl) (by kernel_rfl) (by kernel_rfl) (fun _ _ _ h => h) (Or.inl ⟨by rfl, ?_⟩) (by exact hHeld) ?_
            rotate_left
            · (intro w hSw; (try dsimp only at hSw); go_simp <;> with_reducible rfl)
            try simp only [Act.put, List.setIfInBounds_toArray, List.set_cons_zero, List.set_cons_succ]
            refine wpAnyH_take (i := 6) (oi := { dst := some 113, op := Op.load 2 (Operand.tmp 112), type := 2, pos := _, after := #[{ on := 5, ground := Ground.data }], guard := none }) (v := ?_) rfl (by kernel_rfl) (by kernel_rfl) (by kernel_rfl) (fun _ _ _ h => h) (Or.inl ⟨by rfl, ?_⟩) (by exact hHeld) ?_
            rotate_left
            · (intro w hSw; (try dsimp only at hSw); go_simp <;> with_reducible rfl)
            try simp only [Act.put, List.setIfInBounds_toArray, List.set_cons_zero, List.set_cons_succ]
            refine wpAnyH_ready (rs := [3]) (by kernel_rfl) (by simp) ?_
            refine AllReadyH.cons (o := { dst := some 110, op := Op.call { callee := Callee.value (Operand.func 15), args := #[Operand.tmp 107, Operand.tmp 109], argTypes := #[24, 2] }, type := 25, pos := _, after := #[{ on := 0, ground := Ground.data }, { on := 2, ground := Ground.data }], guard := none }) rfl (fun K hK => ?_) AllReadyH.nil
            go_simp
            refine HD.out.mono ?_
            rintro e w4 ⟨rfl, hd4⟩
            have HD4 := Lib.hid hd4; have c14 := hd4.id; simp only at c14; clear hd4 c0 c1 c2
            go_wp2_with fail
            refine hK.out _ _ c14 (fun hHeld => ?_)
            clear hK K
            try simp only [Act.put, List.setIfInBounds_toArray, List.set_cons_zero, List.set_cons_succ]
            refine wpAnyH_ready (rs := [7]) (by kernel_rfl) (by simp) ?_
            refine AllReadyH.cons (o := { dst := some 114, op := Op.call { callee := Callee.value (Operand.func 22), args := #[Operand.tmp 111, Operand.tmp 113], argTypes := #[44, 2] }, type := 25, pos := _, after := #[{ on := 4, ground := Ground.data }, { on := 6, ground := Ground.data }, { on := 3, ground := Ground.chain }], guard := none }) rfl (fun K hK => ?_) AllReadyH.nil
            go_simp
            refine (HE.out _ _ HD4.out).mono ?_
            rintro e w5 ⟨rfl, g2', hd5⟩
            have HD5 := Lib.hid hd5; have c15 := hd5.id; simp only at c15; clear hd5 c14
            go_wp2_with fail
            refine hK.out _ _ c15 (fun hHeld => ?_)
            clear hK K
            try simp only [Act.put, List.setIfInBounds_toArray, List.set_cons_zero, List.set_cons_succ]
            refine wpAnyH_take (i := 8) (oi := { dst := some 115, op := Op.binOp BinOp.eql 25 (Operand.tmp 110) (Operand.tmp 114) 25, type := 4, pos := _, after := #[{ on := 3, ground := Ground.data }, { on := 7, ground := Ground.data }], guard := none }) (v := ?_) rfl (by kernel_rfl) (by kernel_rfl) (by kernel_rfl) (fun _ _ _ h => h) (Or.inl ⟨by rfl, ?_⟩) (by exact hHeld) ?_
            rotate_left
            · (intro w hSw; (try dsimp only at hSw); go_simp <;> with_reducible rfl)
            try simp only [Act.put, List.setIfInBounds_toArray, List.set_cons_zero, List.set_cons_succ]
            refine wpAnyH_take (i := 9) (oi := { dst := some 10, op := Op.assign (Operand.tmp 115), type := 4, pos := _, after := #[{ on := 8, ground := Ground.data }, { on := 7, ground := Ground.chain }, { on := 0, ground := Ground.phase }, { on := 1, ground := Ground.phase }, { on := 2, ground := Ground.phase }, { on := 3, ground := Ground.phase }, { on := 4, ground := Ground.phase }, { on := 5, ground := Ground.phase }, { on := 6, ground := Ground.phase }, { on := 7, ground := Ground.phase }, { on := 8, ground := Ground.phase }], guard := none }) (v := ?_) rfl (by kernel_rfl) (by kernel_rfl) (by kernel_rfl) (fun _ _ _ h => h) (Or.inl ⟨by rfl, ?_⟩) (by exact hHeld) ?_
            rotate_left
            · (intro w hSw; (try dsimp only at hSw); go_simp <;> with_reducible rfl)
            try simp only [Act.put, List.setIfInBounds_toArray, List.set_cons_zero, List.set_cons_succ]
            refine wpAnyH_done (by kernel_rfl) ?_ _
            go_wp2_with fail
            go_meet
            exact ⟨s', a, g1, g2', rfl, by simp, M2.out, HD5.out⟩
          by_cases h3 : op = 3
          · subst h3
            clear h0 h1 h2
            have HD := Lib.hid (p_tick1 HD0.out HM.out.made (by omega))
            have HE : Hid (∀ w' g1', Duo w w' X ⟨3, id, sp⟩ a b g1' g2 (tickS s) s → Calls Try.prog 23 #[.pointer (some ⟨b, 0, none⟩)] w' fun e W' => ∃ v g2', e = .returned v ∧ OwnI W' w'.heap.size 2 v (overIds (s.now + 1) s.l) ∧ Duo w W' X ⟨3, id, sp⟩ a b g1' g2' (tickS s) (tickS s) ∧ Only [b] w' W') := Lib.hid (fun w' g1' h => p_tick2 h HM.out.made (by omega))
            have HSM : Hid (b < W0.heap.size) := Lib.hid HD0.out.two.lt
            have M2 := Lib.hid HM.out.tick
            have hol : (overIds (s.now + 1) s.l).length ≤ 1000000 := by
              have h1 : (overIds (s.now + 1) s.l).length ≤ s.l.length := by unfold overIds; rw [List.length_map]; exact List.length_filter_le _ _
              have := HM.out.made.len
              have := HM.out.made.room
              omega
            generalize tickS s = s' at *
            generalize overIds (s.now + 1) s.l = ol at *
            have HSA : Hid (sameI ol ol = true) := Lib.hid (by simp [sameI])
            go_wp2_with fail
            refine HD.out.mono ?_
            rintro e w5 ⟨v, rfl, hv, hd5⟩
            obtain ⟨a5, c5, rfl, _⟩ := hv.isI
            have HV := Lib.hid hv
            have HD5 := Lib.hid hd5; clear hd5 hv c0 c1 c2
            go_wp2_with fail
            refine (HE.out _ _ HD5.out).mono ?_
            rintro e w6 ⟨v, g2', rfl, hv6, hd6, ho6⟩
            have hv5 := OwnI.only HV.out ho6 (by have := HSM.out; simp; omega)
            obtain ⟨a6, c6, rfl, hi6⟩ := hv6.isI
            have hi5 : IsI w6 a5 ol.length c5 ol := by
              obtain ⟨a7, c7, he, h7⟩ := hv5.isI
              simp only [Value.slice.injEq] at he
              obtain ⟨rfl, _, rfl⟩ := he
              exact h7
            have HS6 := Lib.hid (ids_any a5 _ c5 ol a6 _ c6 ol w6 hi5 hi6 hol hol)
            rw [HSA.out] at HS6
            have HD6 := Lib.hid hd6; clear hd6 hv6 hv5 hi5 hi6 ho6
            go_wp2_with fail
            refine HS6.out.mono ?_
            rintro e w7 ⟨rfl, d, rfl⟩
            go_wp2_with fail
            go_meet
            exact ⟨s', a, g1, g2', rfl, rfl, M2.out, HD6.out.later (below_drew (Below.refl _ _) d)⟩
          · have g0 : (op == 0) = false := by simpa using h0
            have g1x : (op == 1) = false := by simpa using h1
            have g2x : (op == 2) = false := by simpa using h2
            have g3 : (op == 3) = false := by simpa using h3
            clear h0 h1 h2 h3
            have HP := Lib.hid (p_again HD0.out HM.out (by omega))
            go_wp2_with fail
            refine HP.out.mono ?_
            rintro e w4 ⟨v, rfl, hg⟩
            have HG := Lib.hid hg; clear hg c0 c1 c2
            go_wp2_with fail
            refine HG.out.mono ?_
            rintro e w5 ⟨a', g', rfl, hd5⟩
            have HD5 := Lib.hid hd5; clear hd5
            go_wp2_with fail
            go_meet
            exact ⟨s, a', g', g2, rfl, rfl, HM.out.next, HD5.out⟩
        case rest =>
          obtain ⟨s', a', g1', g2', rfl, rfl, hm', hd'⟩ := hcut
          have HM' := Lib.hid hm'
          have HD' := Lib.hid hd'
          have hl64 : s'.l.length ≤ 1000 := by
            have := hm'.made.len
            have := hm'.made.room
            omega
          have hol : (idsOf s').length ≤ 1000000 := by simp only [idsOf, List.length_map]; omega
          have HAA := Lib.hid (all_of hd'.one (by omega))
          have HAB := Lib.hid (rall_of hd'.two (by omega))
          have HPA := Lib.hid (put_of hd'.one hl64)
          have HPB := Lib.hid (rput_of hd'.two hl64)
          have HLA := Lib.hid (live_of hd'.one (by omega) id)
          have HLB := Lib.hid (rlive_of hd'.two (by omega) id)
          have HNW := Lib.hid (now_of hd'.one)
          have HN0 := Lib.hid hd'.now
          have HX0 := Lib.hid hd'.id
          simp only at HX0
          clear HM HD0 c0 c1 c2 hm' hd' HOK
          generalize idsOf s' = ol at *
          generalize strB (putB s') = sB at *
          generalize hnw : s'.now = nw at *
          generalize decide (0 ≤ findS s'.l id) = lv at *
          have HSA : Hid (sameI ol ol = true) := Lib.hid (by simp [sameI])
          have hnn : (nw != nw) = false := by simp
          have hlv : (lv != lv) = false := by simp
          go_wp2_with fail
          refine wp_region_held_drew (S := fun w' => w'.cell? ⟨b, 1, none⟩ = some (.int .i64 nw) ∧ w'.cell? ⟨X, 1, none⟩ = some (.int .i64 id)) (by kernel_rfl) ⟨HN0.out, HX0.out⟩ (fun hHeld => ?_)
          refine wpAnyH_take (i := 0) (oi := { dst := some 123, op := Op.move (Operand.tmp 10), type := 4, pos := _, after := #[], guard := none }) (v := ?_) rfl (by kernel_rfl) (by kernel_rfl) (by kernel_rfl) (fun _ _ _ h => h) (Or.inl ⟨by rfl, ?_⟩) (by exact hHeld) ?_
          rotate_left
          · (intro w hSw; (try dsimp only at hSw); go_simp <;> with_reducible rfl)
          try simp only [Act.put, List.setIfInBounds_toArray, List.set_cons_zero, List.set_cons_succ]
          refine wpAnyH_take (i := 1) (oi := { dst := some 124, op := Op.unOp UnOp.not 4 (Operand.tmp 123), type := 4, pos := _, after := #[{ on := 0, ground := Ground.data }], guard := none }) (v := ?_) rfl (by kernel_rfl) (by kernel_rfl) (by kernel_rfl) (fun _ _ _ h => h) (Or.inl ⟨by rfl, ?_⟩) (by exact hHeld) ?_
          rotate_left
          · (intro w hSw; (try dsimp only at hSw); go_simp <;> with_reducible rfl)
          try simp only [Act.put, List.setIfInBounds_toArray, List.set_cons_zero, List.set_cons_succ]
          refine wpAnyH_take (i := 2) (oi := { dst := some 125, op := Op.move (Operand.tmp 124), type := 4, pos := _, after := #[{ on := 1, ground := Ground.data }], guard := none }) (v := ?_) rfl (by kernel_rfl) (by kernel_rfl) (by kernel_rfl) (fun _ _ _ h => h) (Or.inl ⟨by rfl, ?_⟩) (by exact hHeld) ?_
          rotate_left
          · (intro w hSw; (try dsimp only at hSw); go_simp <;> with_reducible rfl)
          try simp only [Act.put, List.setIfInBounds_toArray, List.set_cons_zero, List.set_cons_succ]
          refine wpAnyH_take (i := 3) (oi := { dst := some 126, op := Op.move (Operand.tmp 5), type := 24, pos := _, after := #[{ on := 2, ground := Ground.guard }], guard := some (2, false) }) (v := ?_) rfl (by kernel_rfl) (by kernel_rfl) (by kernel_rfl) (fun _ _ _ h => h) (Or.inl ⟨by rfl, ?_⟩) (by exact hHeld) ?_
          rotate_left
          · (intro w hSw; (try dsimp only at hSw); go_simp <;> with_reducible rfl)
          try simp only [Act.put, List.setIfInBounds_toArray, List.set_cons_zero, List.set_cons_succ]
          refine wpAnyH_take (i := 5) (oi := { dst := some 128, op := Op.move (Operand.tmp 7), type := 44, pos := _, after := #[{ on := 2, ground := Ground.guard }], guard := some (2, false) }) (v := ?_) rfl (by kernel_rfl) (by kernel_rfl) (by kernel_rfl) (fun _ _ _ h => h) (Or.inl ⟨by rfl, ?_⟩) (by exact hHeld) ?_
          rotate_left
          · (intro w hSw; (try dsimp only at hSw); go_simp <;> with_reducible rfl)
          try simp only [Act.put, List.setIfInBounds_toArray, List.set_cons_zero, List.set_cons_succ]
          refine wpAnyH_ready (rs := [4]) (by kernel_rfl) (by simp) ?_
          refine AllReadyH.cons (o := { dst := some 127, op := Op.call { callee := Callee.value (Operand.func 16), args := #[Operand.tmp 126], argTypes := #[24] }, type := 22, pos := _, after := #[{ on := 3, ground := Ground.data }, { on := 2, ground := Ground.chain }, { on := 2, ground := Ground.guard }], guard := some (2, false) }) rfl (fun K hK => ?_) AllReadyH.nil
          go_simp
          refine (HAA.out _ (below_drew (Below.refl wc.heap.size wc) 1)).mono ?_
          rintro e u1 ⟨v, rfl, hv1, hB1, _⟩
          obtain ⟨a1, c1, rfl, hi1⟩ := hv1.isI
          have HI1 := Lib.hid hi1; clear hv1 hi1
          go_wp2_with fail
          refine hK.out _ _ ⟨cell_later (by exact hB1) HN0.out, cell_later (by exact hB1) HX0.out⟩ (fun hHeld => ?_)
          clear hK K
          try simp only [Act.put, List.setIfInBounds_toArray, List.set_cons_zero, List.set_cons_succ]
          refine wpAnyH_ready (rs := [6]) (by kernel_rfl) (by simp) ?_
          refine AllReadyH.cons (o := { dst := some 129, op := Op.call { callee := Callee.value (Operand.func 24), args := #[Operand.tmp 128], argTypes := #[44] }, type := 22, pos := _, after := #[{ on := 5, ground := Ground.data }, { on := 4, ground := Ground.chain }, { on := 2, ground := Ground.guard }], guard := some (2, false) }) rfl (fun K hK => ?_) AllReadyH.nil
          go_simp
          refine (HAB.out _ hB1).mono ?_
          rintro e u2 ⟨v, rfl, hv2, hB2, hb2⟩
          obtain ⟨a2, c2', rfl, hi2⟩ := hv2.isI
          have HI2 := Lib.hid hi2; have HI12 := Lib.hid (HI1.out.below hb2); clear hv2 hi2 hb2
          go_wp2_with fail
          refine hK.out _ _ ⟨cell_later (by exact hB2) HN0.out, cell_later (by exact hB2) HX0.out⟩ (fun hHeld => ?_)
          clear hK K
          try simp only [Act.put, List.setIfInBounds_toArray, List.set_cons_zero, List.set_cons_succ]
          refine wpAnyH_ready (rs := [7]) (by kernel_rfl) (by simp) ?_
          refine AllReadyH.cons (o := { dst := some 130, op := Op.call { callee := Callee.value (Operand.func 19), args := #[Operand.tmp 127, Operand.tmp 129], argTypes := #[22, 22] }, type := 4, pos := _, after := #[{ on := 4, ground := Ground.data }, { on := 6, ground := Ground.data }, { on := 6, ground := Ground.chain }, { on := 2, ground := Ground.guard }], guard := some (2, false) }) rfl (fun K hK => ?_) AllReadyH.nil
          go_simp
          refine (ids_any _ _ _ ol _ _ _ ol _ HI12.out HI2.out hol hol).mono ?_
          rw [HSA.out]
          rintro e u3 ⟨rfl, d, rfl⟩
          go_wp2_with fail
          refine hK.out _ _ ⟨cell_later (by exact below_drew hB2 d) HN0.out, cell_later (by exact below_drew hB2 d) HX0.out⟩ (fun hHeld => ?_)
          clear hK K
          try simp only [Act.put, List.setIfInBounds_toArray, List.set_cons_zero, List.set_cons_succ]
          refine wpAnyH_take (i := 8) (oi := { dst := some 131, op := Op.unOp UnOp.not 4 (Operand.tmp 130), type := 4, pos := _, after := #[{ on := 7, ground := Ground.data }, { on := 2, ground := Ground.guard }], guard := some (2, false) }) (v := ?_) rfl (by kernel_rfl) (by kernel_rfl) (by kernel_rfl) (fun _ _ _ h => h) (Or.inl ⟨by rfl, ?_⟩) (by exact hHeld) ?_
          rotate_left
          · (intro w hSw; (try dsimp only at hSw); go_simp <;> with_reducible rfl)
          try simp only [Act.put, List.setIfInBounds_toArray, List.set_cons_zero, List.set_cons_succ]
          refine wpAnyH_take (i := 9) (oi := { dst := some 132, op := Op.pick (Operand.tmp 125) (Operand.const (Value.bool true)) (Operand.tmp 131), type := 4, pos := _, after := #[{ on := 2, ground := Ground.data }, { on := 8, ground := Ground.data }], guard := none }) (v := ?_) rfl (by kernel_rfl) (by kernel_rfl) (by kernel_rfl) (fun _ _ _ h => h) (Or.inl ⟨by rfl, ?_⟩) (by exact hHeld) ?_
          rotate_left
          · (intro w hSw; (try dsimp only at hSw); go_simp <;> with_reducible rfl)
          try simp only [Act.put, List.setIfInBounds_toArray, List.set_cons_zero, List.set_cons_succ]
          refine wpAnyH_take (i := 10) (oi := { dst := some 133, op := Op.move (Operand.tmp 132), type := 4, pos := _, after := #[{ on := 9, ground := Ground.data }, { on := 7, ground := Ground.chain }], guard := none }) (v := ?_) rfl (by kernel_rfl) (by kernel_rfl) (by kernel_rfl) (fun _ _ _ h => h) (Or.inl ⟨by rfl, ?_⟩) (by exact hHeld) ?_
          rotate_left
          · (intro w hSw; (try dsimp only at hSw); go_simp <;> with_reducible rfl)
          try simp only [Act.put, List.setIfInBounds_toArray, List.set_cons_zero, List.set_cons_succ]
          refine wpAnyH_take (i := 11) (oi := { dst := some 134, op := Op.move (Operand.tmp 5), type := 24, pos := _, after := #[{ on := 10, ground := Ground.guard }], guard := some (10, false) }) (v := ?_) rfl (by kernel_rfl) (by kernel_rfl) (by kernel_rfl) (fun _ _ _ h => h) (Or.inl ⟨by rfl, ?_⟩) (by exact hHeld) ?_
          rotate_left
          · (intro w hSw; (try dsimp only at hSw); go_simp <;> with_reducible rfl)
          try simp only [Act.put, List.setIfInBounds_toArray, List.set_cons_zero, List.set_cons_succ]
          refine wpAnyH_take (i := 13) (oi := { dst := some 136, op := Op.move (Operand.tmp 7), type := 44, pos := _, after := #[{ on := 10, ground := Ground.guard }], guard := some (10, false) }) (v := ?_) rfl (by kernel_rfl) (by kernel_rfl) (by kernel_rfl) (fun _ _ _ h => h) (Or.inl ⟨by rfl, ?_⟩) (by exact hHeld) ?_
          rotate_left
          · (intro w hSw; (try dsimp only at hSw); go_simp <;> with_reducible rfl)
          try simp only [Act.put, List.setIfInBounds_toArray, List.set_cons_zero, List.set_cons_succ]
          refine wpAnyH_take (i := 14) (oi := { dst := some 137, op := Op.nilCheck (Operand.tmp 136), type := 0, pos := _, after := #[{ on := 13, ground := Ground.data }, { on := 10, ground := Ground.guard }], guard := some (10, false) }) (v := ?_) rfl (by kernel_rfl) (by kernel_rfl) (by kernel_rfl) (fun _ _ _ h => h) (Or.inl ⟨by rfl, ?_⟩) (by exact hHeld) ?_
          rotate_left
          · (intro w hSw; (try dsimp only at hSw); go_simp <;> with_reducible rfl)
          try simp only [Act.put, List.setIfInBounds_toArray, List.set_cons_zero, List.set_cons_succ]
          refine wpAnyH_take (i := 15) (oi := { dst := some 138, op := Op.fieldAddr 47 (Operand.tmp 137) 1, type := 0, pos := _, after := #[{ on := 14, ground := Ground.data }, { on := 10, ground := Ground.guard }], guard := some (10, false) }) (v := ?_) rfl (by kernel_rfl) (by kernel_rfl) (by kernel_rfl) (fun _ _ _ h => h) (Or.inl ⟨by rfl, ?_⟩) (by exact hHeld) ?_
          rotate_left
          · (intro w hSw; (try dsimp only at hSw); go_simp <;> with_reducible rfl)
          try simp only [Act.put, List.setIfInBounds_toArray, List.set_cons_zero, List.set_cons_succ]
          refine wpAnyH_take (i := 16) (oi := { dst := some 139, op := Op.load 2 (Operand.tmp 138), type := 2, pos := _, after := #[{ on := 15, ground := Ground.data }, { on := 10, ground := Ground.guard }], guard := some (10, false) }) (v := ?_) rfl (by kernel_rfl) (by kernel_rfl) (by kernel_rfl) (fun _ _ _ h => h) (Or.inl ⟨by rfl, ?_⟩) (by exact hHeld) ?_
          rotate_left
          · (intro w hSw; (try dsimp only at hSw); go_simp <;> with_reducible rfl)
          try simp only [Act.put, List.setIfInBounds_toArray, List.set_cons_zero, List.set_cons_succ]
          refine wpAnyH_ready (rs := [12]) (by kernel_rfl) (by simp) ?_
          refine AllReadyH.cons (o := { dst := some 135, op := Op.call { callee := Callee.value (Operand.func 25), args := #[Operand.tmp 134], argTypes := #[24] }, type := 2, pos := _, after := #[{ on := 11, ground := Ground.data }, { on := 10, ground := Ground.chain }, { on := 10, ground := Ground.guard }], guard := some (10, false) }) rfl (fun K hK => ?_) AllReadyH.nil
          go_simp
          refine (HNW.out _ (below_drew hB2 d)).mono ?_
          rintro e u4 ⟨rfl, rfl⟩
          go_wp2_with fail
          refine hK.out _ _ ⟨cell_later (by exact below_drew hB2 d) HN0.out, cell_later (by exact below_drew hB2 d) HX0.out⟩ (fun hHeld => ?_)
          clear hK K
          try simp only [Act.put, List.setIfInBounds_toArray, List.set_cons_zero, List.set_cons_succ]
          refine wpAnyH_take (i := 17) (oi := { dst := some 140, op := Op.binOp BinOp.neq 2 (Operand.tmp 135) (Operand.tmp 139) 2, type := 4, pos := _, after := #[{ on := 12, ground := Ground.data }, { on := 16, ground := Ground.data }, { on := 10, ground := Ground.guard }], guard := some (10, false) }) (v := ?_) rfl (by kernel_rfl) (by kernel_rfl) (by kernel_rfl) (fun _ _ _ h => h) (Or.inl ⟨by rfl, ?_⟩) (by exact hHeld) ?_
          rotate_left
          · (intro w hSw; (try dsimp only at hSw); go_simp <;> with_reducible rfl)
          try simp only [Act.put, List.setIfInBounds_toArray, List.set_cons_zero, List.set_cons_succ]
          refine wpAnyH_take (i := 18) (oi := { dst := some 141, op := Op.pick (Operand.tmp 133) (Operand.const (Value.bool true)) (Operand.tmp 140), type := 4, pos := _, after := #[{ on := 10, ground := Ground.data }, { on := 17, ground := Ground.data }], guard := none }) (v := ?_) rfl (by kernel_rfl) (by kernel_rfl) (by kernel_rfl) (fun _ _ _ h => h) (Or.inl ⟨by rfl, ?_⟩) (by exact hHeld) ?_
          rotate_left
          · (intro w hSw; (try dsimp only at hSw); go_simp <;> with_reducible rfl)
          try simp only [Act.put, List.setIfInBounds_toArray, List.set_cons_zero, List.set_cons_succ]
          refine wpAnyH_take (i := 19) (oi := { dst := some 142, op := Op.move (Operand.tmp 141), type := 4, pos := _, after := #[{ on := 18, ground := Ground.data }, { on := 12, ground := Ground.chain }], guard := none }) (v := ?_) rfl (by kernel_rfl) (by kernel_rfl) (by kernel_rfl) (fun _ _ _ h => h) (Or.inl ⟨by rfl, ?_⟩) (by exact hHeld) ?_
          rotate_left
          · (intro w hSw; (try dsimp only at hSw); go_simp <;> with_reducible rfl)
          try simp only [Act.put, List.setIfInBounds_toArray, List.set_cons_zero, List.set_cons_succ]
          refine wpAnyH_take (i := 20) (oi := { dst := some 143, op := Op.move (Operand.tmp 5), type := 24, pos := _, after := #[{ on := 19, ground := Ground.guard }], guard := some (19, false) }) (v := ?_) rfl (by kernel_rfl) (by kernel_rfl) (by kernel_rfl) (fun _ _ _ h => h) (Or.inl ⟨by rfl, ?_⟩) (by exact hHeld) ?_
          rotate_left
          · (intro w hSw; (try dsimp only at hSw); go_simp <;> with_reducible rfl)
          try simp only [Act.put, List.setIfInBounds_toArray, List.set_cons_zero, List.set_cons_succ]
          refine wpAnyH_take (i := 21) (oi := { dst := some 144, op := Op.fieldAddr 36 (Operand.tmp 9) 1, type := 0, pos := _, after := #[{ on := 19, ground := Ground.guard }], guard := some (19, false) }) (v := ?_) rfl (by kernel_rfl) (by kernel_rfl) (by kernel_rfl) (fun _ _ _ h => h) (Or.inl ⟨by rfl, ?_⟩) (by exact hHeld) ?_
          rotate_left
          · (intro w hSw; (try dsimp only at hSw); go_simp <;> with_reducible rfl)
          try simp only [Act.put, List.setIfInBounds_toArray, List.set_cons_zero, List.set_cons_succ]
          refine wpAnyH_take (i := 22) (oi := { dst := some 145, op := Op.load 2 (Operand.tmp 144), type := 2, pos := _, after := #[{ on := 21, ground := Ground.data }, { on := 19, ground := Ground.guard }], guard := some (19, false) }) (v := ?_) rfl (by kernel_rfl) (by kernel_rfl) (by kernel_rfl) (fun _ _ _ h => h) (Or.inl ⟨by rfl, ?_⟩) (by exact hHeld) ?_
          rotate_left
          · (intro w hSw; (try dsimp only at hSw); go_simp <;> with_reducible rfl)
          try simp only [Act.put, List.setIfInBounds_toArray, List.set_cons_zero, List.set_cons_succ]
          refine wpAnyH_take (i := 24) (oi := { dst := some 147, op := Op.move (Operand.tmp 7), type := 44, pos := _, after := #[{ on := 19, ground := Ground.guard }], guard := some (19, false) }) (v := ?_) rfl (by kernel_rfl) (by kernel_rfl) (by kernel_rfl) (fun _ _ _ h => h) (Or.inl ⟨by rfl, ?_⟩) (by exact hHeld) ?_
          rotate_left
          · (intro w hSw; (try dsimp only at hSw); go_simp <;> with_reducible rfl)
          try simp only [Act.put, List.setIfInBounds_toArray, List.set_cons_zero, List.set_cons_succ]
          refine wpAnyH_take (i := 25) (oi := { dst := some 148, op := Op.fieldAddr 36 (Operand.tmp 9) 1, type := 0, pos := _, after := #[{ on := 19, ground := Ground.guard }], guard := some (19, false) }) (v := ?_) rfl (by kernel_rfl) (by kernel_rfl) (by kernel_rfl) (fun _ _ _ h => h) (Or.inl ⟨by rfl, ?_⟩) (by exact hHeld) ?_
          rotate_left
          · (intro w hSw; (try dsimp only at hSw); go_simp <;> with_reducible rfl)
          try simp only [Act.put, List.setIfInBounds_toArray, List.set_cons_zero, List.set_cons_succ]
          refine wpAnyH_take (i := 26) (oi := { dst := some 149, op := Op.load 2 (Operand.tmp 148), type := 2, pos := _, after := #[{ on := 25, ground := Ground.data }, { on := 19, ground := Ground.guard }], guard := some (19, false) }) (v := ?_) rfl (by kernel_rfl) (by kernel_rfl) (by kernel_rfl) (fun _ _ _ h => h) (Or.inl ⟨by rfl, ?_⟩) (by exact hHeld) ?_
          rotate_left
          · (intro w hSw; (try dsimp only at hSw); go_simp <;> with_reducible rfl)
          try simp only [Act.put, List.setIfInBounds_toArray, List.set_cons_zero, List.set_cons_succ]
          refine wpAnyH_ready (rs := [23]) (by kernel_rfl) (by simp) ?_
          refine AllReadyH.cons (o := { dst := some 146, op := Op.call { callee := Callee.value (Operand.func 14), args := #[Operand.tmp 143, Operand.tmp 145], argTypes := #[24, 2] }, type := 4, pos := _, after := #[{ on := 20, ground := Ground.data }, { on := 22, ground := Ground.data }, { on := 19, ground := Ground.chain }, { on := 19, ground := Ground.guard }], guard := some (19, false) }) rfl (fun K hK => ?_) AllReadyH.nil
          go_simp
          refine (HLA.out _ (below_drew hB2 d)).mono ?_
          rintro e u5 ⟨rfl, hB5, _⟩
          go_wp2_with fail
          refine hK.out _ _ ⟨cell_later (by exact hB5) HN0.out, cell_later (by exact hB5) HX0.out⟩ (fun hHeld => ?_)
          clear hK K
          try simp only [Act.put, List.setIfInBounds_toArray, List.set_cons_zero, List.set_cons_succ]
          refine wpAnyH_ready (rs := [27]) (by kernel_rfl) (by simp) ?_
          refine AllReadyH.cons (o := { dst := some 150, op := Op.call { callee := Callee.value (Operand.func 26), args := #[Operand.tmp 147, Operand.tmp 149], argTypes := #[44, 2] }, type := 4, pos := _, after := #[{ on := 24, ground := Ground.data }, { on := 26, ground := Ground.data }, { on := 23, ground := Ground.chain }, { on := 19, ground := Ground.guard }], guard := some (19, false) }) rfl (fun K hK => ?_) AllReadyH.nil
          go_simp
          refine (HLB.out _ hB5).mono ?_
          rintro e u6 ⟨rfl, rfl⟩
          go_wp2_with fail
          refine hK.out _ _ ⟨cell_later (by exact hB5) HN0.out, cell_later (by exact hB5) HX0.out⟩ (fun hHeld => ?_)
          clear hK K
          try simp only [Act.put, List.setIfInBounds_toArray, List.set_cons_zero, List.set_cons_succ]
          refine wpAnyH_take (i := 28) (oi := { dst := some 151, op := Op.binOp BinOp.neq 4 (Operand.tmp 146) (Operand.tmp 150) 4, type := 4, pos := _, after := #[{ on := 23, ground := Ground.data }, { on := 27, ground := Ground.data }, { on := 19, ground := Ground.guard }], guard := some (19, false) }) (v := ?_) rfl (by kernel_rfl) (by kernel_rfl) (by kernel_rfl) (fun _ _ _ h => h) (Or.inl ⟨by rfl, ?_⟩) (by exact hHeld) ?_
          rotate_left
          · (intro w hSw; (try dsimp only at hSw); go_simp <;> with_reducible rfl)
          try simp only [Act.put, List.setIfInBounds_toArray, List.set_cons_zero, List.set_cons_succ]
          refine wpAnyH_take (i := 29) (oi := { dst := some 152, op := Op.pick (Operand.tmp 142) (Operand.const (Value.bool true)) (Operand.tmp 151), type := 4, pos := _, after := #[{ on := 19, ground := Ground.data }, { on := 28, ground := Ground.data }], guard := none }) (v := ?_) rfl (by kernel_rfl) (by kernel_rfl) (by kernel_rfl) (fun _ _ _ h => h) (Or.inl ⟨by rfl, ?_⟩) (by exact hHeld) ?_
          rotate_left
          · (intro w hSw; (try dsimp only at hSw); go_simp <;> with_reducible rfl)
          try simp only [Act.put, List.setIfInBounds_toArray, List.set_cons_zero, List.set_cons_succ]
          refine wpAnyH_take (i := 30) (oi := { dst := some 153, op := Op.move (Operand.tmp 152), type := 4, pos := _, after := #[{ on := 29, ground := Ground.data }, { on := 27, ground := Ground.chain }], guard := none }) (v := ?_) rfl (by kernel_rfl) (by kernel_rfl) (by kernel_rfl) (fun _ _ _ h => h) (Or.inl ⟨by rfl, ?_⟩) (by exact hHeld) ?_
          rotate_left
          · (intro w hSw; (try dsimp only at hSw); go_simp <;> with_reducible rfl)
          try simp only [Act.put, List.setIfInBounds_toArray, List.set_cons_zero, List.set_cons_succ]
          refine wpAnyH_take (i := 31) (oi := { dst := some 154, op := Op.move (Operand.tmp 5), type := 24, pos := _, after := #[{ on := 30, ground := Ground.guard }], guard := some (30, false) }) (v := ?_) rfl (by kernel_rfl) (by kernel_rfl) (by kernel_rfl) (fun _ _ _ h => h) (Or.inl ⟨by rfl, ?_⟩) (by exact hHeld) ?_
          rotate_left
          · (intro w hSw; (try dsimp only at hSw); go_simp <;> with_reducible rfl)
          try simp only [Act.put, List.setIfInBounds_toArray, List.set_cons_zero, List.set_cons_succ]
          refine wpAnyH_take (i := 34) (oi := { dst := some 157, op := Op.move (Operand.tmp 7), type := 44, pos := _, after := #[{ on := 30, ground := Ground.guard }], guard := some (30, false) }) (v := ?_) rfl (by kernel_rfl) (by kernel_rfl) (by kernel_rfl) (fun _ _ _ h => h) (Or.inl ⟨by rfl, ?_⟩) (by exact hHeld) ?_
          rotate_left
          · (intro w hSw; (try dsimp only at hSw); go_simp <;> with_reducible rfl)
          try simp only [Act.put, List.setIfInBounds_toArray, List.set_cons_zero, List.set_cons_succ]
          refine wpAnyH_ready (rs := [32]) (by kernel_rfl) (by simp) ?_
          refine AllReadyH.cons (o := { dst := some 155, op := Op.call { callee := Callee.value (Operand.func 18), args := #[Operand.tmp 154], argTypes := #[24] }, type := 40, pos := _, after := #[{ on := 31, ground := Ground.data }, { on := 30, ground := Ground.chain }, { on := 30, ground := Ground.guard }], guard := some (30, false) }) rfl (fun K hK => ?_) AllReadyH.nil
          go_simp
          refine (HPA.out _ hB5).mono ?_
          rintro e u7 ⟨a4, n4, c4, rfl, hcv, hB7, _⟩
          have HCV := Lib.hid hcv; have hcv4 := hcv u7 (Below.refl _ _); clear hcv
          go_wp2_with fail
          refine hK.out _ _ ⟨cell_later (by exact hB7) HN0.out, cell_later (by exact hB7) HX0.out⟩ (fun hHeld => ?_)
          clear hK K
          try simp only [Act.put, List.setIfInBounds_toArray, List.set_cons_zero, List.set_cons_succ]
          refine wpAnyH_ready (rs := [33, 35]) (by kernel_rfl) (by simp) ?_
          refine AllReadyH.cons (o := { dst := some 156, op := Op.convert 40 9 (Operand.tmp 155), type := 9, pos := _, after := #[{ on := 32, ground := Ground.data }, { on := 30, ground := Ground.guard }], guard := some (30, false) }) rfl (fun K hK => ?_) (AllReadyH.cons (o := { dst := some 158, op := Op.call { callee := Callee.value (Operand.func 27), args := #[Operand.tmp 157], argTypes := #[44] }, type := 40, pos := _, after := #[{ on := 34, ground := Ground.data }, { on := 32, ground := Ground.chain }, { on := 30, ground := Ground.guard }], guard := some (30, false) }) rfl (fun K hK => ?_) AllReadyH.nil)
          · go_simp
            refine hK.out _ _ ⟨cell_later (by exact hB7) HN0.out, cell_later (by exact hB7) HX0.out⟩ (fun hHeld => ?_)
            clear hK K
            try simp only [Act.put, List.setIfInBounds_toArray, List.set_cons_zero, List.set_cons_succ]
            refine wpAnyH_ready (rs := [35]) (by kernel_rfl) (by simp) ?_
            refine AllReadyH.cons (o := { dst := some 158, op := Op.call { callee := Callee.value (Operand.func 27), args := #[Operand.tmp 157], argTypes := #[44] }, type := 40, pos := _, after := #[{ on := 34, ground := Ground.data }, { on := 32, ground := Ground.chain }, { on := 30, ground := Ground.guard }], guard := some (30, false) }) rfl (fun K hK => ?_) AllReadyH.nil
            go_simp
            refine (HPB.out _ hB7).mono ?_
            rintro e u8 ⟨a5, n5, c5, rfl, hcv, hB8, hb8⟩
            have hcv5 := hcv u8 (Below.refl _ _); have hcv45 := HCV.out u8 hb8; clear hcv
            go_wp2_with fail
            refine hK.out _ _ ⟨cell_later (by exact hB8) HN0.out, cell_later (by exact hB8) HX0.out⟩ (fun hHeld => ?_)
            clear hK K
            try simp only [Act.put, List.setIfInBounds_toArray, List.set_cons_zero, List.set_cons_succ]
            refine wpAnyH_ready (rs := [36]) (by kernel_rfl) (by simp) ?_
            refine AllReadyH.cons (o := { dst := some 159, op := Op.convert 40 9 (Operand.tmp 158), type := 9, pos := _, after := #[{ on := 35, ground := Ground.data }, { on := 30, ground := Ground.guard }], guard := some (30, false) }) rfl (fun K hK => ?_) AllReadyH.nil
            go_simp
            refine hK.out _ _ ⟨cell_later (by exact hB8) HN0.out, cell_later (by exact hB8) HX0.out⟩ (fun hHeld => ?_)
            clear hK K
            try simp only [Act.put, List.setIfInBounds_toArray, List.set_cons_zero, List.set_cons_succ]
            refine wpAnyH_take (i := 37) (oi := { dst := some 160, op := Op.binOp BinOp.neq 9 (Operand.tmp 156) (Operand.tmp 159) 9, type := 4, pos := _, after := #[{ on := 33, ground := Ground.data }, { on := 36, ground := Ground.data }, { on := 30, ground := Ground.guard }], guard := some (30, false) }) (v := ?_) rfl (by kernel_rfl) (by kernel_rfl) (by kernel_rfl) (fun _ _ _ h => h) (Or.inl ⟨by rfl, ?_⟩) (by exact hHeld) ?_
            rotate_left
            · (intro w hSw; (try dsimp only at hSw); go_simp <;> with_reducible rfl)
            try simp only [Act.put, List.setIfInBounds_toArray, List.set_cons_zero, List.set_cons_succ]
            refine wpAnyH_take (i := 38) (oi := { dst := some 161, op := Op.pick (Operand.tmp 153) (Operand.const (Value.bool true)) (Operand.tmp 160), type := 4, pos := _, after := #[{ on := 30, ground := Ground.data }, { on := 37, ground := Ground.data }], guard := none }) (v := ?_) rfl (by kernel_rfl) (by kernel_rfl) (by kernel_rfl) (fun _ _ _ h => h) (Or.inl ⟨by rfl, ?_⟩) (by exact hHeld) ?_
            rotate_left
            · (intro w hSw; (try dsimp only at hSw); go_simp <;> with_reducible rfl)
            try simp only [Act.put, List.setIfInBounds_toArray, List.set_cons_zero, List.set_cons_succ]
            refine wpAnyH_done (by kernel_rfl) ?_ _
            go_wp2_with fail
            go_roundw
            case rel => exact ⟨k + 1, s', a', g1', g2', by omega, by go_num, rfl, HM'.out, HD'.out.one.below hB8, HD'.out.two.below hB8, HD'.out.below.trans (hB8.mono HD'.out.below.size)⟩
            case measure => simp [intOf]; omega
          · go_simp
            refine (HPB.out _ hB7).mono ?_
            rintro e u8 ⟨a5, n5, c5, rfl, hcv, hB8, hb8⟩
            have hcv5 := hcv u8 (Below.refl _ _); have hcv45 := HCV.out u8 hb8; clear hcv
            go_wp2_with fail
            refine hK.out _ _ ⟨cell_later (by exact hB8) HN0.out, cell_later (by exact hB8) HX0.out⟩ (fun hHeld => ?_)
            clear hK K
            try simp only [Act.put, List.setIfInBounds_toArray, List.set_cons_zero, List.set_cons_succ]
            refine wpAnyH_ready (rs := [33, 36]) (by kernel_rfl) (by simp) ?_
            refine AllReadyH.cons (o := { dst := some 156, op := Op.convert 40 9 (Operand.tmp 155), type := 9, pos := _, after := #[{ on := 32, ground := Ground.data }, { on := 30, ground := Ground.guard }], guard := some (30, false) }) rfl (fun K hK => ?_) (AllReadyH.cons (o := { dst := some 159, op := Op.convert 40 9 (Operand.tmp 158), type := 9, pos := _, after := #[{ on := 35, ground := Ground.data }, { on := 30, ground := Ground.guard }], guard := some (30, false) }) rfl (fun K hK => ?_) AllReadyH.nil)
            · go_simp
              refine hK.out _ _ ⟨cell_later (by exact hB8) HN0.out, cell_later (by exact hB8) HX0.out⟩ (fun hHeld => ?_)
              clear hK K
              try simp only [Act.put, List.setIfInBounds_toArray, List.set_cons_zero, List.set_cons_succ]
              refine wpAnyH_ready (rs := [36]) (by kernel_rfl) (by simp) ?_
              refine AllReadyH.cons (o := { dst := some 159, op := Op.convert 40 9 (Operand.tmp 158), type := 9, pos := _, after := #[{ on := 35, ground := Ground.data }, { on := 30, ground := Ground.guard }], guard := some (30, false) }) rfl (fun K hK => ?_) AllReadyH.nil
              go_simp
              refine hK.out _ _ ⟨cell_later (by exact hB8) HN0.out, cell_later (by exact hB8) HX0.out⟩ (fun hHeld => ?_)
              clear hK K
              try simp only [Act.put, List.setIfInBounds_toArray, List.set_cons_zero, List.set_cons_succ]
              refine wpAnyH_take (i := 37) (oi := { dst := some 160, op := Op.binOp BinOp.neq 9 (Operand.tmp 156) (Operand.tmp 159) 9, type := 4, pos := _, after := #[{ on := 33, ground := Ground.data }, { on := 36, ground := Ground.data }, { on := 30, ground := Ground.guard }], guard := some (30, false) }) (v := ?_) rfl (by kernel_rfl) (by kernel_rfl) (by kernel_rfl) (fun _ _ _ h => h) (Or.inl ⟨by rfl, ?_⟩) (by exact hHeld) ?_
              rotate_left
              · (intro w hSw; (try dsimp only at hSw); go_simp <;> with_reducible rfl)
              try simp only [Act.put, List.setIfInBounds_toArray, List.set_cons_zero, List.set_cons_succ]
              refine wpAnyH_take (i := 38) (oi := { dst := some 161, op := Op.pick (Operand.tmp 153) (Operand.const (Value.bool true)) (Operand.tmp 160), type := 4, pos := _, after := #[{ on := 30, ground := Ground.data }, { on := 37, ground := Ground.data }], guard := none }) (v := ?_) rfl (by kernel_rfl) (by kernel_rfl) (by kernel_rfl) (fun _ _ _ h => h) (Or.inl ⟨by rfl, ?_⟩) (by exact hHeld) ?_
              rotate_left
              · (intro w hSw; (try dsimp only at hSw); go_simp <;> with_reducible rfl)
              try simp only [Act.put, List.setIfInBounds_toArray, List.set_cons_zero, List.set_cons_succ]
              refine wpAnyH_done (by kernel_rfl) ?_ _
              go_wp2_with fail
              go_roundw
              case rel => exact ⟨k + 1, s', a', g1', g2', by omega, by go_num, rfl, HM'.out, HD'.out.one.below hB8, HD'.out.two.below hB8, HD'.out.below.trans (hB8.mono HD'.out.below.size)⟩
              case measure => simp [intOf]; omega
            · go_simp
              refine hK.out _ _ ⟨cell_later (by exact hB8) HN0.out, cell_later (by exact hB8) HX0.out⟩ (fun hHeld => ?_)
              clear hK K
              try simp only [Act.put, List.setIfInBounds_toArray, List.set_cons_zero, List.set_cons_succ]
              refine wpAnyH_ready (rs := [33]) (by kernel_rfl) (by simp) ?_
              refine AllReadyH.cons (o := { dst := some 156, op := Op.convert 40 9 (Operand.tmp 155), type := 9, pos := _, after := #[{ on := 32, ground := Ground.data }, { on := 30, ground := Ground.guard }], guard := some (30, false) }) rfl (fun K hK => ?_) AllReadyH.nil
              go_simp
              refine hK.out _ _ ⟨cell_later (by exact hB8) HN0.out, cell_later (by exact hB8) HX0.out⟩ (fun hHeld => ?_)
              clear hK K
              try simp only [Act.put, List.setIfInBounds_toArray, List.set_cons_zero, List.set_cons_succ]
              refine wpAnyH_take (i := 37) (oi := { dst := some 160, op := Op.binOp BinOp.neq 9 (Operand.tmp 156) (Operand.tmp 159) 9, type := 4, pos := _, after := #[{ on := 33, ground := Ground.data }, { on := 36, ground := Ground.data }, { on := 30, ground := Ground.guard }], guard := some (30, false) }) (v := ?_) rfl (by kernel_rfl) (by kernel_rfl) (by kernel_rfl) (fun _ _ _ h => h) (Or.inl ⟨by rfl, ?_⟩) (by exact hHeld) ?_
              rotate_left
              · (intro w hSw; (try dsimp only at hSw); go_simp <;> with_reducible rfl)
              try simp only [Act.put, List.setIfInBounds_toArray, List.set_cons_zero, List.set_cons_succ]
              refine wpAnyH_take (i := 38) (oi := { dst := some 161, op := Op.pick (Operand.tmp 153) (Operand.const (Value.bool true)) (Operand.tmp 160), type := 4, pos := _, after := #[{ on := 30, ground := Ground.data }, { on := 37, ground := Ground.data }], guard := none }) (v := ?_) rfl (by kernel_rfl) (by kernel_rfl) (by kernel_rfl) (fun _ _ _ h => h) (Or.inl ⟨by rfl, ?_⟩) (by exact hHeld) ?_
              rotate_left
              · (intro w hSw; (try dsimp only at hSw); go_simp <;> with_reducible rfl)
              try simp only [Act.put, List.setIfInBounds_toArray, List.set_cons_zero, List.set_cons_succ]
              refine wpAnyH_done (by kernel_rfl) ?_ _
              go_wp2_with fail
              go_roundw
              case rel => exact ⟨k + 1, s', a', g1', g2', by omega, by go_num, rfl, HM'.out, HD'.out.one.below hB8, HD'.out.two.below hB8, HD'.out.below.trans (hB8.mono HD'.out.below.size)⟩
              case measure => simp [intOf]; omega
      · obtain rfl : k = n := by omega
        go_wp2_with fail
        go_ret
        exact ⟨rfl, HBL.out⟩
theorem plays_said (room : Int) (ao : Option Addr) (n c : Nat) (acts : List Ac) (W : World) (h0 : (Lit.int .i64 room).wf = true) (h : IsActs W ao n acts) (hnc : n ≤ c) :
    Calls Try.prog 8 #[.int .i64 room, .slice ao n c] W fun e w' => e = .returned (.bool true) ∧ Below W.heap.size W w' :=
  plays_any room ao n c acts W h hnc (lit_sc h0).1 (lit_sc h0).2
end Go.Proofs.Ytmlgggcdjknlfaa
