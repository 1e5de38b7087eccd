/-
  Any bytes are a reply, or none, as the document says: the walk. No condition.
-/
import Derived.Test.YtpikdeikcmdcmaaRGet
import Derived.Test.YtpikdeikcmdcmaaFrameB
import Derived.Deep.RegionHeld3
namespace Go.Proofs.Ytpikdeikcmdcmaa
open Go.RowKit
theorem getR_or (l : List UInt8) : (getR l).2 = 0 ∨ (getR l).2 = 3 := by unfold getR; split <;> simp
set_option maxHeartbeats 16000000 in
set_option maxRecDepth 100000 in
theorem reads_walk (ao : Option Addr) (n c : Nat) (l : List UInt8) (w : World) (h : IsB w ao n c l) (hnc : n ≤ c) :
    Calls Try.prog 5 #[.slice ao n c] w fun x w' => x = .returned (.bool true) ∧ Below w.heap.size w w' := by
  go_enter Try.func5, Try.ntmps5
  go_wp2_with fail
  refine (awake_any w).mono ?_
  rintro x w1 ⟨rfl, hb1⟩
  have H1 := Lib.hid (h.below hb1); have HB1 := Lib.hid hb1
  clear h hb1
  by_cases hbig : 3000 < n
  · have g1 : decide ((3000 : Int) < (n : Int)) = true := by simp; omega
    go_wp2_with fail
    go_ret
    exact ⟨rfl, HB1.out⟩
  · have g1 : decide ((3000 : Int) < (n : Int)) = false := by simp; omega
    go_wp2_with fail
    refine (get_any ao n c l w1 H1.out (by omega)).mono ?_
    rintro x w2 ⟨v2, rs2, rfl, hown2, hres2, hl2, hb2⟩
    have hor := getR_or l
    obtain ⟨a2, c2, e2, hi2⟩ := hown2.isRes
    subst e2
    have HB2 := Lib.hid (HB1.out.trans (hb2.mono HB1.out.size))
    have H2 := Lib.hid (H1.out.below hb2)
    have HRG := Lib.hid (fun (W : World) (hW : IsB W ao n c l) => rget_any ao n c l W hW hnc (by omega))
    clear hown2 hb2
    generalize hgl : getR l = gl at *
    obtain ⟨⟨a, b, d, e, gres⟩, ge⟩ := gl
    have HGL := Lib.hid hgl; clear hgl
    simp only [aggP] at *
    generalize hn2 : rs2.length = n2 at *
    have HRS2 := Lib.hid hres2
    clear hres2 hn2
    go_wp2_with fail
    have hal : Below w2.heap.size w2 (w2.alloc (.cells #[.int .i64 a, .int .i64 b, .int .i64 d, .int .i64 e, .slice a2 n2 c2] 26)) := (Below.refl _ _).alloc (Nat.le_refl _) _
    have HX3 := Lib.hid (heap_new w2 (.cells #[.int .i64 a, .int .i64 b, .int .i64 d, .int .i64 e, .slice a2 n2 c2] 26))
    have HI2 := Lib.hid (hi2.below hal)
    have H3 := Lib.hid (H2.out.below hal)
    have HB3 := Lib.hid (HB2.out.trans (hal.mono HB2.out.size))
    clear hal hi2
    generalize (w2.alloc (.cells #[.int .i64 a, .int .i64 b, .int .i64 d, .int .i64 e, .slice a2 n2 c2] 26)) = w3 at *
    generalize w2.heap.size = X3 at *
    refine (HRG.out w3 H3.out).mono ?_
    rintro x w4 ⟨v4, rs4, rfl, hown4, hres4, hl4, hb4⟩
    obtain ⟨a4, c4, e4, hi4⟩ := hown4.isRes
    subst e4
    have HX34 := Lib.hid (heap_below hb4 (lt_of_heap HX3.out) HX3.out)
    have HI24 := Lib.hid (HI2.out.below hb4)
    have HB4 := Lib.hid (HB3.out.trans (hb4.mono HB3.out.size))
    have HRS4 := Lib.hid hres4
    clear hown4 hb4 hres4
    generalize hn4 : rs4.length = n4 at *
    clear hn4 HI2
    go_wp2_with fail
    have hal : Below w4.heap.size w4 (w4.alloc (.cells #[.int .i64 a, .int .i64 b, .int .i64 d, .int .i64 e, .slice a4 n4 c4] 40)) := (Below.refl _ _).alloc (Nat.le_refl _) _
    have HX5 := Lib.hid (heap_new w4 (.cells #[.int .i64 a, .int .i64 b, .int .i64 d, .int .i64 e, .slice a4 n4 c4] 40))
    have HX35 := Lib.hid (heap_below hal (lt_of_heap HX34.out) HX34.out)
    have HI2 := Lib.hid (HI24.out.below hal)
    have HI4 := Lib.hid (hi4.below hal)
    have HBZ := Lib.hid (HB4.out.trans (hal.mono HB4.out.size))
    clear hal hi4
    generalize (w4.alloc (.cells #[.int .i64 a, .int .i64 b, .int .i64 d, .int .i64 e, .slice a4 n4 c4] 40)) = wz at *
    generalize w4.heap.size = X5 at *
    have HSM := Lib.hid (show decide ((⟨a, b, d, e, resL rs2⟩ : Rp) = ⟨a, b, d, e, resL rs4⟩) = true by rw [HRS2.out, HRS4.out]; simp)
    have HC := Lib.hid (show ∀ W, Below wz.heap.size wz W → (fun w' => w'.cell? ⟨X3, 0, none⟩ = some (.int .i64 a) ∧ w'.cell? ⟨X3, 1, none⟩ = some (.int .i64 b) ∧ w'.cell? ⟨X3, 2, none⟩ = some (.int .i64 d) ∧ w'.cell? ⟨X3, 3, none⟩ = some (.int .i64 e) ∧ w'.cell? ⟨X3, 4, none⟩ = some (.slice a2 n2 c2) ∧ w'.cell? ⟨X5, 0, none⟩ = some (.int .i64 a) ∧ w'.cell? ⟨X5, 1, none⟩ = some (.int .i64 b) ∧ w'.cell? ⟨X5, 2, none⟩ = some (.int .i64 d) ∧ w'.cell? ⟨X5, 3, none⟩ = some (.int .i64 e) ∧ w'.cell? ⟨X5, 4, none⟩ = some (.slice a4 n4 c4)) W from fun W hbW => by
      have k3 := heap_below hbW (lt_of_heap HX35.out) HX35.out
      have k5 := heap_below hbW (lt_of_heap HX5.out) HX5.out
      refine ⟨?_, ?_, ?_, ?_, ?_, ?_, ?_, ?_, ?_, ?_⟩
      all_goals first | (rw [cell_heap k3]; rfl) | (rw [cell_heap k5]; rfl))
    rcases hor with rfl | rfl
    · have f1 : decide ((0 : Int) = 0) = true := by decide
      refine wp_region_held_drew (S := fun w' => w'.cell? ⟨X3, 0, none⟩ = some (.int .i64 a) ∧ w'.cell? ⟨X3, 1, none⟩ = some (.int .i64 b) ∧ w'.cell? ⟨X3, 2, none⟩ = some (.int .i64 d) ∧ w'.cell? ⟨X3, 3, none⟩ = some (.int .i64 e) ∧ w'.cell? ⟨X3, 4, none⟩ = some (.slice a2 n2 c2) ∧ w'.cell? ⟨X5, 0, none⟩ = some (.int .i64 a) ∧ w'.cell? ⟨X5, 1, none⟩ = some (.int .i64 b) ∧ w'.cell? ⟨X5, 2, none⟩ = some (.int .i64 d) ∧ w'.cell? ⟨X5, 3, none⟩ = some (.int .i64 e) ∧ w'.cell? ⟨X5, 4, none⟩ = some (.slice a4 n4 c4)) (by kernel_rfl) (HC.out _ (below_drew (Below.refl wz.heap.size wz) 1)) (fun hHeld => ?_)
      refine wpAnyH_take (i := 0) (oi := { dst := some 22, op := Op.move (Operand.tmp 4), type := 23, pos := _, after := #[], guard := none }) (v := ?_) rfl (by kernel_rfl) (by kernel_rfl) (by kernel_rfl) (fun _ _ _ h => h) (Or.inl ⟨by rfl, ?_⟩) (by exact hHeld) ?_
      rotate_left
      · (intro w hSw; (try dsimp only at hSw); go_simp <;> with_reducible rfl)
      try simp only [Act.put, List.setIfInBounds_toArray, List.set_cons_zero, List.set_cons_succ]
      refine wpAnyH_take (i := 1) (oi := { dst := some 23, op := Op.binOp BinOp.eql 23 (Operand.tmp 22) (Operand.const (Value.int IntKind.i64 0)) 23, type := 4, pos := _, after := #[{ on := 0, ground := Ground.data }], guard := none }) (v := ?_) rfl (by kernel_rfl) (by kernel_rfl) (by kernel_rfl) (fun _ _ _ h => h) (Or.inl ⟨by rfl, ?_⟩) (by exact hHeld) ?_
      rotate_left
      · (intro w hSw; (try dsimp only at hSw); go_simp <;> with_reducible rfl)
      try simp only [Act.put, List.setIfInBounds_toArray, List.set_cons_zero, List.set_cons_succ]
      refine wpAnyH_take (i := 2) (oi := { dst := some 24, op := Op.move (Operand.tmp 6), type := 4, pos := _, after := #[], guard := none }) (v := ?_) rfl (by kernel_rfl) (by kernel_rfl) (by kernel_rfl) (fun _ _ _ h => h) (Or.inl ⟨by rfl, ?_⟩) (by exact hHeld) ?_
      rotate_left
      · (intro w hSw; (try dsimp only at hSw); go_simp <;> with_reducible rfl)
      try simp only [Act.put, List.setIfInBounds_toArray, List.set_cons_zero, List.set_cons_succ]
      refine wpAnyH_take (i := 3) (oi := { dst := some 25, op := Op.binOp BinOp.eql 4 (Operand.tmp 23) (Operand.tmp 24) 4, type := 4, pos := _, after := #[{ on := 1, ground := Ground.data }, { on := 2, ground := Ground.data }], guard := none }) (v := ?_) rfl (by kernel_rfl) (by kernel_rfl) (by kernel_rfl) (fun _ _ _ h => h) (Or.inl ⟨by rfl, ?_⟩) (by exact hHeld) ?_
      rotate_left
      · (intro w hSw; (try dsimp only at hSw); go_simp <;> with_reducible rfl)
      try simp only [Act.put, List.setIfInBounds_toArray, List.set_cons_zero, List.set_cons_succ]
      refine wpAnyH_take (i := 4) (oi := { dst := some 26, op := Op.move (Operand.tmp 25), type := 4, pos := _, after := #[{ on := 3, ground := Ground.data }], guard := none }) (v := ?_) rfl (by kernel_rfl) (by kernel_rfl) (by kernel_rfl) (fun _ _ _ h => h) (Or.inl ⟨by rfl, ?_⟩) (by exact hHeld) ?_
      rotate_left
      · (intro w hSw; (try dsimp only at hSw); go_simp <;> with_reducible rfl)
      try simp only [Act.put, List.setIfInBounds_toArray, List.set_cons_zero, List.set_cons_succ]
      refine wpAnyH_take (i := 5) (oi := { dst := some 27, op := Op.move (Operand.tmp 6), type := 4, pos := _, after := #[{ on := 4, ground := Ground.guard }], guard := some (4, true) }) (v := ?_) rfl (by kernel_rfl) (by kernel_rfl) (by kernel_rfl) (fun _ _ _ h => h) (Or.inl ⟨by rfl, ?_⟩) (by exact hHeld) ?_
      rotate_left
      · (intro w hSw; (try dsimp only at hSw); go_simp <;> with_reducible rfl)
      try simp only [Act.put, List.setIfInBounds_toArray, List.set_cons_zero, List.set_cons_succ]
      refine wpAnyH_take (i := 6) (oi := { dst := some 28, op := Op.move (Operand.tmp 27), type := 4, pos := _, after := #[{ on := 5, ground := Ground.data }, { on := 4, ground := Ground.chain }, { on := 4, ground := Ground.guard }], guard := some (4, true) }) (v := ?_) rfl (by kernel_rfl) (by kernel_rfl) (by kernel_rfl) (fun _ _ _ h => h) (Or.inl ⟨by rfl, ?_⟩) (by exact hHeld) ?_
      rotate_left
      · (intro w hSw; (try dsimp only at hSw); go_simp <;> with_reducible rfl)
      try simp only [Act.put, List.setIfInBounds_toArray, List.set_cons_zero, List.set_cons_succ]
      refine wpAnyH_take (i := 7) (oi := { dst := some 29, op := Op.move (Operand.tmp 4), type := 23, pos := _, after := #[{ on := 6, ground := Ground.guard }], guard := some (6, false) }) (v := undef) rfl (by kernel_rfl) (by kernel_rfl) (by kernel_rfl) (fun _ _ _ h => h) (Or.inr ⟨by rfl, rfl⟩) (by exact hHeld) ?_
      try simp only [Act.put, List.setIfInBounds_toArray, List.set_cons_zero, List.set_cons_succ]
      refine wpAnyH_take (i := 8) (oi := { dst := some 30, op := Op.binOp BinOp.eql 23 (Operand.tmp 29) (Operand.const (Value.int IntKind.i64 3)) 23, type := 4, pos := _, after := #[{ on := 7, ground := Ground.data }, { on := 6, ground := Ground.guard }], guard := some (6, false) }) (v := undef) rfl (by kernel_rfl) (by kernel_rfl) (by kernel_rfl) (fun _ _ _ h => h) (Or.inr ⟨by rfl, rfl⟩) (by exact hHeld) ?_
      try simp only [Act.put, List.setIfInBounds_toArray, List.set_cons_zero, List.set_cons_succ]
      refine wpAnyH_take (i := 9) (oi := { dst := some 31, op := Op.pick (Operand.tmp 28) (Operand.const (Value.bool true)) (Operand.tmp 30), type := 4, pos := _, after := #[{ on := 6, ground := Ground.data }, { on := 8, ground := Ground.data }, { on := 4, ground := Ground.guard }], guard := some (4, true) }) (v := ?_) rfl (by kernel_rfl) (by kernel_rfl) (by kernel_rfl) (fun _ _ _ h => h) (Or.inl ⟨by rfl, ?_⟩) (by exact hHeld) ?_
      rotate_left
      · (intro w hSw; (try dsimp only at hSw); go_simp <;> with_reducible rfl)
      try simp only [Act.put, List.setIfInBounds_toArray, List.set_cons_zero, List.set_cons_succ]
      refine wpAnyH_take (i := 10) (oi := { dst := some 32, op := Op.pick (Operand.tmp 26) (Operand.tmp 31) (Operand.const (Value.bool false)), type := 4, pos := _, after := #[{ on := 4, ground := Ground.data }, { on := 9, ground := Ground.data }], guard := none }) (v := ?_) rfl (by kernel_rfl) (by kernel_rfl) (by kernel_rfl) (fun _ _ _ h => h) (Or.inl ⟨by rfl, ?_⟩) (by exact hHeld) ?_
      rotate_left
      · (intro w hSw; (try dsimp only at hSw); go_simp <;> with_reducible rfl)
      try simp only [Act.put, List.setIfInBounds_toArray, List.set_cons_zero, List.set_cons_succ]
      refine wpAnyH_take (i := 11) (oi := { dst := some 33, op := Op.move (Operand.tmp 32), type := 4, pos := _, after := #[{ on := 10, ground := Ground.data }, { on := 6, ground := Ground.chain }], guard := none }) (v := ?_) rfl (by kernel_rfl) (by kernel_rfl) (by kernel_rfl) (fun _ _ _ h => h) (Or.inl ⟨by rfl, ?_⟩) (by exact hHeld) ?_
      rotate_left
      · (intro w hSw; (try dsimp only at hSw); go_simp <;> with_reducible rfl)
      try simp only [Act.put, List.setIfInBounds_toArray, List.set_cons_zero, List.set_cons_succ]
      refine wpAnyH_take (i := 12) (oi := { dst := some 34, op := Op.load 26 (Operand.tmp 3), type := 26, pos := _, after := #[{ on := 11, ground := Ground.guard }], guard := some (11, true) }) (v := ?_) rfl (by kernel_rfl) (by kernel_rfl) (by kernel_rfl) (fun _ _ _ h => h) (Or.inl ⟨by rfl, ?_⟩) (by exact hHeld) ?_
      rotate_left
      · (intro w hSw; (try dsimp only at hSw); go_simp <;> with_reducible rfl)
      try simp only [Act.put, List.setIfInBounds_toArray, List.set_cons_zero, List.set_cons_succ]
      refine wpAnyH_take (i := 14) (oi := { dst := some 36, op := Op.load 40 (Operand.tmp 5), type := 40, pos := _, after := #[{ on := 11, ground := Ground.guard }], guard := some (11, true) }) (v := ?_) rfl (by kernel_rfl) (by kernel_rfl) (by kernel_rfl) (fun _ _ _ h => h) (Or.inl ⟨by rfl, ?_⟩) (by exact hHeld) ?_
      rotate_left
      · (intro w hSw; (try dsimp only at hSw); go_simp <;> with_reducible rfl)
      try simp only [Act.put, List.setIfInBounds_toArray, List.set_cons_zero, List.set_cons_succ]
      refine wpAnyH_ready (rs := [13]) (by kernel_rfl) (by simp) ?_
      refine AllReadyH.cons (o := { dst := some 35, op := Op.call { callee := Callee.value (Operand.func 17), args := #[Operand.tmp 34], argTypes := #[26] }, type := 40, pos := _, after := #[{ on := 12, ground := Ground.data }, { on := 11, ground := Ground.chain }, { on := 11, ground := Ground.guard }], guard := some (11, true) }) rfl (fun K hK => ?_) AllReadyH.nil
      go_simp
      refine (rp_any a b d e a2 n2 c2 _).mono ?_
      rintro x u1 ⟨rfl, hb1⟩
      have hB1 : Below wz.heap.size wz u1 := (below_drew (Below.refl wz.heap.size wz) 1).trans (by exact hb1)
      go_wp2_with fail
      refine hK.out _ _ (HC.out _ (by exact hB1)) (fun hHeld => ?_)
      clear hK K
      try simp only [Act.put, List.setIfInBounds_toArray, List.set_cons_zero, List.set_cons_succ]
      refine wpAnyH_ready (rs := [15]) (by kernel_rfl) (by simp) ?_
      refine AllReadyH.cons (o := { dst := some 37, op := Op.call { callee := Callee.value (Operand.func 19), args := #[Operand.tmp 35, Operand.tmp 36], argTypes := #[40, 40] }, type := 4, pos := _, after := #[{ on := 13, ground := Ground.data }, { on := 14, ground := Ground.data }, { on := 13, ground := Ground.chain }, { on := 11, ground := Ground.guard }], guard := some (11, true) }) rfl (fun K hK => ?_) AllReadyH.nil
      go_simp
      refine (rsame_any a b d e a2 n2 c2 rs2 a b d e a4 n4 c4 rs4 _ (HI2.out.below hB1) (HI4.out.below hB1) (by omega) (by omega)).mono ?_
      rintro x u2 ⟨rfl, hb2⟩
      have hB2 : Below wz.heap.size wz u2 := hB1.trans (hb2.mono hB1.size)
      rw [HSM.out]
      go_wp2_with fail
      refine hK.out _ _ (HC.out _ (by exact hB2)) (fun hHeld => ?_)
      clear hK K
      try simp only [Act.put, List.setIfInBounds_toArray, List.set_cons_zero, List.set_cons_succ]
      refine wpAnyH_take (i := 16) (oi := { dst := some 38, op := Op.pick (Operand.tmp 33) (Operand.tmp 37) (Operand.const (Value.bool false)), type := 4, pos := _, after := #[{ on := 11, ground := Ground.data }, { on := 15, ground := Ground.data }], guard := none }) (v := ?_) rfl (by kernel_rfl) (by kernel_rfl) (by kernel_rfl) (fun _ _ _ h => h) (Or.inl ⟨by rfl, ?_⟩) (by exact hHeld) ?_
      rotate_left
      · (intro w hSw; (try dsimp only at hSw); go_simp <;> with_reducible rfl)
      try simp only [Act.put, List.setIfInBounds_toArray, List.set_cons_zero, List.set_cons_succ]
      refine wpAnyH_take (i := 17) (oi := { dst := some 2, op := Op.assign (Operand.tmp 38), type := 4, pos := _, after := #[{ on := 16, ground := Ground.data }, { on := 15, ground := Ground.chain }, { on := 0, ground := Ground.phase }, { on := 1, ground := Ground.phase }, { on := 2, ground := Ground.phase }, { on := 3, ground := Ground.phase }, { on := 4, ground := Ground.phase }, { on := 5, ground := Ground.phase }, { on := 6, ground := Ground.phase }, { on := 7, ground := Ground.phase }, { on := 8, ground := Ground.phase }, { on := 9, ground := Ground.phase }, { on := 10, ground := Ground.phase }, { on := 11, ground := Ground.phase }, { on := 12, ground := Ground.phase }, { on := 13, ground := Ground.phase }, { on := 14, ground := Ground.phase }, { on := 15, ground := Ground.phase }, { on := 16, ground := Ground.phase }], guard := none }) (v := ?_) rfl (by kernel_rfl) (by kernel_rfl) (by kernel_rfl) (fun _ _ _ h => h) (Or.inl ⟨by rfl, ?_⟩) (by exact hHeld) ?_
      rotate_left
      · (intro w hSw; (try dsimp only at hSw); go_simp <;> with_reducible rfl)
      try simp only [Act.put, List.setIfInBounds_toArray, List.set_cons_zero, List.set_cons_succ]
      refine wpAnyH_done (by kernel_rfl) ?_ _
      go_wp2_with fail
      go_ret
      exact ⟨rfl, HBZ.out.trans (hB2.mono HBZ.out.size)⟩
    · have f1 : decide ((3 : Int) = 0) = false := by decide
      refine wp_region_held_drew (S := fun w' => w'.cell? ⟨X3, 0, none⟩ = some (.int .i64 a) ∧ w'.cell? ⟨X3, 1, none⟩ = some (.int .i64 b) ∧ w'.cell? ⟨X3, 2, none⟩ = some (.int .i64 d) ∧ w'.cell? ⟨X3, 3, none⟩ = some (.int .i64 e) ∧ w'.cell? ⟨X3, 4, none⟩ = some (.slice a2 n2 c2) ∧ w'.cell? ⟨X5, 0, none⟩ = some (.int .i64 a) ∧ w'.cell? ⟨X5, 1, none⟩ = some (.int .i64 b) ∧ w'.cell? ⟨X5, 2, none⟩ = some (.int .i64 d) ∧ w'.cell? ⟨X5, 3, none⟩ = some (.int .i64 e) ∧ w'.cell? ⟨X5, 4, none⟩ = some (.slice a4 n4 c4)) (by kernel_rfl) (HC.out _ (below_drew (Below.refl wz.heap.size wz) 1)) (fun hHeld => ?_)
      refine wpAnyH_take (i := 0) (oi := { dst := some 22, op := Op.move (Operand.tmp 4), type := 23, pos := _, after := #[], guard := none }) (v := ?_) rfl (by kernel_rfl) (by kernel_rfl) (by kernel_rfl) (fun _ _ _ h => h) (Or.inl ⟨by rfl, ?_⟩) (by exact hHeld) ?_
      rotate_left
      · (intro w hSw; (try dsimp only at hSw); go_simp <;> with_reducible rfl)
      try simp only [Act.put, List.setIfInBounds_toArray, List.set_cons_zero, List.set_cons_succ]
      refine wpAnyH_take (i := 1) (oi := { dst := some 23, op := Op.binOp BinOp.eql 23 (Operand.tmp 22) (Operand.const (Value.int IntKind.i64 0)) 23, type := 4, pos := _, after := #[{ on := 0, ground := Ground.data }], guard := none }) (v := ?_) rfl (by kernel_rfl) (by kernel_rfl) (by kernel_rfl) (fun _ _ _ h => h) (Or.inl ⟨by rfl, ?_⟩) (by exact hHeld) ?_
      rotate_left
      · (intro w hSw; (try dsimp only at hSw); go_simp <;> with_reducible rfl)
      try simp only [Act.put, List.setIfInBounds_toArray, List.set_cons_zero, List.set_cons_succ]
      refine wpAnyH_take (i := 2) (oi := { dst := some 24, op := Op.move (Operand.tmp 6), type := 4, pos := _, after := #[], guard := none }) (v := ?_) rfl (by kernel_rfl) (by kernel_rfl) (by kernel_rfl) (fun _ _ _ h => h) (Or.inl ⟨by rfl, ?_⟩) (by exact hHeld) ?_
      rotate_left
      · (intro w hSw; (try dsimp only at hSw); go_simp <;> with_reducible rfl)
      try simp only [Act.put, List.setIfInBounds_toArray, List.set_cons_zero, List.set_cons_succ]
      refine wpAnyH_take (i := 3) (oi := { dst := some 25, op := Op.binOp BinOp.eql 4 (Operand.tmp 23) (Operand.tmp 24) 4, type := 4, pos := _, after := #[{ on := 1, ground := Ground.data }, { on := 2, ground := Ground.data }], guard := none }) (v := ?_) rfl (by kernel_rfl) (by kernel_rfl) (by kernel_rfl) (fun _ _ _ h => h) (Or.inl ⟨by rfl, ?_⟩) (by exact hHeld) ?_
      rotate_left
      · (intro w hSw; (try dsimp only at hSw); go_simp <;> with_reducible rfl)
      try simp only [Act.put, List.setIfInBounds_toArray, List.set_cons_zero, List.set_cons_succ]
      refine wpAnyH_take (i := 4) (oi := { dst := some 26, op := Op.move (Operand.tmp 25), type := 4, pos := _, after := #[{ on := 3, ground := Ground.data }], guard := none }) (v := ?_) rfl (by kernel_rfl) (by kernel_rfl) (by kernel_rfl) (fun _ _ _ h => h) (Or.inl ⟨by rfl, ?_⟩) (by exact hHeld) ?_
      rotate_left
      · (intro w hSw; (try dsimp only at hSw); go_simp <;> with_reducible rfl)
      try simp only [Act.put, List.setIfInBounds_toArray, List.set_cons_zero, List.set_cons_succ]
      refine wpAnyH_take (i := 5) (oi := { dst := some 27, op := Op.move (Operand.tmp 6), type := 4, pos := _, after := #[{ on := 4, ground := Ground.guard }], guard := some (4, true) }) (v := ?_) rfl (by kernel_rfl) (by kernel_rfl) (by kernel_rfl) (fun _ _ _ h => h) (Or.inl ⟨by rfl, ?_⟩) (by exact hHeld) ?_
      rotate_left
      · (intro w hSw; (try dsimp only at hSw); go_simp <;> with_reducible rfl)
      try simp only [Act.put, List.setIfInBounds_toArray, List.set_cons_zero, List.set_cons_succ]
      refine wpAnyH_take (i := 6) (oi := { dst := some 28, op := Op.move (Operand.tmp 27), type := 4, pos := _, after := #[{ on := 5, ground := Ground.data }, { on := 4, ground := Ground.chain }, { on := 4, ground := Ground.guard }], guard := some (4, true) }) (v := ?_) rfl (by kernel_rfl) (by kernel_rfl) (by kernel_rfl) (fun _ _ _ h => h) (Or.inl ⟨by rfl, ?_⟩) (by exact hHeld) ?_
      rotate_left
      · (intro w hSw; (try dsimp only at hSw); go_simp <;> with_reducible rfl)
      try simp only [Act.put, List.setIfInBounds_toArray, List.set_cons_zero, List.set_cons_succ]
      refine wpAnyH_take (i := 7) (oi := { dst := some 29, op := Op.move (Operand.tmp 4), type := 23, pos := _, after := #[{ on := 6, ground := Ground.guard }], guard := some (6, false) }) (v := ?_) rfl (by kernel_rfl) (by kernel_rfl) (by kernel_rfl) (fun _ _ _ h => h) (Or.inl ⟨by rfl, ?_⟩) (by exact hHeld) ?_
      rotate_left
      · (intro w hSw; (try dsimp only at hSw); go_simp <;> with_reducible rfl)
      try simp only [Act.put, List.setIfInBounds_toArray, List.set_cons_zero, List.set_cons_succ]
      refine wpAnyH_take (i := 8) (oi := { dst := some 30, op := Op.binOp BinOp.eql 23 (Operand.tmp 29) (Operand.const (Value.int IntKind.i64 3)) 23, type := 4, pos := _, after := #[{ on := 7, ground := Ground.data }, { on := 6, ground := Ground.guard }], guard := some (6, false) }) (v := ?_) rfl (by kernel_rfl) (by kernel_rfl) (by kernel_rfl) (fun _ _ _ h => h) (Or.inl ⟨by rfl, ?_⟩) (by exact hHeld) ?_
      rotate_left
      · (intro w hSw; (try dsimp only at hSw); go_simp <;> with_reducible rfl)
      try simp only [Act.put, List.setIfInBounds_toArray, List.set_cons_zero, List.set_cons_succ]
      refine wpAnyH_take (i := 9) (oi := { dst := some 31, op := Op.pick (Operand.tmp 28) (Operand.const (Value.bool true)) (Operand.tmp 30), type := 4, pos := _, after := #[{ on := 6, ground := Ground.data }, { on := 8, ground := Ground.data }, { on := 4, ground := Ground.guard }], guard := some (4, true) }) (v := ?_) rfl (by kernel_rfl) (by kernel_rfl) (by kernel_rfl) (fun _ _ _ h => h) (Or.inl ⟨by rfl, ?_⟩) (by exact hHeld) ?_
      rotate_left
      · (intro w hSw; (try dsimp only at hSw); go_simp <;> with_reducible rfl)
      try simp only [Act.put, List.setIfInBounds_toArray, List.set_cons_zero, List.set_cons_succ]
      refine wpAnyH_take (i := 10) (oi := { dst := some 32, op := Op.pick (Operand.tmp 26) (Operand.tmp 31) (Operand.const (Value.bool false)), type := 4, pos := _, after := #[{ on := 4, ground := Ground.data }, { on := 9, ground := Ground.data }], guard := none }) (v := ?_) rfl (by kernel_rfl) (by kernel_rfl) (by kernel_rfl) (fun _ _ _ h => h) (Or.inl ⟨by rfl, ?_⟩) (by exact hHeld) ?_
      rotate_left
      · (intro w hSw; (try dsimp only at hSw); go_simp <;> with_reducible rfl)
      try simp only [Act.put, List.setIfInBounds_toArray, List.set_cons_zero, List.set_cons_succ]
      refine wpAnyH_take (i := 11) (oi := { dst := some 33, op := Op.move (Operand.tmp 32), type := 4, pos := _, after := #[{ on := 10, ground := Ground.data }, { on := 6, ground := Ground.chain }], guard := none }) (v := ?_) rfl (by kernel_rfl) (by kernel_rfl) (by kernel_rfl) (fun _ _ _ h => h) (Or.inl ⟨by rfl, ?_⟩) (by exact hHeld) ?_
      rotate_left
      · (intro w hSw; (try dsimp only at hSw); go_simp <;> with_reducible rfl)
      try simp only [Act.put, List.setIfInBounds_toArray, List.set_cons_zero, List.set_cons_succ]
      refine wpAnyH_take (i := 12) (oi := { dst := some 34, op := Op.load 26 (Operand.tmp 3), type := 26, pos := _, after := #[{ on := 11, ground := Ground.guard }], guard := some (11, true) }) (v := ?_) rfl (by kernel_rfl) (by kernel_rfl) (by kernel_rfl) (fun _ _ _ h => h) (Or.inl ⟨by rfl, ?_⟩) (by exact hHeld) ?_
      rotate_left
      · (intro w hSw; (try dsimp only at hSw); go_simp <;> with_reducible rfl)
      try simp only [Act.put, List.setIfInBounds_toArray, List.set_cons_zero, List.set_cons_succ]
      refine wpAnyH_take (i := 14) (oi := { dst := some 36, op := Op.load 40 (Operand.tmp 5), type := 40, pos := _, after := #[{ on := 11, ground := Ground.guard }], guard := some (11, true) }) (v := ?_) rfl (by kernel_rfl) (by kernel_rfl) (by kernel_rfl) (fun _ _ _ h => h) (Or.inl ⟨by rfl, ?_⟩) (by exact hHeld) ?_
      rotate_left
      · (intro w hSw; (try dsimp only at hSw); go_simp <;> with_reducible rfl)
      try simp only [Act.put, List.setIfInBounds_toArray, List.set_cons_zero, List.set_cons_succ]
      refine wpAnyH_ready (rs := [13]) (by kernel_rfl) (by simp) ?_
      refine AllReadyH.cons (o := { dst := some 35, op := Op.call { callee := Callee.value (Operand.func 17), args := #[Operand.tmp 34], argTypes := #[26] }, type := 40, pos := _, after := #[{ on := 12, ground := Ground.data }, { on := 11, ground := Ground.chain }, { on := 11, ground := Ground.guard }], guard := some (11, true) }) rfl (fun K hK => ?_) AllReadyH.nil
      go_simp
      refine (rp_any a b d e a2 n2 c2 _).mono ?_
      rintro x u1 ⟨rfl, hb1⟩
      have hB1 : Below wz.heap.size wz u1 := (below_drew (Below.refl wz.heap.size wz) 1).trans (by exact hb1)
      go_wp2_with fail
      refine hK.out _ _ (HC.out _ (by exact hB1)) (fun hHeld => ?_)
      clear hK K
      try simp only [Act.put, List.setIfInBounds_toArray, List.set_cons_zero, List.set_cons_succ]
      refine wpAnyH_ready (rs := [15]) (by kernel_rfl) (by simp) ?_
      refine AllReadyH.cons (o := { dst := some 37, op := Op.call { callee := Callee.value (Operand.func 19), args := #[Operand.tmp 35, Operand.tmp 36], argTypes := #[40, 40] }, type := 4, pos := _, after := #[{ on := 13, ground := Ground.data }, { on := 14, ground := Ground.data }, { on := 13, ground := Ground.chain }, { on := 11, ground := Ground.guard }], guard := some (11, true) }) rfl (fun K hK => ?_) AllReadyH.nil
      go_simp
      refine (rsame_any a b d e a2 n2 c2 rs2 a b d e a4 n4 c4 rs4 _ (HI2.out.below hB1) (HI4.out.below hB1) (by omega) (by omega)).mono ?_
      rintro x u2 ⟨rfl, hb2⟩
      have hB2 : Below wz.heap.size wz u2 := hB1.trans (hb2.mono hB1.size)
      rw [HSM.out]
      go_wp2_with fail
      refine hK.out _ _ (HC.out _ (by exact hB2)) (fun hHeld => ?_)
      clear hK K
      try simp only [Act.put, List.setIfInBounds_toArray, List.set_cons_zero, List.set_cons_succ]
      refine wpAnyH_take (i := 16) (oi := { dst := some 38, op := Op.pick (Operand.tmp 33) (Operand.tmp 37) (Operand.const (Value.bool false)), type := 4, pos := _, after := #[{ on := 11, ground := Ground.data }, { on := 15, ground := Ground.data }], guard := none }) (v := ?_) rfl (by kernel_rfl) (by kernel_rfl) (by kernel_rfl) (fun _ _ _ h => h) (Or.inl ⟨by rfl, ?_⟩) (by exact hHeld) ?_
      rotate_left
      · (intro w hSw; (try dsimp only at hSw); go_simp <;> with_reducible rfl)
      try simp only [Act.put, List.setIfInBounds_toArray, List.set_cons_zero, List.set_cons_succ]
      refine wpAnyH_take (i := 17) (oi := { dst := some 2, op := Op.assign (Operand.tmp 38), type := 4, pos := _, after := #[{ on := 16, ground := Ground.data }, { on := 15, ground := Ground.chain }, { on := 0, ground := Ground.phase }, { on := 1, ground := Ground.phase }, { on := 2, ground := Ground.phase }, { on := 3, ground := Ground.phase }, { on := 4, ground := Ground.phase }, { on := 5, ground := Ground.phase }, { on := 6, ground := Ground.phase }, { on := 7, ground := Ground.phase }, { on := 8, ground := Ground.phase }, { on := 9, ground := Ground.phase }, { on := 10, ground := Ground.phase }, { on := 11, ground := Ground.phase }, { on := 12, ground := Ground.phase }, { on := 13, ground := Ground.phase }, { on := 14, ground := Ground.phase }, { on := 15, ground := Ground.phase }, { on := 16, ground := Ground.phase }], guard := none }) (v := ?_) rfl (by kernel_rfl) (by kernel_rfl) (by kernel_rfl) (fun _ _ _ h => h) (Or.inl ⟨by rfl, ?_⟩) (by exact hHeld) ?_
      rotate_left
      · (intro w hSw; (try dsimp only at hSw); go_simp <;> with_reducible rfl)
      try simp only [Act.put, List.setIfInBounds_toArray, List.set_cons_zero, List.set_cons_succ]
      refine wpAnyH_done (by kernel_rfl) ?_ _
      go_wp2_with fail
      go_ret
      exact ⟨rfl, HBZ.out.trans (hB2.mono HBZ.out.size)⟩
theorem reads_said (ao : Option Addr) (n c : Nat) (l : List UInt8) (w : World) (h : IsB w ao n c l) (hnc : n ≤ c) (_ : c ≤ 140737488351232) :
    Calls Try.prog 5 #[.slice ao n c] w fun x w' => x = .returned (.bool true) ∧ Below w.heap.size w w' := reads_walk ao n c l w h hnc
end Go.Proofs.Ytpikdeikcmdcmaa
