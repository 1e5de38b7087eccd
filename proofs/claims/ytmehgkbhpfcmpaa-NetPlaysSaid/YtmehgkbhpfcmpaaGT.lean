/-
  Nothing is taken.
-/
import Derived.Test.YtmehgkbhpfcmpaaGC
namespace Go.Proofs.Ytmehgkbhpfcmpaa.G
open Go.RowKit Go.Proofs.Ytmehgkbhpfcmpaa
section
variable {w0 w : World} {base a : Nat} {s : Nt} {es : List ((Int × Int) × Bool)}
set_option maxHeartbeats 2000000 in
theorem take_none (h : OursN w0 w base a s es) (x : Int) (hx : hasN s x = false) :
    Calls Try.prog 19 #[.pointer (some ⟨a, 0, none⟩), .int .i64 x] w fun e w' => e = .returned (.tuple #[aggM m0 (.slice none 0 0) (.slice none 0 0), .bool false]) ∧ OursN w0 w' base a s es := by
  have hU1 := h.later ((Below.refl _ _).alloc (Nat.le_refl _) zeros5)
  have HA := Lib.hid (at_no hU1 x hx)
  have HU := Lib.hid h
  have HZ := Lib.hid (heap_new w zeros5)
  obtain ⟨g, mb, hN⟩ := hU1.is
  have HB := Lib.hid (at_none hN x hx)
  unfold zeros5 at HB
  simp only [aggM, cellsM, m0] at HB ⊢
  clear hU1 h HA hN
  go_enter Try.func19, Try.ntmps19
  go_wp2_with fail
  refine HB.out.mono ?_
  rintro e w1 ⟨rfl, hb⟩
  have hb' : Below (w.alloc zeros5).heap.size (w.alloc zeros5) w1 := hb
  have hR1 : w1.heap[w.heap.size]? = some zeros5 := heap_below hb' (by simp) HZ.out
  have hs1 : w.heap.size + 1 ≤ w1.heap.size := by have := hb'.size; simpa using this
  have HBB := Lib.hid (((Below.refl _ w).alloc (Nat.le_refl _) zeros5).trans (hb'.mono (by simp)))
  clear hb hb'
  have HR1 := Lib.hid (heap_old hR1 zeros5)
  have HX := Lib.hid (heap_new w1 zeros5)
  obtain ⟨⟨x0, x1, x2, x3, x4⟩, _⟩ := zeros_cells HX.out
  obtain ⟨⟨z0, z1, z2, z3, z4⟩, f0, f1, f2, f3, f4⟩ := zeros_cells HR1.out
  unfold zeros5 at x0 x1 x2 x3 x4 z0 z1 z2 z3 z4 f0 f1 f2 f3 f4
  clear hR1
  go_wp2_with fail
  have HXR : Hid (w1.heap.size ∉ [w.heap.size]) := Lib.hid (by simp; omega)
  have hdr : ∀ (V : World) p u, V.cell? p = some u → V.drew.cell? p = some u := fun _ _ _ h => h
  have HPK : Hid (((put5 (w1.alloc (.cells #[.int .i64 0, .int .i64 0, .int .i64 0, .slice none 0 0, .slice none 0 0] 32)) w.heap.size 0 0 0 (.slice none 0 0) (.slice none 0 0)).drew).cell? ⟨w1.heap.size, 0, none⟩ = some (.int .i64 0) ∧ ((put5 (w1.alloc (.cells #[.int .i64 0, .int .i64 0, .int .i64 0, .slice none 0 0, .slice none 0 0] 32)) w.heap.size 0 0 0 (.slice none 0 0) (.slice none 0 0)).drew).cell? ⟨w1.heap.size, 1, none⟩ = some (.int .i64 0) ∧ ((put5 (w1.alloc (.cells #[.int .i64 0, .int .i64 0, .int .i64 0, .slice none 0 0, .slice none 0 0] 32)) w.heap.size 0 0 0 (.slice none 0 0) (.slice none 0 0)).drew).cell? ⟨w1.heap.size, 2, none⟩ = some (.int .i64 0) ∧ ((put5 (w1.alloc (.cells #[.int .i64 0, .int .i64 0, .int .i64 0, .slice none 0 0, .slice none 0 0] 32)) w.heap.size 0 0 0 (.slice none 0 0) (.slice none 0 0)).drew).cell? ⟨w1.heap.size, 3, none⟩ = some (.slice none 0 0) ∧ ((put5 (w1.alloc (.cells #[.int .i64 0, .int .i64 0, .int .i64 0, .slice none 0 0, .slice none 0 0] 32)) w.heap.size 0 0 0 (.slice none 0 0) (.slice none 0 0)).drew).cell? ⟨w1.heap.size, 4, none⟩ = some (.slice none 0 0)) := Lib.hid ⟨hdr _ _ _ ((put5_only (w1.alloc (.cells #[.int .i64 0, .int .i64 0, .int .i64 0, .slice none 0 0, .slice none 0 0] 32)) w.heap.size 0 0 0 (.slice none 0 0) (.slice none 0 0)).cell x0 HXR.out), hdr _ _ _ ((put5_only (w1.alloc (.cells #[.int .i64 0, .int .i64 0, .int .i64 0, .slice none 0 0, .slice none 0 0] 32)) w.heap.size 0 0 0 (.slice none 0 0) (.slice none 0 0)).cell x1 HXR.out), hdr _ _ _ ((put5_only (w1.alloc (.cells #[.int .i64 0, .int .i64 0, .int .i64 0, .slice none 0 0, .slice none 0 0] 32)) w.heap.size 0 0 0 (.slice none 0 0) (.slice none 0 0)).cell x2 HXR.out), hdr _ _ _ ((put5_only (w1.alloc (.cells #[.int .i64 0, .int .i64 0, .int .i64 0, .slice none 0 0, .slice none 0 0] 32)) w.heap.size 0 0 0 (.slice none 0 0) (.slice none 0 0)).cell x3 HXR.out), hdr _ _ _ ((put5_only (w1.alloc (.cells #[.int .i64 0, .int .i64 0, .int .i64 0, .slice none 0 0, .slice none 0 0] 32)) w.heap.size 0 0 0 (.slice none 0 0) (.slice none 0 0)).cell x4 HXR.out)⟩
  clear hdr
  have HVH : Hid ((put5 (w1.alloc (.cells #[.int .i64 0, .int .i64 0, .int .i64 0, .slice none 0 0, .slice none 0 0] 32)) w.heap.size 0 0 0 (.slice none 0 0) (.slice none 0 0)).heap[w.heap.size]? = some (.cells #[.int .i64 0, .int .i64 0, .int .i64 0, .slice none 0 0, .slice none 0 0] 32 (0, 0))) := Lib.hid (put5_heap _ _ _ _ _ HR1.out)
  have HVB : Hid (Below w.heap.size w (put5 (w1.alloc (.cells #[.int .i64 0, .int .i64 0, .int .i64 0, .slice none 0 0, .slice none 0 0] 32)) w.heap.size 0 0 0 (.slice none 0 0) (.slice none 0 0))) := Lib.hid (((HBB.out.alloc (by omega) _).trans ((put5_only (w1.alloc (.cells #[.int .i64 0, .int .i64 0, .int .i64 0, .slice none 0 0, .slice none 0 0] 32)) w.heap.size 0 0 0 (.slice none 0 0) (.slice none 0 0)).below (by simp; omega) (by simp))))
  go_upto_region 2 with (fail)
  refine wp_region_held_drew (S := fun w' => w'.cell? ⟨w1.heap.size, 0, none⟩ = some (.int .i64 0) ∧ w'.cell? ⟨w1.heap.size, 1, none⟩ = some (.int .i64 0) ∧ w'.cell? ⟨w1.heap.size, 2, none⟩ = some (.int .i64 0) ∧ w'.cell? ⟨w1.heap.size, 3, none⟩ = some (.slice none 0 0) ∧ w'.cell? ⟨w1.heap.size, 4, none⟩ = some (.slice none 0 0)) (by kernel_rfl) ⟨x0, x1, x2, x3, x4⟩ (fun hHeld => ?_)
  refine wpAnyH_take (i := 0) (oi := { dst := some 14, op := Op.load 32 (Operand.tmp 6), type := 32, pos := _, after := #[], guard := none }) (v := ?_) rfl (by kernel_rfl) (by kernel_rfl) (by kernel_rfl) (fun _ _ _ h => h) (Or.inl ⟨by rfl, ?_⟩) (by exact hHeld) ?_
  rotate_left
  · (intro w hSw; (try dsimp only at hSw); go_simp <;> with_reducible rfl)
  try simp only [Act.put, List.setIfInBounds_toArray, List.set_cons_zero, List.set_cons_succ]
  refine wpAnyH_take (i := 1) (oi := { dst := some 15, op := Op.move (Operand.tmp 7), type := 4, pos := _, after := #[], guard := none }) (v := ?_) rfl (by kernel_rfl) (by kernel_rfl) (by kernel_rfl) (fun _ _ _ h => h) (Or.inl ⟨by rfl, ?_⟩) (by exact hHeld) ?_
  rotate_left
  · (intro w hSw; (try dsimp only at hSw); go_simp <;> with_reducible rfl)
  try simp only [Act.put, List.setIfInBounds_toArray, List.set_cons_zero, List.set_cons_succ]
  refine wpAnyH_take (i := 2) (oi := { dst := some 16, op := Op.move (Operand.tmp 15), type := 4, pos := _, after := #[{ on := 1, ground := Ground.data }], guard := none }) (v := ?_) rfl (by kernel_rfl) (by kernel_rfl) (by kernel_rfl) (fun _ _ _ h => h) (Or.inl ⟨by rfl, ?_⟩) (by exact hHeld) ?_
  rotate_left
  · (intro w hSw; (try dsimp only at hSw); go_simp <;> with_reducible rfl)
  try simp only [Act.put, List.setIfInBounds_toArray, List.set_cons_zero, List.set_cons_succ]
  refine wpAnyH_take (i := 3) (oi := { dst := some 17, op := Op.move (Operand.tmp 0), type := 23, pos := _, after := #[{ on := 2, ground := Ground.guard }], guard := some (2, true) }) (v := undef) rfl (by kernel_rfl) (by kernel_rfl) (by kernel_rfl) (fun _ _ _ h => h) (Or.inr ⟨by rfl, rfl⟩) (by exact hHeld) ?_
  try simp only [Act.put, List.setIfInBounds_toArray, List.set_cons_zero, List.set_cons_succ]
  refine wpAnyH_take (i := 4) (oi := { dst := some 18, op := Op.move (Operand.tmp 1), type := 3, pos := _, after := #[{ on := 2, ground := Ground.guard }], guard := some (2, true) }) (v := undef) rfl (by kernel_rfl) (by kernel_rfl) (by kernel_rfl) (fun _ _ _ h => h) (Or.inr ⟨by rfl, rfl⟩) (by exact hHeld) ?_
  try simp only [Act.put, List.setIfInBounds_toArray, List.set_cons_zero, List.set_cons_succ]
  refine wpAnyH_take (i := 5) (oi := { dst := some 19, op := Op.call { callee := Callee.value (Operand.func 15), args := #[Operand.tmp 17, Operand.tmp 18], argTypes := #[23, 3] }, type := 4, pos := _, after := #[{ on := 3, ground := Ground.data }, { on := 4, ground := Ground.data }, { on := 2, ground := Ground.chain }, { on := 2, ground := Ground.guard }], guard := some (2, true) }) (v := undef) rfl (by kernel_rfl) (by kernel_rfl) (by kernel_rfl) (fun _ _ _ h => h) (Or.inr ⟨by rfl, rfl⟩) (by exact hHeld) ?_
  try simp only [Act.put, List.setIfInBounds_toArray, List.set_cons_zero, List.set_cons_succ]
  refine wpAnyH_take (i := 6) (oi := { dst := some 20, op := Op.pick (Operand.tmp 16) (Operand.tmp 19) (Operand.const (Value.bool false)), type := 4, pos := _, after := #[{ on := 2, ground := Ground.data }, { on := 5, ground := Ground.data }, { on := 7, ground := Ground.gcOnly Departure.lateStores }], guard := none }) (v := ?_) rfl (by kernel_rfl) (by kernel_rfl) (by kernel_rfl) (fun _ _ _ h => h) (Or.inl ⟨by rfl, ?_⟩) (by exact hHeld) ?_
  rotate_left
  · (intro w hSw; (try dsimp only at hSw); go_simp <;> with_reducible rfl)
  try simp only [Act.put, List.setIfInBounds_toArray, List.set_cons_zero, List.set_cons_succ]
  refine wpAnyH_ready (rs := [7]) (by kernel_rfl) (by simp) ?_
  refine AllReadyH.cons (o := { dst := none, op := Op.store 32 (Operand.tmp 4) (Operand.tmp 14), type := 0, pos := _, after := #[{ on := 0, ground := Ground.data }, { on := 5, ground := Ground.chain }, { on := 0, ground := Ground.phase }, { on := 1, ground := Ground.textOnly Departure.lateStores }, { on := 2, ground := Ground.textOnly Departure.lateStores }, { on := 3, ground := Ground.textOnly Departure.lateStores }, { on := 4, ground := Ground.textOnly Departure.lateStores }, { on := 5, ground := Ground.textOnly Departure.lateStoresUnsure }, { on := 6, ground := Ground.textOnly Departure.lateStores }], guard := none }) rfl (fun K hK => ?_) AllReadyH.nil
  go_simp
  refine hK.out _ _ (by exact HPK.out) (fun hHeld => ?_)
  clear hK K
  try simp only [Act.put, List.setIfInBounds_toArray, List.set_cons_zero, List.set_cons_succ]
  refine wpAnyH_take (i := 8) (oi := { dst := some 5, op := Op.assign (Operand.tmp 20), type := 4, pos := _, after := #[{ on := 6, ground := Ground.data }, { on := 7, ground := Ground.chain }, { on := 0, ground := Ground.phase }, { on := 1, ground := Ground.phase }, { on := 2, ground := Ground.phase }, { on := 3, ground := Ground.phase }, { on := 4, ground := Ground.phase }, { on := 5, ground := Ground.phase }, { on := 6, ground := Ground.phase }, { on := 7, ground := Ground.phase }], guard := none }) (v := ?_) rfl (by kernel_rfl) (by kernel_rfl) (by kernel_rfl) (fun _ _ _ h => h) (Or.inl ⟨by rfl, ?_⟩) (by exact hHeld) ?_
  rotate_left
  · (intro w hSw; (try dsimp only at hSw); go_simp <;> with_reducible rfl)
  try simp only [Act.put, List.setIfInBounds_toArray, List.set_cons_zero, List.set_cons_succ]
  refine wpAnyH_done (by kernel_rfl) ?_ _
  go_wp2_with fail
  (try simp only [Exit.inBlock, Exit.then])
  change bodyPost _ _ _ _ _ (put5 (w1.alloc (.cells #[.int .i64 0, .int .i64 0, .int .i64 0, .slice none 0 0, .slice none 0 0] 32)) w.heap.size 0 0 0 (.slice none 0 0) (.slice none 0 0)).drew
  generalize hV : put5 (w1.alloc (.cells #[.int .i64 0, .int .i64 0, .int .i64 0, .slice none 0 0, .slice none 0 0] 32)) w.heap.size 0 0 0 (.slice none 0 0) (.slice none 0 0) = V at *
  exact bodyPost_ret (results_row_tmp (fn := Try.f19) rfl _ _ w.heap.size _ _ _ _ _ _ rfl rfl (show V.drew.heap[w.heap.size]? = _ from HVH.out)) rfl ⟨rfl, HU.out.later (below_drew HVB.out 1)⟩
end
end Go.Proofs.Ytmehgkbhpfcmpaa.G
