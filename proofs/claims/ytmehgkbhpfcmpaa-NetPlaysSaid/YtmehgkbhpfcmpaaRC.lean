/-
  A message of the document's net is doubled.
-/
import Derived.Test.YtmehgkbhpfcmpaaRT
namespace Go.Proofs.Ytmehgkbhpfcmpaa.G
open Go.RowKit Go.Proofs.Ytmehgkbhpfcmpaa
theorem below_heap {B : Nat} {w X Y : World} (h : Below B w X) (h1 : Y.heap = X.heap) (h2 : Y.os = X.os) (h3 : Y.tape = X.tape) (h4 : Y.output = X.output) : Below B w Y :=
  ⟨h2.trans h.os, h3.trans h.tape, h4.trans h.output, by rw [h1]; exact h.size, fun k hk => by rw [h1]; exact h.block k hk⟩
theorem grown_keep {w w' : World} {b g : Nat} {o : Obj} (hg : w.grownBy w' (some g)) (h : w.heap[b]? = some o) (hne : b ≠ g) : w'.heap[b]? = some o := by
  rw [hg.block b (lt_of_heap h) (by simpa using hne)]; exact h
theorem mkR2 (w : World) (B : Nat) (hB : B ≤ w.heap.size) (y : Array Value) : ((w.alloc (.cells #[] 49)).alloc (.cells y 49)).drew.ownsRow B 49 5 (.slice (some ⟨w.heap.size, 0, none⟩) 0 0) 0 (row5 []) ∧ Below B w ((w.alloc (.cells #[] 49)).alloc (.cells y 49)).drew ∧ ((w.alloc (.cells #[] 49)).alloc (.cells y 49)).drew.heap[w.heap.size + 1]? = some (.cells y 49 (0, 0)) :=
  ⟨rows_heap (rows_below (own_newR w B hB _ rfl) ((Below.refl _ _).alloc (Nat.le_refl _) _)) rfl, below_drew (((Below.refl _ _).alloc hB _).alloc (by simp; omega) _) 1, by
    have := heap_new (w.alloc (.cells #[] 49)) (.cells y 49)
    rw [show (w.alloc (.cells #[] 49)).heap.size = w.heap.size + 1 by simp] at this
    exact this⟩
theorem mkR3 (w : World) (B : Nat) (hB : B ≤ w.heap.size) (y : Array Value) : ((w.alloc (.cells y 49)).alloc (.cells #[] 49)).drew.ownsRow B 49 5 (.slice (some ⟨w.heap.size + 1, 0, none⟩) 0 0) 0 (row5 []) ∧ Below B w ((w.alloc (.cells y 49)).alloc (.cells #[] 49)).drew ∧ ((w.alloc (.cells y 49)).alloc (.cells #[] 49)).drew.heap[w.heap.size]? = some (.cells y 49 (0, 0)) :=
  ⟨rows_heap (own_newR (w.alloc (.cells y 49)) B (by simp; omega) _ (by simp)) rfl, below_drew (((Below.refl _ _).alloc hB _).alloc (by simp; omega) _) 1, heap_old (heap_new _ _) _⟩
theorem isR_one {w : World} {b : Nat} {x : Mv} (h : w.heap[b]? = some (.cells (cells5 x).toArray 49 (0, 0))) (c : Nat) : IsR w (some ⟨b, 0, none⟩) 1 c [x] :=
  ⟨rfl, (fun e => by cases e), .inr ⟨b, 0, rfl, fun t u hu => by
    rw [Nat.zero_add, cell_heap h]
    simpa [row5] using hu⟩⟩
section
variable {w : World} {base d : Nat} {s : Nt} {es : List ((Int × Int) × Bool)}
set_option maxHeartbeats 1000000 in
theorem copy_doc_no (h : IsDoc w base d s es) (x : Int) (hx : hasN s x = false ∨ s.room ≤ (s.l.length : Int)) :
    Calls Try.prog 22 #[.pointer (some ⟨d, 0, none⟩), .int .i64 x] w fun e w' => e = .returned (.bool false) ∧ Below w.heap.size w w' := by
  obtain ⟨⟨cs, v, ps, h1, _, _, h4, h5, _, h7, _⟩, _⟩ := h
  have hc1 : w.cell? ⟨d, 1, none⟩ = some (.int .i64 s.room) := by rw [cell_heap h1]; exact h4
  have hc2 : w.cell? ⟨d, 2, none⟩ = some v := by rw [cell_heap h1]; exact h5
  obtain ⟨ao, cap, rfl, _, _⟩ := row_shape49 h7
  clear h1 h4 h5 h7
  unfold hasN at hx
  generalize s.l.length = n at *
  generalize s.room = r at *
  by_cases hlt : x < 0
  · have d0 : decide (x < 0) = true := decide_eq_true hlt
    clear hx
    go_enter Try.func22, Try.ntmps22
    go_wp2_with fail
    go_upto_region 1 with (fail)
    refine wp_region_held_drew (S := fun w' => w'.cell? ⟨d, 1, none⟩ = some (.int .i64 r) ∧ w'.cell? ⟨d, 2, none⟩ = some (.slice ao n cap)) (by kernel_rfl) ⟨hc1, hc2⟩ (fun hHeld => ?_)
    refine wpAnyH_take (i := 0) (oi := { dst := some 5, op := Op.move (Operand.tmp 1), type := 3, pos := _, after := #[], guard := none }) (v := ?_) rfl (by kernel_rfl) (by kernel_rfl) (by kernel_rfl) (fun _ _ _ h => h) (Or.inl ⟨by rfl, ?_⟩) (by exact hHeld) ?_
    rotate_left
    · (intro w hSw; (try dsimp only at hSw); go_simp <;> with_reducible rfl)
    try simp only [Act.put, List.setIfInBounds_toArray, List.set_cons_zero, List.set_cons_succ]
    refine wpAnyH_take (i := 1) (oi := { dst := some 6, op := Op.binOp BinOp.lss 3 (Operand.tmp 5) (Operand.const (Value.int IntKind.i64 0)) 3, type := 4, pos := _, after := #[{ on := 0, ground := Ground.data }], guard := none }) (v := ?_) rfl (by kernel_rfl) (by kernel_rfl) (by kernel_rfl) (fun _ _ _ h => h) (Or.inl ⟨by rfl, ?_⟩) (by exact hHeld) ?_
    rotate_left
    · (intro w hSw; (try dsimp only at hSw); go_simp <;> with_reducible rfl)
    try simp only [Act.put, List.setIfInBounds_toArray, List.set_cons_zero, List.set_cons_succ]
    refine wpAnyH_take (i := 2) (oi := { dst := some 7, op := Op.move (Operand.tmp 6), type := 4, pos := _, after := #[{ on := 1, ground := Ground.data }], guard := none }) (v := ?_) rfl (by kernel_rfl) (by kernel_rfl) (by kernel_rfl) (fun _ _ _ h => h) (Or.inl ⟨by rfl, ?_⟩) (by exact hHeld) ?_
    rotate_left
    · (intro w hSw; (try dsimp only at hSw); go_simp <;> with_reducible rfl)
    try simp only [Act.put, List.setIfInBounds_toArray, List.set_cons_zero, List.set_cons_succ]
    refine wpAnyH_take (i := 3) (oi := { dst := some 8, op := Op.move (Operand.tmp 1), type := 3, pos := _, after := #[{ on := 2, ground := Ground.guard }], guard := some (2, false) }) (v := undef) rfl (by kernel_rfl) (by kernel_rfl) (by kernel_rfl) (fun _ _ _ h => h) (Or.inr ⟨by rfl, rfl⟩) (by exact hHeld) ?_
    try simp only [Act.put, List.setIfInBounds_toArray, List.set_cons_zero, List.set_cons_succ]
    refine wpAnyH_take (i := 4) (oi := { dst := some 9, op := Op.move (Operand.tmp 0), type := 39, pos := _, after := #[{ on := 2, ground := Ground.guard }], guard := some (2, false) }) (v := undef) rfl (by kernel_rfl) (by kernel_rfl) (by kernel_rfl) (fun _ _ _ h => h) (Or.inr ⟨by rfl, rfl⟩) (by exact hHeld) ?_
    try simp only [Act.put, List.setIfInBounds_toArray, List.set_cons_zero, List.set_cons_succ]
    refine wpAnyH_take (i := 5) (oi := { dst := some 10, op := Op.nilCheck (Operand.tmp 9), type := 0, pos := _, after := #[{ on := 4, ground := Ground.data }, { on := 2, ground := Ground.guard }], guard := some (2, false) }) (v := undef) rfl (by kernel_rfl) (by kernel_rfl) (by kernel_rfl) (fun _ _ _ h => h) (Or.inr ⟨by rfl, rfl⟩) (by exact hHeld) ?_
    try simp only [Act.put, List.setIfInBounds_toArray, List.set_cons_zero, List.set_cons_succ]
    refine wpAnyH_take (i := 6) (oi := { dst := some 11, op := Op.fieldAddr 44 (Operand.tmp 10) 2, type := 0, pos := _, after := #[{ on := 5, ground := Ground.data }, { on := 2, ground := Ground.guard }], guard := some (2, false) }) (v := undef) rfl (by kernel_rfl) (by kernel_rfl) (by kernel_rfl) (fun _ _ _ h => h) (Or.inr ⟨by rfl, rfl⟩) (by exact hHeld) ?_
    try simp only [Act.put, List.setIfInBounds_toArray, List.set_cons_zero, List.set_cons_succ]
    refine wpAnyH_take (i := 7) (oi := { dst := some 12, op := Op.load 40 (Operand.tmp 11), type := 40, pos := _, after := #[{ on := 6, ground := Ground.data }, { on := 2, ground := Ground.guard }], guard := some (2, false) }) (v := undef) rfl (by kernel_rfl) (by kernel_rfl) (by kernel_rfl) (fun _ _ _ h => h) (Or.inr ⟨by rfl, rfl⟩) (by exact hHeld) ?_
    try simp only [Act.put, List.setIfInBounds_toArray, List.set_cons_zero, List.set_cons_succ]
    refine wpAnyH_take (i := 8) (oi := { dst := some 13, op := Op.call { callee := Callee.builtin Builtin.len, args := #[Operand.tmp 12], argTypes := #[40] }, type := 3, pos := _, after := #[{ on := 7, ground := Ground.data }, { on := 2, ground := Ground.guard }], guard := some (2, false) }) (v := undef) rfl (by kernel_rfl) (by kernel_rfl) (by kernel_rfl) (fun _ _ _ h => h) (Or.inr ⟨by rfl, rfl⟩) (by exact hHeld) ?_
    try simp only [Act.put, List.setIfInBounds_toArray, List.set_cons_zero, List.set_cons_succ]
    refine wpAnyH_take (i := 9) (oi := { dst := some 14, op := Op.binOp BinOp.geq 3 (Operand.tmp 8) (Operand.tmp 13) 3, type := 4, pos := _, after := #[{ on := 3, ground := Ground.data }, { on := 8, ground := Ground.data }, { on := 2, ground := Ground.guard }], guard := some (2, false) }) (v := undef) rfl (by kernel_rfl) (by kernel_rfl) (by kernel_rfl) (fun _ _ _ h => h) (Or.inr ⟨by rfl, rfl⟩) (by exact hHeld) ?_
    try simp only [Act.put, List.setIfInBounds_toArray, List.set_cons_zero, List.set_cons_succ]
    refine wpAnyH_take (i := 10) (oi := { dst := some 15, op := Op.pick (Operand.tmp 7) (Operand.const (Value.bool true)) (Operand.tmp 14), type := 4, pos := _, after := #[{ on := 2, ground := Ground.data }, { on := 9, ground := Ground.data }], guard := none }) (v := ?_) rfl (by kernel_rfl) (by kernel_rfl) (by kernel_rfl) (fun _ _ _ h => h) (Or.inl ⟨by rfl, ?_⟩) (by exact hHeld) ?_
    rotate_left
    · (intro w hSw; (try dsimp only at hSw); go_simp <;> with_reducible rfl)
    try simp only [Act.put, List.setIfInBounds_toArray, List.set_cons_zero, List.set_cons_succ]
    refine wpAnyH_take (i := 11) (oi := { dst := some 16, op := Op.move (Operand.tmp 15), type := 4, pos := _, after := #[{ on := 10, ground := Ground.data }, { on := 2, ground := Ground.chain }], guard := none }) (v := ?_) rfl (by kernel_rfl) (by kernel_rfl) (by kernel_rfl) (fun _ _ _ h => h) (Or.inl ⟨by rfl, ?_⟩) (by exact hHeld) ?_
    rotate_left
    · (intro w hSw; (try dsimp only at hSw); go_simp <;> with_reducible rfl)
    try simp only [Act.put, List.setIfInBounds_toArray, List.set_cons_zero, List.set_cons_succ]
    refine wpAnyH_take (i := 12) (oi := { dst := some 17, op := Op.move (Operand.tmp 0), type := 39, pos := _, after := #[{ on := 11, ground := Ground.guard }], guard := some (11, false) }) (v := undef) rfl (by kernel_rfl) (by kernel_rfl) (by kernel_rfl) (fun _ _ _ h => h) (Or.inr ⟨by rfl, rfl⟩) (by exact hHeld) ?_
    try simp only [Act.put, List.setIfInBounds_toArray, List.set_cons_zero, List.set_cons_succ]
    refine wpAnyH_take (i := 13) (oi := { dst := some 18, op := Op.nilCheck (Operand.tmp 17), type := 0, pos := _, after := #[{ on := 12, ground := Ground.data }, { on := 11, ground := Ground.guard }], guard := some (11, false) }) (v := undef) rfl (by kernel_rfl) (by kernel_rfl) (by kernel_rfl) (fun _ _ _ h => h) (Or.inr ⟨by rfl, rfl⟩) (by exact hHeld) ?_
    try simp only [Act.put, List.setIfInBounds_toArray, List.set_cons_zero, List.set_cons_succ]
    refine wpAnyH_take (i := 14) (oi := { dst := some 19, op := Op.fieldAddr 44 (Operand.tmp 18) 2, type := 0, pos := _, after := #[{ on := 13, ground := Ground.data }, { on := 11, ground := Ground.guard }], guard := some (11, false) }) (v := undef) rfl (by kernel_rfl) (by kernel_rfl) (by kernel_rfl) (fun _ _ _ h => h) (Or.inr ⟨by rfl, rfl⟩) (by exact hHeld) ?_
    try simp only [Act.put, List.setIfInBounds_toArray, List.set_cons_zero, List.set_cons_succ]
    refine wpAnyH_take (i := 15) (oi := { dst := some 20, op := Op.load 40 (Operand.tmp 19), type := 40, pos := _, after := #[{ on := 14, ground := Ground.data }, { on := 11, ground := Ground.guard }], guard := some (11, false) }) (v := undef) rfl (by kernel_rfl) (by kernel_rfl) (by kernel_rfl) (fun _ _ _ h => h) (Or.inr ⟨by rfl, rfl⟩) (by exact hHeld) ?_
    try simp only [Act.put, List.setIfInBounds_toArray, List.set_cons_zero, List.set_cons_succ]
    refine wpAnyH_take (i := 16) (oi := { dst := some 21, op := Op.call { callee := Callee.builtin Builtin.len, args := #[Operand.tmp 20], argTypes := #[40] }, type := 3, pos := _, after := #[{ on := 15, ground := Ground.data }, { on := 11, ground := Ground.guard }], guard := some (11, false) }) (v := undef) rfl (by kernel_rfl) (by kernel_rfl) (by kernel_rfl) (fun _ _ _ h => h) (Or.inr ⟨by rfl, rfl⟩) (by exact hHeld) ?_
    try simp only [Act.put, List.setIfInBounds_toArray, List.set_cons_zero, List.set_cons_succ]
    refine wpAnyH_take (i := 17) (oi := { dst := some 22, op := Op.move (Operand.tmp 0), type := 39, pos := _, after := #[{ on := 11, ground := Ground.guard }], guard := some (11, false) }) (v := undef) rfl (by kernel_rfl) (by kernel_rfl) (by kernel_rfl) (fun _ _ _ h => h) (Or.inr ⟨by rfl, rfl⟩) (by exact hHeld) ?_
    try simp only [Act.put, List.setIfInBounds_toArray, List.set_cons_zero, List.set_cons_succ]
    refine wpAnyH_take (i := 18) (oi := { dst := some 23, op := Op.nilCheck (Operand.tmp 22), type := 0, pos := _, after := #[{ on := 17, ground := Ground.data }, { on := 11, ground := Ground.guard }], guard := some (11, false) }) (v := undef) rfl (by kernel_rfl) (by kernel_rfl) (by kernel_rfl) (fun _ _ _ h => h) (Or.inr ⟨by rfl, rfl⟩) (by exact hHeld) ?_
    try simp only [Act.put, List.setIfInBounds_toArray, List.set_cons_zero, List.set_cons_succ]
    refine wpAnyH_take (i := 19) (oi := { dst := some 24, op := Op.fieldAddr 44 (Operand.tmp 23) 1, type := 0, pos := _, after := #[{ on := 18, ground := Ground.data }, { on := 11, ground := Ground.guard }], guard := some (11, false) }) (v := undef) rfl (by kernel_rfl) (by kernel_rfl) (by kernel_rfl) (fun _ _ _ h => h) (Or.inr ⟨by rfl, rfl⟩) (by exact hHeld) ?_
    try simp only [Act.put, List.setIfInBounds_toArray, List.set_cons_zero, List.set_cons_succ]
    refine wpAnyH_take (i := 20) (oi := { dst := some 25, op := Op.load 3 (Operand.tmp 24), type := 3, pos := _, after := #[{ on := 19, ground := Ground.data }, { on := 11, ground := Ground.guard }], guard := some (11, false) }) (v := undef) rfl (by kernel_rfl) (by kernel_rfl) (by kernel_rfl) (fun _ _ _ h => h) (Or.inr ⟨by rfl, rfl⟩) (by exact hHeld) ?_
    try simp only [Act.put, List.setIfInBounds_toArray, List.set_cons_zero, List.set_cons_succ]
    refine wpAnyH_take (i := 21) (oi := { dst := some 26, op := Op.binOp BinOp.geq 3 (Operand.tmp 21) (Operand.tmp 25) 3, type := 4, pos := _, after := #[{ on := 16, ground := Ground.data }, { on := 20, ground := Ground.data }, { on := 11, ground := Ground.guard }], guard := some (11, false) }) (v := undef) rfl (by kernel_rfl) (by kernel_rfl) (by kernel_rfl) (fun _ _ _ h => h) (Or.inr ⟨by rfl, rfl⟩) (by exact hHeld) ?_
    try simp only [Act.put, List.setIfInBounds_toArray, List.set_cons_zero, List.set_cons_succ]
    refine wpAnyH_take (i := 22) (oi := { dst := some 27, op := Op.pick (Operand.tmp 16) (Operand.const (Value.bool true)) (Operand.tmp 26), type := 4, pos := _, after := #[{ on := 11, ground := Ground.data }, { on := 21, ground := Ground.data }], guard := none }) (v := ?_) rfl (by kernel_rfl) (by kernel_rfl) (by kernel_rfl) (fun _ _ _ h => h) (Or.inl ⟨by rfl, ?_⟩) (by exact hHeld) ?_
    rotate_left
    · (intro w hSw; (try dsimp only at hSw); go_simp <;> with_reducible rfl)
    try simp only [Act.put, List.setIfInBounds_toArray, List.set_cons_zero, List.set_cons_succ]
    refine wpAnyH_done (by kernel_rfl) ?_ _
    go_wp2_with fail
    go_ret
    exact ⟨rfl, below_drew (Below.refl _ _) 1⟩
  · by_cases hge : (n : Int) ≤ x
    · have d0 : decide (x < 0) = false := decide_eq_false hlt
      have d1 : decide ((n : Int) ≤ x) = true := decide_eq_true hge
      clear hx
      go_enter Try.func22, Try.ntmps22
      go_wp2_with fail
      go_upto_region 1 with (fail)
      refine wp_region_held_drew (S := fun w' => w'.cell? ⟨d, 1, none⟩ = some (.int .i64 r) ∧ w'.cell? ⟨d, 2, none⟩ = some (.slice ao n cap)) (by kernel_rfl) ⟨hc1, hc2⟩ (fun hHeld => ?_)
      refine wpAnyH_take (i := 0) (oi := { dst := some 5, op := Op.move (Operand.tmp 1), type := 3, pos := _, after := #[], guard := none }) (v := ?_) rfl (by kernel_rfl) (by kernel_rfl) (by kernel_rfl) (fun _ _ _ h => h) (Or.inl ⟨by rfl, ?_⟩) (by exact hHeld) ?_
      rotate_left
      · (intro w hSw; (try dsimp only at hSw); go_simp <;> with_reducible rfl)
      try simp only [Act.put, List.setIfInBounds_toArray, List.set_cons_zero, List.set_cons_succ]
      refine wpAnyH_take (i := 1) (oi := { dst := some 6, op := Op.binOp BinOp.lss 3 (Operand.tmp 5) (Operand.const (Value.int IntKind.i64 0)) 3, type := 4, pos := _, after := #[{ on := 0, ground := Ground.data }], guard := none }) (v := ?_) rfl (by kernel_rfl) (by kernel_rfl) (by kernel_rfl) (fun _ _ _ h => h) (Or.inl ⟨by rfl, ?_⟩) (by exact hHeld) ?_
      rotate_left
      · (intro w hSw; (try dsimp only at hSw); go_simp <;> with_reducible rfl)
      try simp only [Act.put, List.setIfInBounds_toArray, List.set_cons_zero, List.set_cons_succ]
      refine wpAnyH_take (i := 2) (oi := { dst := some 7, op := Op.move (Operand.tmp 6), type := 4, pos := _, after := #[{ on := 1, ground := Ground.data }], guard := none }) (v := ?_) rfl (by kernel_rfl) (by kernel_rfl) (by kernel_rfl) (fun _ _ _ h => h) (Or.inl ⟨by rfl, ?_⟩) (by exact hHeld) ?_
      rotate_left
      · (intro w hSw; (try dsimp only at hSw); go_simp <;> with_reducible rfl)
      try simp only [Act.put, List.setIfInBounds_toArray, List.set_cons_zero, List.set_cons_succ]
      refine wpAnyH_take (i := 3) (oi := { dst := some 8, op := Op.move (Operand.tmp 1), type := 3, pos := _, after := #[{ on := 2, ground := Ground.guard }], guard := some (2, false) }) (v := ?_) rfl (by kernel_rfl) (by kernel_rfl) (by kernel_rfl) (fun _ _ _ h => h) (Or.inl ⟨by rfl, ?_⟩) (by exact hHeld) ?_
      rotate_left
      · (intro w hSw; (try dsimp only at hSw); go_simp <;> with_reducible rfl)
      try simp only [Act.put, List.setIfInBounds_toArray, List.set_cons_zero, List.set_cons_succ]
      refine wpAnyH_take (i := 4) (oi := { dst := some 9, op := Op.move (Operand.tmp 0), type := 39, pos := _, after := #[{ on := 2, ground := Ground.guard }], guard := some (2, false) }) (v := ?_) rfl (by kernel_rfl) (by kernel_rfl) (by kernel_rfl) (fun _ _ _ h => h) (Or.inl ⟨by rfl, ?_⟩) (by exact hHeld) ?_
      rotate_left
      · (intro w hSw; (try dsimp only at hSw); go_simp <;> with_reducible rfl)
      try simp only [Act.put, List.setIfInBounds_toArray, List.set_cons_zero, List.set_cons_succ]
      refine wpAnyH_take (i := 5) (oi := { dst := some 10, op := Op.nilCheck (Operand.tmp 9), type := 0, pos := _, after := #[{ on := 4, ground := Ground.data }, { on := 2, ground := Ground.guard }], guard := some (2, false) }) (v := ?_) rfl (by kernel_rfl) (by kernel_rfl) (by kernel_rfl) (fun _ _ _ h => h) (Or.inl ⟨by rfl, ?_⟩) (by exact hHeld) ?_
      rotate_left
      · (intro w hSw; (try dsimp only at hSw); go_simp <;> with_reducible rfl)
      try simp only [Act.put, List.setIfInBounds_toArray, List.set_cons_zero, List.set_cons_succ]
      refine wpAnyH_take (i := 6) (oi := { dst := some 11, op := Op.fieldAddr 44 (Operand.tmp 10) 2, type := 0, pos := _, after := #[{ on := 5, ground := Ground.data }, { on := 2, ground := Ground.guard }], guard := some (2, false) }) (v := ?_) rfl (by kernel_rfl) (by kernel_rfl) (by kernel_rfl) (fun _ _ _ h => h) (Or.inl ⟨by rfl, ?_⟩) (by exact hHeld) ?_
      rotate_left
      · (intro w hSw; (try dsimp only at hSw); go_simp <;> with_reducible rfl)
      try simp only [Act.put, List.setIfInBounds_toArray, List.set_cons_zero, List.set_cons_succ]
      refine wpAnyH_take (i := 7) (oi := { dst := some 12, op := Op.load 40 (Operand.tmp 11), type := 40, pos := _, after := #[{ on := 6, ground := Ground.data }, { on := 2, ground := Ground.guard }], guard := some (2, false) }) (v := ?_) rfl (by kernel_rfl) (by kernel_rfl) (by kernel_rfl) (fun _ _ _ h => h) (Or.inl ⟨by rfl, ?_⟩) (by exact hHeld) ?_
      rotate_left
      · (intro w hSw; (try dsimp only at hSw); go_simp <;> with_reducible rfl)
      try simp only [Act.put, List.setIfInBounds_toArray, List.set_cons_zero, List.set_cons_succ]
      refine wpAnyH_take (i := 8) (oi := { dst := some 13, op := Op.call { callee := Callee.builtin Builtin.len, args := #[Operand.tmp 12], argTypes := #[40] }, type := 3, pos := _, after := #[{ on := 7, ground := Ground.data }, { on := 2, ground := Ground.guard }], guard := some (2, false) }) (v := ?_) rfl (by kernel_rfl) (by kernel_rfl) (by kernel_rfl) (fun _ _ _ h => h) (Or.inl ⟨by rfl, ?_⟩) (by exact hHeld) ?_
      rotate_left
      · (intro w hSw; (try dsimp only at hSw); go_simp <;> with_reducible rfl)
      try simp only [Act.put, List.setIfInBounds_toArray, List.set_cons_zero, List.set_cons_succ]
      refine wpAnyH_take (i := 9) (oi := { dst := some 14, op := Op.binOp BinOp.geq 3 (Operand.tmp 8) (Operand.tmp 13) 3, type := 4, pos := _, after := #[{ on := 3, ground := Ground.data }, { on := 8, ground := Ground.data }, { on := 2, ground := Ground.guard }], guard := some (2, false) }) (v := ?_) rfl (by kernel_rfl) (by kernel_rfl) (by kernel_rfl) (fun _ _ _ h => h) (Or.inl ⟨by rfl, ?_⟩) (by exact hHeld) ?_
      rotate_left
      · (intro w hSw; (try dsimp only at hSw); go_simp <;> with_reducible rfl)
      try simp only [Act.put, List.setIfInBounds_toArray, List.set_cons_zero, List.set_cons_succ]
      refine wpAnyH_take (i := 10) (oi := { dst := some 15, op := Op.pick (Operand.tmp 7) (Operand.const (Value.bool true)) (Operand.tmp 14), type := 4, pos := _, after := #[{ on := 2, ground := Ground.data }, { on := 9, ground := Ground.data }], guard := none }) (v := ?_) rfl (by kernel_rfl) (by kernel_rfl) (by kernel_rfl) (fun _ _ _ h => h) (Or.inl ⟨by rfl, ?_⟩) (by exact hHeld) ?_
      rotate_left
      · (intro w hSw; (try dsimp only at hSw); go_simp <;> with_reducible rfl)
      try simp only [Act.put, List.setIfInBounds_toArray, List.set_cons_zero, List.set_cons_succ]
      refine wpAnyH_take (i := 11) (oi := { dst := some 16, op := Op.move (Operand.tmp 15), type := 4, pos := _, after := #[{ on := 10, ground := Ground.data }, { on := 2, ground := Ground.chain }], guard := none }) (v := ?_) rfl (by kernel_rfl) (by kernel_rfl) (by kernel_rfl) (fun _ _ _ h => h) (Or.inl ⟨by rfl, ?_⟩) (by exact hHeld) ?_
      rotate_left
      · (intro w hSw; (try dsimp only at hSw); go_simp <;> with_reducible rfl)
      try simp only [Act.put, List.setIfInBounds_toArray, List.set_cons_zero, List.set_cons_succ]
      refine wpAnyH_take (i := 12) (oi := { dst := some 17, op := Op.move (Operand.tmp 0), type := 39, pos := _, after := #[{ on := 11, ground := Ground.guard }], guard := some (11, false) }) (v := undef) rfl (by kernel_rfl) (by kernel_rfl) (by kernel_rfl) (fun _ _ _ h => h) (Or.inr ⟨by rfl, rfl⟩) (by exact hHeld) ?_
      try simp only [Act.put, List.setIfInBounds_toArray, List.set_cons_zero, List.set_cons_succ]
      refine wpAnyH_take (i := 13) (oi := { dst := some 18, op := Op.nilCheck (Operand.tmp 17), type := 0, pos := _, after := #[{ on := 12, ground := Ground.data }, { on := 11, ground := Ground.guard }], guard := some (11, false) }) (v := undef) rfl (by kernel_rfl) (by kernel_rfl) (by kernel_rfl) (fun _ _ _ h => h) (Or.inr ⟨by rfl, rfl⟩) (by exact hHeld) ?_
      try simp only [Act.put, List.setIfInBounds_toArray, List.set_cons_zero, List.set_cons_succ]
      refine wpAnyH_take (i := 14) (oi := { dst := some 19, op := Op.fieldAddr 44 (Operand.tmp 18) 2, type := 0, pos := _, after := #[{ on := 13, ground := Ground.data }, { on := 11, ground := Ground.guard }], guard := some (11, false) }) (v := undef) rfl (by kernel_rfl) (by kernel_rfl) (by kernel_rfl) (fun _ _ _ h => h) (Or.inr ⟨by rfl, rfl⟩) (by exact hHeld) ?_
      try simp only [Act.put, List.setIfInBounds_toArray, List.set_cons_zero, List.set_cons_succ]
      refine wpAnyH_take (i := 15) (oi := { dst := some 20, op := Op.load 40 (Operand.tmp 19), type := 40, pos := _, after := #[{ on := 14, ground := Ground.data }, { on := 11, ground := Ground.guard }], guard := some (11, false) }) (v := undef) rfl (by kernel_rfl) (by kernel_rfl) (by kernel_rfl) (fun _ _ _ h => h) (Or.inr ⟨by rfl, rfl⟩) (by exact hHeld) ?_
      try simp only [Act.put, List.setIfInBounds_toArray, List.set_cons_zero, List.set_cons_succ]
      refine wpAnyH_take (i := 16) (oi := { dst := some 21, op := Op.call { callee := Callee.builtin Builtin.len, args := #[Operand.tmp 20], argTypes := #[40] }, type := 3, pos := _, after := #[{ on := 15, ground := Ground.data }, { on := 11, ground := Ground.guard }], guard := some (11, false) }) (v := undef) rfl (by kernel_rfl) (by kernel_rfl) (by kernel_rfl) (fun _ _ _ h => h) (Or.inr ⟨by rfl, rfl⟩) (by exact hHeld) ?_
      try simp only [Act.put, List.setIfInBounds_toArray, List.set_cons_zero, List.set_cons_succ]
      refine wpAnyH_take (i := 17) (oi := { dst := some 22, op := Op.move (Operand.tmp 0), type := 39, pos := _, after := #[{ on := 11, ground := Ground.guard }], guard := some (11, false) }) (v := undef) rfl (by kernel_rfl) (by kernel_rfl) (by kernel_rfl) (fun _ _ _ h => h) (Or.inr ⟨by rfl, rfl⟩) (by exact hHeld) ?_
      try simp only [Act.put, List.setIfInBounds_toArray, List.set_cons_zero, List.set_cons_succ]
      refine wpAnyH_take (i := 18) (oi := { dst := some 23, op := Op.nilCheck (Operand.tmp 22), type := 0, pos := _, after := #[{ on := 17, ground := Ground.data }, { on := 11, ground := Ground.guard }], guard := some (11, false) }) (v := undef) rfl (by kernel_rfl) (by kernel_rfl) (by kernel_rfl) (fun _ _ _ h => h) (Or.inr ⟨by rfl, rfl⟩) (by exact hHeld) ?_
      try simp only [Act.put, List.setIfInBounds_toArray, List.set_cons_zero, List.set_cons_succ]
      refine wpAnyH_take (i := 19) (oi := { dst := some 24, op := Op.fieldAddr 44 (Operand.tmp 23) 1, type := 0, pos := _, after := #[{ on := 18, ground := Ground.data }, { on := 11, ground := Ground.guard }], guard := some (11, false) }) (v := undef) rfl (by kernel_rfl) (by kernel_rfl) (by kernel_rfl) (fun _ _ _ h => h) (Or.inr ⟨by rfl, rfl⟩) (by exact hHeld) ?_
      try simp only [Act.put, List.setIfInBounds_toArray, List.set_cons_zero, List.set_cons_succ]
      refine wpAnyH_take (i := 20) (oi := { dst := some 25, op := Op.load 3 (Operand.tmp 24), type := 3, pos := _, after := #[{ on := 19, ground := Ground.data }, { on := 11, ground := Ground.guard }], guard := some (11, false) }) (v := undef) rfl (by kernel_rfl) (by kernel_rfl) (by kernel_rfl) (fun _ _ _ h => h) (Or.inr ⟨by rfl, rfl⟩) (by exact hHeld) ?_
      try simp only [Act.put, List.setIfInBounds_toArray, List.set_cons_zero, List.set_cons_succ]
      refine wpAnyH_take (i := 21) (oi := { dst := some 26, op := Op.binOp BinOp.geq 3 (Operand.tmp 21) (Operand.tmp 25) 3, type := 4, pos := _, after := #[{ on := 16, ground := Ground.data }, { on := 20, ground := Ground.data }, { on := 11, ground := Ground.guard }], guard := some (11, false) }) (v := undef) rfl (by kernel_rfl) (by kernel_rfl) (by kernel_rfl) (fun _ _ _ h => h) (Or.inr ⟨by rfl, rfl⟩) (by exact hHeld) ?_
      try simp only [Act.put, List.setIfInBounds_toArray, List.set_cons_zero, List.set_cons_succ]
      refine wpAnyH_take (i := 22) (oi := { dst := some 27, op := Op.pick (Operand.tmp 16) (Operand.const (Value.bool true)) (Operand.tmp 26), type := 4, pos := _, after := #[{ on := 11, ground := Ground.data }, { on := 21, ground := Ground.data }], guard := none }) (v := ?_) rfl (by kernel_rfl) (by kernel_rfl) (by kernel_rfl) (fun _ _ _ h => h) (Or.inl ⟨by rfl, ?_⟩) (by exact hHeld) ?_
      rotate_left
      · (intro w hSw; (try dsimp only at hSw); go_simp <;> with_reducible rfl)
      try simp only [Act.put, List.setIfInBounds_toArray, List.set_cons_zero, List.set_cons_succ]
      refine wpAnyH_done (by kernel_rfl) ?_ _
      go_wp2_with fail
      go_ret
      exact ⟨rfl, below_drew (Below.refl _ _) 1⟩
    · have hr : r ≤ (n : Int) := by
        rcases hx with hx | hx
        · rw [decide_eq_true (show 0 ≤ x by omega), Bool.true_and] at hx
          have := of_decide_eq_false hx
          omega
        · exact hx
      have d0 : decide (x < 0) = false := decide_eq_false hlt
      have d1 : decide ((n : Int) ≤ x) = false := decide_eq_false hge
      have d2 : decide (r ≤ (n : Int)) = true := decide_eq_true hr
      clear hx
      go_enter Try.func22, Try.ntmps22
      go_wp2_with fail
      go_upto_region 1 with (fail)
      refine wp_region_held_drew (S := fun w' => w'.cell? ⟨d, 1, none⟩ = some (.int .i64 r) ∧ w'.cell? ⟨d, 2, none⟩ = some (.slice ao n cap)) (by kernel_rfl) ⟨hc1, hc2⟩ (fun hHeld => ?_)
      refine wpAnyH_take (i := 0) (oi := { dst := some 5, op := Op.move (Operand.tmp 1), type := 3, pos := _, after := #[], guard := none }) (v := ?_) rfl (by kernel_rfl) (by kernel_rfl) (by kernel_rfl) (fun _ _ _ h => h) (Or.inl ⟨by rfl, ?_⟩) (by exact hHeld) ?_
      rotate_left
      · (intro w hSw; (try dsimp only at hSw); go_simp <;> with_reducible rfl)
      try simp only [Act.put, List.setIfInBounds_toArray, List.set_cons_zero, List.set_cons_succ]
      refine wpAnyH_take (i := 1) (oi := { dst := some 6, op := Op.binOp BinOp.lss 3 (Operand.tmp 5) (Operand.const (Value.int IntKind.i64 0)) 3, type := 4, pos := _, after := #[{ on := 0, ground := Ground.data }], guard := none }) (v := ?_) rfl (by kernel_rfl) (by kernel_rfl) (by kernel_rfl) (fun _ _ _ h => h) (Or.inl ⟨by rfl, ?_⟩) (by exact hHeld) ?_
      rotate_left
      · (intro w hSw; (try dsimp only at hSw); go_simp <;> with_reducible rfl)
      try simp only [Act.put, List.setIfInBounds_toArray, List.set_cons_zero, List.set_cons_succ]
      refine wpAnyH_take (i := 2) (oi := { dst := some 7, op := Op.move (Operand.tmp 6), type := 4, pos := _, after := #[{ on := 1, ground := Ground.data }], guard := none }) (v := ?_) rfl (by kernel_rfl) (by kernel_rfl) (by kernel_rfl) (fun _ _ _ h => h) (Or.inl ⟨by rfl, ?_⟩) (by exact hHeld) ?_
      rotate_left
      · (intro w hSw; (try dsimp only at hSw); go_simp <;> with_reducible rfl)
      try simp only [Act.put, List.setIfInBounds_toArray, List.set_cons_zero, List.set_cons_succ]
      refine wpAnyH_take (i := 3) (oi := { dst := some 8, op := Op.move (Operand.tmp 1), type := 3, pos := _, after := #[{ on := 2, ground := Ground.guard }], guard := some (2, false) }) (v := ?_) rfl (by kernel_rfl) (by kernel_rfl) (by kernel_rfl) (fun _ _ _ h => h) (Or.inl ⟨by rfl, ?_⟩) (by exact hHeld) ?_
      rotate_left
      · (intro w hSw; (try dsimp only at hSw); go_simp <;> with_reducible rfl)
      try simp only [Act.put, List.setIfInBounds_toArray, List.set_cons_zero, List.set_cons_succ]
      refine wpAnyH_take (i := 4) (oi := { dst := some 9, op := Op.move (Operand.tmp 0), type := 39, pos := _, after := #[{ on := 2, ground := Ground.guard }], guard := some (2, false) }) (v := ?_) rfl (by kernel_rfl) (by kernel_rfl) (by kernel_rfl) (fun _ _ _ h => h) (Or.inl ⟨by rfl, ?_⟩) (by exact hHeld) ?_
      rotate_left
      · (intro w hSw; (try dsimp only at hSw); go_simp <;> with_reducible rfl)
      try simp only [Act.put, List.setIfInBounds_toArray, List.set_cons_zero, List.set_cons_succ]
      refine wpAnyH_take (i := 5) (oi := { dst := some 10, op := Op.nilCheck (Operand.tmp 9), type := 0, pos := _, after := #[{ on := 4, ground := Ground.data }, { on := 2, ground := Ground.guard }], guard := some (2, false) }) (v := ?_) rfl (by kernel_rfl) (by kernel_rfl) (by kernel_rfl) (fun _ _ _ h => h) (Or.inl ⟨by rfl, ?_⟩) (by exact hHeld) ?_
      rotate_left
      · (intro w hSw; (try dsimp only at hSw); go_simp <;> with_reducible rfl)
      try simp only [Act.put, List.setIfInBounds_toArray, List.set_cons_zero, List.set_cons_succ]
      refine wpAnyH_take (i := 6) (oi := { dst := some 11, op := Op.fieldAddr 44 (Operand.tmp 10) 2, type := 0, pos := _, after := #[{ on := 5, ground := Ground.data }, { on := 2, ground := Ground.guard }], guard := some (2, false) }) (v := ?_) rfl (by kernel_rfl) (by kernel_rfl) (by kernel_rfl) (fun _ _ _ h => h) (Or.inl ⟨by rfl, ?_⟩) (by exact hHeld) ?_
      rotate_left
      · (intro w hSw; (try dsimp only at hSw); go_simp <;> with_reducible rfl)
      try simp only [Act.put, List.setIfInBounds_toArray, List.set_cons_zero, List.set_cons_succ]
      refine wpAnyH_take (i := 7) (oi := { dst := some 12, op := Op.load 40 (Operand.tmp 11), type := 40, pos := _, after := #[{ on := 6, ground := Ground.data }, { on := 2, ground := Ground.guard }], guard := some (2, false) }) (v := ?_) rfl (by kernel_rfl) (by kernel_rfl) (by kernel_rfl) (fun _ _ _ h => h) (Or.inl ⟨by rfl, ?_⟩) (by exact hHeld) ?_
      rotate_left
      · (intro w hSw; (try dsimp only at hSw); go_simp <;> with_reducible rfl)
      try simp only [Act.put, List.setIfInBounds_toArray, List.set_cons_zero, List.set_cons_succ]
      refine wpAnyH_take (i := 8) (oi := { dst := some 13, op := Op.call { callee := Callee.builtin Builtin.len, args := #[Operand.tmp 12], argTypes := #[40] }, type := 3, pos := _, after := #[{ on := 7, ground := Ground.data }, { on := 2, ground := Ground.guard }], guard := some (2, false) }) (v := ?_) rfl (by kernel_rfl) (by kernel_rfl) (by kernel_rfl) (fun _ _ _ h => h) (Or.inl ⟨by rfl, ?_⟩) (by exact hHeld) ?_
      rotate_left
      · (intro w hSw; (try dsimp only at hSw); go_simp <;> with_reducible rfl)
      try simp only [Act.put, List.setIfInBounds_toArray, List.set_cons_zero, List.set_cons_succ]
      refine wpAnyH_take (i := 9) (oi := { dst := some 14, op := Op.binOp BinOp.geq 3 (Operand.tmp 8) (Operand.tmp 13) 3, type := 4, pos := _, after := #[{ on := 3, ground := Ground.data }, { on := 8, ground := Ground.data }, { on := 2, ground := Ground.guard }], guard := some (2, false) }) (v := ?_) rfl (by kernel_rfl) (by kernel_rfl) (by kernel_rfl) (fun _ _ _ h => h) (Or.inl ⟨by rfl, ?_⟩) (by exact hHeld) ?_
      rotate_left
      · (intro w hSw; (try dsimp only at hSw); go_simp <;> with_reducible rfl)
      try simp only [Act.put, List.setIfInBounds_toArray, List.set_cons_zero, List.set_cons_succ]
      refine wpAnyH_take (i := 10) (oi := { dst := some 15, op := Op.pick (Operand.tmp 7) (Operand.const (Value.bool true)) (Operand.tmp 14), type := 4, pos := _, after := #[{ on := 2, ground := Ground.data }, { on := 9, ground := Ground.data }], guard := none }) (v := ?_) rfl (by kernel_rfl) (by kernel_rfl) (by kernel_rfl) (fun _ _ _ h => h) (Or.inl ⟨by rfl, ?_⟩) (by exact hHeld) ?_
      rotate_left
      · (intro w hSw; (try dsimp only at hSw); go_simp <;> with_reducible rfl)
      try simp only [Act.put, List.setIfInBounds_toArray, List.set_cons_zero, List.set_cons_succ]
      refine wpAnyH_take (i := 11) (oi := { dst := some 16, op := Op.move (Operand.tmp 15), type := 4, pos := _, after := #[{ on := 10, ground := Ground.data }, { on := 2, ground := Ground.chain }], guard := none }) (v := ?_) rfl (by kernel_rfl) (by kernel_rfl) (by kernel_rfl) (fun _ _ _ h => h) (Or.inl ⟨by rfl, ?_⟩) (by exact hHeld) ?_
      rotate_left
      · (intro w hSw; (try dsimp only at hSw); go_simp <;> with_reducible rfl)
      try simp only [Act.put, List.setIfInBounds_toArray, List.set_cons_zero, List.set_cons_succ]
      refine wpAnyH_take (i := 12) (oi := { dst := some 17, op := Op.move (Operand.tmp 0), type := 39, pos := _, after := #[{ on := 11, ground := Ground.guard }], guard := some (11, false) }) (v := ?_) rfl (by kernel_rfl) (by kernel_rfl) (by kernel_rfl) (fun _ _ _ h => h) (Or.inl ⟨by rfl, ?_⟩) (by exact hHeld) ?_
      rotate_left
      · (intro w hSw; (try dsimp only at hSw); go_simp <;> with_reducible rfl)
      try simp only [Act.put, List.setIfInBounds_toArray, List.set_cons_zero, List.set_cons_succ]
      refine wpAnyH_take (i := 13) (oi := { dst := some 18, op := Op.nilCheck (Operand.tmp 17), type := 0, pos := _, after := #[{ on := 12, ground := Ground.data }, { on := 11, ground := Ground.guard }], guard := some (11, false) }) (v := ?_) rfl (by kernel_rfl) (by kernel_rfl) (by kernel_rfl) (fun _ _ _ h => h) (Or.inl ⟨by rfl, ?_⟩) (by exact hHeld) ?_
      rotate_left
      · (intro w hSw; (try dsimp only at hSw); go_simp <;> with_reducible rfl)
      try simp only [Act.put, List.setIfInBounds_toArray, List.set_cons_zero, List.set_cons_succ]
      refine wpAnyH_take (i := 14) (oi := { dst := some 19, op := Op.fieldAddr 44 (Operand.tmp 18) 2, type := 0, pos := _, after := #[{ on := 13, ground := Ground.data }, { on := 11, ground := Ground.guard }], guard := some (11, false) }) (v := ?_) rfl (by kernel_rfl) (by kernel_rfl) (by kernel_rfl) (fun _ _ _ h => h) (Or.inl ⟨by rfl, ?_⟩) (by exact hHeld) ?_
      rotate_left
      · (intro w hSw; (try dsimp only at hSw); go_simp <;> with_reducible rfl)
      try simp only [Act.put, List.setIfInBounds_toArray, List.set_cons_zero, List.set_cons_succ]
      refine wpAnyH_take (i := 15) (oi := { dst := some 20, op := Op.load 40 (Operand.tmp 19), type := 40, pos := _, after := #[{ on := 14, ground := Ground.data }, { on := 11, ground := Ground.guard }], guard := some (11, false) }) (v := ?_) rfl (by kernel_rfl) (by kernel_rfl) (by kernel_rfl) (fun _ _ _ h => h) (Or.inl ⟨by rfl, ?_⟩) (by exact hHeld) ?_
      rotate_left
      · (intro w hSw; (try dsimp only at hSw); go_simp <;> with_reducible rfl)
      try simp only [Act.put, List.setIfInBounds_toArray, List.set_cons_zero, List.set_cons_succ]
      refine wpAnyH_take (i := 16) (oi := { dst := some 21, op := Op.call { callee := Callee.builtin Builtin.len, args := #[Operand.tmp 20], argTypes := #[40] }, type := 3, pos := _, after := #[{ on := 15, ground := Ground.data }, { on := 11, ground := Ground.guard }], guard := some (11, false) }) (v := ?_) rfl (by kernel_rfl) (by kernel_rfl) (by kernel_rfl) (fun _ _ _ h => h) (Or.inl ⟨by rfl, ?_⟩) (by exact hHeld) ?_
      rotate_left
      · (intro w hSw; (try dsimp only at hSw); go_simp <;> with_reducible rfl)
      try simp only [Act.put, List.setIfInBounds_toArray, List.set_cons_zero, List.set_cons_succ]
      refine wpAnyH_take (i := 17) (oi := { dst := some 22, op := Op.move (Operand.tmp 0), type := 39, pos := _, after := #[{ on := 11, ground := Ground.guard }], guard := some (11, false) }) (v := ?_) rfl (by kernel_rfl) (by kernel_rfl) (by kernel_rfl) (fun _ _ _ h => h) (Or.inl ⟨by rfl, ?_⟩) (by exact hHeld) ?_
      rotate_left
      · (intro w hSw; (try dsimp only at hSw); go_simp <;> with_reducible rfl)
      try simp only [Act.put, List.setIfInBounds_toArray, List.set_cons_zero, List.set_cons_succ]
      refine wpAnyH_take (i := 18) (oi := { dst := some 23, op := Op.nilCheck (Operand.tmp 22), type := 0, pos := _, after := #[{ on := 17, ground := Ground.data }, { on := 11, ground := Ground.guard }], guard := some (11, false) }) (v := ?_) rfl (by kernel_rfl) (by kernel_rfl) (by kernel_rfl) (fun _ _ _ h => h) (Or.inl ⟨by rfl, ?_⟩) (by exact hHeld) ?_
      rotate_left
      · (intro w hSw; (try dsimp only at hSw); go_simp <;> with_reducible rfl)
      try simp only [Act.put, List.setIfInBounds_toArray, List.set_cons_zero, List.set_cons_succ]
      refine wpAnyH_take (i := 19) (oi := { dst := some 24, op := Op.fieldAddr 44 (Operand.tmp 23) 1, type := 0, pos := _, after := #[{ on := 18, ground := Ground.data }, { on := 11, ground := Ground.guard }], guard := some (11, false) }) (v := ?_) rfl (by kernel_rfl) (by kernel_rfl) (by kernel_rfl) (fun _ _ _ h => h) (Or.inl ⟨by rfl, ?_⟩) (by exact hHeld) ?_
      rotate_left
      · (intro w hSw; (try dsimp only at hSw); go_simp <;> with_reducible rfl)
      try simp only [Act.put, List.setIfInBounds_toArray, List.set_cons_zero, List.set_cons_succ]
      refine wpAnyH_take (i := 20) (oi := { dst := some 25, op := Op.load 3 (Operand.tmp 24), type := 3, pos := _, after := #[{ on := 19, ground := Ground.data }, { on := 11, ground := Ground.guard }], guard := some (11, false) }) (v := ?_) rfl (by kernel_rfl) (by kernel_rfl) (by kernel_rfl) (fun _ _ _ h => h) (Or.inl ⟨by rfl, ?_⟩) (by exact hHeld) ?_
      rotate_left
      · (intro w hSw; (try dsimp only at hSw); go_simp <;> with_reducible rfl)
      try simp only [Act.put, List.setIfInBounds_toArray, List.set_cons_zero, List.set_cons_succ]
      refine wpAnyH_take (i := 21) (oi := { dst := some 26, op := Op.binOp BinOp.geq 3 (Operand.tmp 21) (Operand.tmp 25) 3, type := 4, pos := _, after := #[{ on := 16, ground := Ground.data }, { on := 20, ground := Ground.data }, { on := 11, ground := Ground.guard }], guard := some (11, false) }) (v := ?_) rfl (by kernel_rfl) (by kernel_rfl) (by kernel_rfl) (fun _ _ _ h => h) (Or.inl ⟨by rfl, ?_⟩) (by exact hHeld) ?_
      rotate_left
      · (intro w hSw; (try dsimp only at hSw); go_simp <;> with_reducible rfl)
      try simp only [Act.put, List.setIfInBounds_toArray, List.set_cons_zero, List.set_cons_succ]
      refine wpAnyH_take (i := 22) (oi := { dst := some 27, op := Op.pick (Operand.tmp 16) (Operand.const (Value.bool true)) (Operand.tmp 26), type := 4, pos := _, after := #[{ on := 11, ground := Ground.data }, { on := 21, ground := Ground.data }], guard := none }) (v := ?_) rfl (by kernel_rfl) (by kernel_rfl) (by kernel_rfl) (fun _ _ _ h => h) (Or.inl ⟨by rfl, ?_⟩) (by exact hHeld) ?_
      rotate_left
      · (intro w hSw; (try dsimp only at hSw); go_simp <;> with_reducible rfl)
      try simp only [Act.put, List.setIfInBounds_toArray, List.set_cons_zero, List.set_cons_succ]
      refine wpAnyH_done (by kernel_rfl) ?_ _
      go_wp2_with fail
      go_ret
      exact ⟨rfl, below_drew (Below.refl _ _) 1⟩
set_option maxHeartbeats 8000000 in
theorem copy_doc (h : IsDoc w base d s es) (k : Nat) (hk : k < s.l.length) (hr : (s.l.length : Int) < s.room) (hrm : s.room ≤ 65536) (hbs : base ≤ w.heap.size) :
    Calls Try.prog 22 #[.pointer (some ⟨d, 0, none⟩), .int .i64 (k : Int)] w fun e w' => e = .returned (.bool true) ∧ IsDoc w' base d (copyN s k) es ∧ Only [d] w w' := by
  have HD := Lib.hid h
  obtain ⟨⟨cs, v, ps, h1, h2, h3, h4, h5, h6, h7, h8⟩, h9⟩ := h
  obtain ⟨g, cap, rfl, hg1, hg2, hc1, hc2, hpl, hcell⟩ := row_cell49 h7 (by omega)
  have hx : (ps.getD k mv0).m = getN s k := by
    unfold getN
    rw [← h8.ms]
    have hkp : k < ps.length := by omega
    simp [List.getD, hkp]
  have hxo := h8.own (ps.getD k mv0) (by
    have hkp : k < ps.length := by omega
    simp only [List.getD, List.getElem?_eq_getElem hkp, Option.getD_some]
    exact List.getElem_mem _)
  have hxe := h8.one (ps.getD k mv0) (by
    have hkp : k < ps.length := by omega
    simp only [List.getD, List.getElem?_eq_getElem hkp, Option.getD_some]
    exact List.getElem_mem _)
  rw [hx] at hxo
  obtain ⟨av, cv, hve, _⟩ := hxo.ns.isI
  obtain ⟨bv, cw, hue, _⟩ := hxo.bs.shape
  have e0 := hcell k 0 hk (by omega)
  have e1 := hcell k 1 hk (by omega)
  have e2 := hcell k 2 hk (by omega)
  have e3 := hcell k 3 hk (by omega)
  have e4 := hcell k 4 hk (by omega)
  simp only [cells5, hve, hue, hx] at e0 e1 e2 e3 e4
  have y0 : w.cell? ⟨g, k * 5, none⟩ = _ := e0
  have HMX : Hid (ps.getD k mv0 = ⟨getN s k, .slice av (getN s k).ns.length cv, .slice bv (getN s k).bs.length cw⟩) := Lib.hid (by
    generalize ps.getD k mv0 = z at *
    obtain ⟨zm, zv, zu⟩ := z
    simp only at hx hve hue
    rw [hx, hve, hue])
  have HIN : Hid (ps.getD k mv0 ∈ ps) := Lib.hid (by
    have hkp : k < ps.length := by omega
    simp only [List.getD, List.getElem?_eq_getElem hkp, Option.getD_some]
    exact List.getElem_mem _)
  have yd : w.cell? ⟨d, 2, none⟩ = some (.slice (some ⟨g, 0, none⟩) s.l.length cap) := by rw [cell_heap h1]; exact h5
  have yr : w.cell? ⟨d, 1, none⟩ = some (.int .i64 s.room) := by rw [cell_heap h1]; exact h4
  have yf := free_heap h1 2
  have H1 := Lib.hid h1
  have H := Lib.hid (And.intro h2 (And.intro h3 (And.intro h4 (And.intro h5 (And.intro h6 (And.intro h7 h8))))))
  have HPL := Lib.hid hpl
  clear e0 h1 h2 h3 h4 h5 h6 h7 h8 hcell hxo hve hue hxe hx hpl
  generalize hmg : getN s k = mg at *
  have HMG := Lib.hid hmg
  clear hmg
  cases mg with
  | mk mf mt mk ns bs =>
  simp only at *
  generalize hnn : s.l.length = n at *
  generalize hrr : s.room = r at *
  have HNN := Lib.hid hnn; have HRR := Lib.hid hrr
  clear hnn hrr
  have d0 : decide ((k : Int) < 0) = false := decide_eq_false (by omega)
  have d1 : decide (n ≤ k) = false := decide_eq_false (by omega)
  have d2 : decide (r ≤ (n : Int)) = false := decide_eq_false (by omega)
  have hc1 := yr
  have hc2 := yd
  go_enter Try.func22, Try.ntmps22
  go_wp2_with fail
  go_quiet (fail)
  go_upto_region 3 with (fail)
  have HIR0 : Hid (∀ u, Below w.heap.size w u → IsR u (some ⟨g, 0, none⟩) n cap ps) := Lib.hid (fun u hb => (isR_own H.out.2.2.2.2.2.1).below hb)
  have HON : Hid (Ones ps) := Lib.hid H.out.2.2.2.2.2.2.one
  have HOX : Hid (Ones [⟨⟨mf, mt, mk, ns, bs⟩, .slice av ns.length cv, .slice bv bs.length cw⟩]) := Lib.hid (fun x hx => by obtain rfl := List.mem_singleton.1 hx; exact ⟨rfl, rfl⟩)
  have K0 := Lib.hid (show (w.drewN nq).heap[d]? = _ from H1.out)
  have HBW := Lib.hid (below_drew (Below.refl w.heap.size w) nq)
  have yD : (w.drewN nq).cell? ⟨d, 2, none⟩ = _ := yd
  have Y0 : (w.drewN nq).cell? ⟨g, k * 5, none⟩ = some (.int .i64 mf) := y0
  have Y1 : (w.drewN nq).cell? ⟨g, k * 5 + 1, none⟩ = some (.int .i64 mt) := e1
  have Y2 : (w.drewN nq).cell? ⟨g, k * 5 + 2, none⟩ = some (.int .i64 mk) := e2
  have Y3 : (w.drewN nq).cell? ⟨g, k * 5 + 3, none⟩ = some (.slice av ns.length cv) := e3
  have Y4 : (w.drewN nq).cell? ⟨g, k * 5 + 4, none⟩ = some (.slice bv bs.length cw) := e4
  have yF : (w.drewN nq).frozen? ⟨d, 2, none⟩ = false := yf
  have HIR : Hid (∀ u, Below (w.drewN nq).heap.size (w.drewN nq) u → IsR u (some ⟨g, 0, none⟩) n cap ps) := Lib.hid (fun u hb => HIR0.out u (HBW.out.trans hb))
  clear y0 e1 e2 e3 e4 yd yf yr hc1 hc2 d0 d1 d2 HIR0
  have HSZ : Hid ((w.drewN nq).heap.size = w.heap.size) := Lib.hid rfl
  generalize w.drewN nq = W at *
  have K1 := K0
  have yd := yD
  have yf := yF
  have ya : ∀ o : Obj, (W.alloc o).cell? ⟨d, 2, none⟩ = _ := fun o => cell_later ((Below.refl _ _).alloc (Nat.le_refl _) o) yd
  have Y0a : ∀ o : Obj, (W.alloc o).cell? ⟨g, k * 5, none⟩ = _ := fun o => cell_later ((Below.refl _ _).alloc (Nat.le_refl _) o) Y0
  have Y1a : ∀ o : Obj, (W.alloc o).cell? ⟨g, k * 5 + 1, none⟩ = _ := fun o => cell_later ((Below.refl _ _).alloc (Nat.le_refl _) o) Y1
  have Y2a : ∀ o : Obj, (W.alloc o).cell? ⟨g, k * 5 + 2, none⟩ = _ := fun o => cell_later ((Below.refl _ _).alloc (Nat.le_refl _) o) Y2
  have Y3a : ∀ o : Obj, (W.alloc o).cell? ⟨g, k * 5 + 3, none⟩ = _ := fun o => cell_later ((Below.refl _ _).alloc (Nat.le_refl _) o) Y3
  have Y4a : ∀ o : Obj, (W.alloc o).cell? ⟨g, k * 5 + 4, none⟩ = _ := fun o => cell_later ((Below.refl _ _).alloc (Nat.le_refl _) o) Y4
  have yaa : ∀ o o2 : Obj, ((W.alloc o).alloc o2).cell? ⟨d, 2, none⟩ = _ := fun o o2 => cell_later ((Below.refl _ _).alloc (Nat.le_refl _) o2) (ya o)
  have Y0b : ∀ o o2 : Obj, ((W.alloc o).alloc o2).cell? ⟨g, k * 5, none⟩ = _ := fun o o2 => cell_later ((Below.refl _ _).alloc (Nat.le_refl _) o2) (Y0a o)
  have Y1b : ∀ o o2 : Obj, ((W.alloc o).alloc o2).cell? ⟨g, k * 5 + 1, none⟩ = _ := fun o o2 => cell_later ((Below.refl _ _).alloc (Nat.le_refl _) o2) (Y1a o)
  have Y2b : ∀ o o2 : Obj, ((W.alloc o).alloc o2).cell? ⟨g, k * 5 + 2, none⟩ = _ := fun o o2 => cell_later ((Below.refl _ _).alloc (Nat.le_refl _) o2) (Y2a o)
  have Y3b : ∀ o o2 : Obj, ((W.alloc o).alloc o2).cell? ⟨g, k * 5 + 3, none⟩ = _ := fun o o2 => cell_later ((Below.refl _ _).alloc (Nat.le_refl _) o2) (Y3a o)
  have Y4b : ∀ o o2 : Obj, ((W.alloc o).alloc o2).cell? ⟨g, k * 5 + 4, none⟩ = _ := fun o o2 => cell_later ((Below.refl _ _).alloc (Nat.le_refl _) o2) (Y4a o)
  clear yD yF
  go_cut [] (fun wx => ∃ na nn w13, wx = w13.setCell ⟨d, 2, none⟩ (.slice na (n + 1) nn) ∧ w13.ownsRow W.heap.size 49 5 (.slice na (n + 1) nn) (n + 1) (row5 (ps ++ [⟨⟨mf, mt, mk, ns, bs⟩, .slice av ns.length cv, .slice bv bs.length cw⟩])) ∧ Below W.heap.size W w13)
  case first =>
    go_region_law (first
      | (refine step_append_row (by rfl) (.tmp 29) (.tmp 33) (by rfl) W.heap.size (.slice (some ⟨W.heap.size, 0, none⟩) 0 0) [] 0 n (by rfl) ?_ _ _ _ ps (by rfl) ?_ HON.out (by omega) (by omega) ?_ ?_; (with_reducible exact (mkR1 W W.heap.size (Nat.le_refl _)).1); (refine HIR.out _ ?_); (with_reducible exact (mkR1 W W.heap.size (Nat.le_refl _)).2); (refine (below_size1 (B := W.heap.size) (w := W) ?_)); (with_reducible exact (mkR1 W W.heap.size (Nat.le_refl _)).2); intro a5 c5 w5 ho5 hb5 hg5; have hB5 : Below W.heap.size W w5 := ((mkR1 W W.heap.size (Nat.le_refl _)).2).trans hb5; have HO5 := Lib.hid ho5; have hc5 := cell_later hB5 yd; have f5 : w5.frozen? ⟨d, 2, none⟩ = false := free_heap (heap_below hB5 (lt_of_heap K1.out) K1.out) 2; have Y05 := cell_later hB5 Y0; have Y15 := cell_later hB5 Y1; have Y25 := cell_later hB5 Y2; have Y35 := cell_later hB5 Y3; have Y45 := cell_later hB5 Y4;  clear ho5 hb5 hg5; rw [List.nil_append] at HO5)
      | (refine step_append_row (by rfl) (.tmp 29) (.tmp 33) (by rfl) W.heap.size (.slice (some ⟨W.heap.size, 0, none⟩) 0 0) [] 0 n (by rfl) ?_ _ _ _ ps (by rfl) ?_ HON.out (by omega) (by omega) ?_ ?_; (with_reducible exact (mkR2 W W.heap.size (Nat.le_refl _) #[.int .i64 mf, .int .i64 mt, .int .i64 mk, .slice av ns.length cv, .slice bv bs.length cw]).1); (refine HIR.out _ ?_); (with_reducible exact (mkR2 W W.heap.size (Nat.le_refl _) #[.int .i64 mf, .int .i64 mt, .int .i64 mk, .slice av ns.length cv, .slice bv bs.length cw]).2.1); (refine (below_size1 (B := W.heap.size) (w := W) ?_)); (with_reducible exact (mkR2 W W.heap.size (Nat.le_refl _) #[.int .i64 mf, .int .i64 mt, .int .i64 mk, .slice av ns.length cv, .slice bv bs.length cw]).2.1); intro a5 c5 w5 ho5 hb5 hg5; have hB5 : Below W.heap.size W w5 := ((mkR2 W W.heap.size (Nat.le_refl _) #[.int .i64 mf, .int .i64 mt, .int .i64 mk, .slice av ns.length cv, .slice bv bs.length cw]).2.1).trans hb5; have HO5 := Lib.hid ho5; have hc5 := cell_later hB5 yd; have f5 : w5.frozen? ⟨d, 2, none⟩ = false := free_heap (heap_below hB5 (lt_of_heap K1.out) K1.out) 2; have Y05 := cell_later hB5 Y0; have Y15 := cell_later hB5 Y1; have Y25 := cell_later hB5 Y2; have Y35 := cell_later hB5 Y3; have Y45 := cell_later hB5 Y4; have HY5 := Lib.hid (grown_keep hg5 (show _ = some (Obj.cells #[.int .i64 mf, .int .i64 mt, .int .i64 mk, .slice av ns.length cv, .slice bv bs.length cw] 49 (0, 0)) from (mkR2 W W.heap.size (Nat.le_refl _) #[.int .i64 mf, .int .i64 mt, .int .i64 mk, .slice av ns.length cv, .slice bv bs.length cw]).2.2) (by simp)); clear ho5 hb5 hg5; rw [List.nil_append] at HO5)
      | (refine step_append_row (by rfl) (.tmp 29) (.tmp 33) (by rfl) W.heap.size (.slice (some ⟨W.heap.size + 1, 0, none⟩) 0 0) [] 0 n (by rfl) ?_ _ _ _ ps (by rfl) ?_ HON.out (by omega) (by omega) ?_ ?_; (with_reducible exact (mkR3 W W.heap.size (Nat.le_refl _) #[.int .i64 mf, .int .i64 mt, .int .i64 mk, .slice av ns.length cv, .slice bv bs.length cw]).1); (refine HIR.out _ ?_); (with_reducible exact (mkR3 W W.heap.size (Nat.le_refl _) #[.int .i64 mf, .int .i64 mt, .int .i64 mk, .slice av ns.length cv, .slice bv bs.length cw]).2.1); (refine (below_size1 (B := W.heap.size) (w := W) ?_)); (with_reducible exact (mkR3 W W.heap.size (Nat.le_refl _) #[.int .i64 mf, .int .i64 mt, .int .i64 mk, .slice av ns.length cv, .slice bv bs.length cw]).2.1); intro a5 c5 w5 ho5 hb5 hg5; have hB5 : Below W.heap.size W w5 := ((mkR3 W W.heap.size (Nat.le_refl _) #[.int .i64 mf, .int .i64 mt, .int .i64 mk, .slice av ns.length cv, .slice bv bs.length cw]).2.1).trans hb5; have HO5 := Lib.hid ho5; have hc5 := cell_later hB5 yd; have f5 : w5.frozen? ⟨d, 2, none⟩ = false := free_heap (heap_below hB5 (lt_of_heap K1.out) K1.out) 2; have Y05 := cell_later hB5 Y0; have Y15 := cell_later hB5 Y1; have Y25 := cell_later hB5 Y2; have Y35 := cell_later hB5 Y3; have Y45 := cell_later hB5 Y4; have HY5 := Lib.hid (grown_keep hg5 (show _ = some (Obj.cells #[.int .i64 mf, .int .i64 mt, .int .i64 mk, .slice av ns.length cv, .slice bv bs.length cw] 49 (0, 0)) from (mkR3 W W.heap.size (Nat.le_refl _) #[.int .i64 mf, .int .i64 mt, .int .i64 mk, .slice av ns.length cv, .slice bv bs.length cw]).2.2) (by simp)); clear ho5 hb5 hg5; rw [List.nil_append] at HO5)
      | (refine step_append_row (by rfl) (.tmp 34) (.tmp 42) (by rfl) W.heap.size (.slice a5 n c5) ps n (n + 1) (by rfl) ?_ _ _ _ [⟨⟨mf, mt, mk, ns, bs⟩, .slice av ns.length cv, .slice bv bs.length cw⟩] (by rfl) ?_ HOX.out (by omega) (by omega) ?_ ?_; (exact HO5.out); (exact isR_one HY5.out _); (exact hB5.size); intro a13 c13 w13 ho13 hb13 hg13; have hB13 : Below W.heap.size W w13 := hB5.trans hb13; have HO13 := Lib.hid ho13; have hc13 := cell_later hB13 yd; have f13 : w13.frozen? ⟨d, 2, none⟩ = false := free_heap (heap_below hB13 (lt_of_heap K1.out) K1.out) 2; clear ho13 hb13 hg13)
      | (refine step_append_row (by rfl) (.tmp 34) (.tmp 42) (by rfl) W.heap.size (.slice a5 n c5) ps n (n + 1) (by rfl) ?_ _ _ _ [⟨⟨mf, mt, mk, ns, bs⟩, .slice av ns.length cv, .slice bv bs.length cw⟩] (by rfl) ?_ HOX.out (by omega) (by omega) ?_ ?_; (exact rows_below HO5.out ((Below.refl _ _).alloc (Nat.le_refl _) _)); (refine isR_one (x := ⟨⟨mf, mt, mk, ns, bs⟩, .slice av ns.length cv, .slice bv bs.length cw⟩) ?_ _); (exact heap_new _ _); (exact (hB5.alloc hB5.size _).size); intro a13 c13 w13 ho13 hb13 hg13; have hB13 : Below W.heap.size W w13 := (hB5.alloc hB5.size _).trans hb13; have HO13 := Lib.hid ho13; have hc13 := cell_later hB13 yd; have f13 : w13.frozen? ⟨d, 2, none⟩ = false := free_heap (heap_below hB13 (lt_of_heap K1.out) K1.out) 2; clear ho13 hb13 hg13)
      | fail)
    all_goals
      go_wp2_with fail
      go_meet
      exact ⟨a13, c13, w13, rfl, HO13.out, hB13⟩
  case rest =>
    obtain ⟨na, nn, w13, rfl, ho13, hb13⟩ := hcut
    have ow : Only [d] w13 (w13.setCell ⟨d, 2, none⟩ (.slice na (n + 1) nn)) := (Only.refl _ _).setCell (by simp) _
    have k13 := heap_below hb13 (lt_of_heap K1.out) K1.out
    have hbw : Below w.heap.size w w13 := HBW.out.trans (hb13.mono (by have := HSZ.out; omega))
    have HK14 := Lib.hid (heap_set k13 2 (.slice na (n + 1) nn))
    have HR14 := Lib.hid (rows_types ho13 ow (fun j hj cur => by rw [List.mem_singleton.1 hj, k13]; simp))
    have hnr : NoRow w13 [d] := by
      intro j hj cur
      rw [List.mem_singleton.1 hj, k13]; simp
    have HH14 := Lib.hid ((H.out.2.2.2.2.2.2.only (Only.ofBelow hbw []) (fun j hj => by cases hj)).only ow hnr)
    have HO14 : Hid (Only [d] w (w13.setCell ⟨d, 2, none⟩ (.slice na (n + 1) nn))) := Lib.hid ((Only.ofBelow hbw [d]).trans ow)
    clear ho13 k13 hnr ow hb13 hbw yd yf ya Y0 Y1 Y2 Y3 Y4 yaa Y0a Y1a Y2a Y3a Y4a Y0b Y1b Y2b Y3b Y4b
    generalize (w13.setCell ⟨d, 2, none⟩ (.slice na (n + 1) nn)) = w14 at *
    go_wp2_with fail
    go_ret
    obtain ⟨k2, k3, k4, k5, k6, k7, k8⟩ := H.out
    have hcp : copyN s k = { s with l := s.l ++ [getN s k] } := rfl
    rw [hcp, HMG.out]
    refine ⟨rfl, ⟨⟨_, .slice na (n + 1) nn, ps ++ [⟨⟨mf, mt, mk, ns, bs⟩, .slice av ns.length cv, .slice bv bs.length cw⟩], HK14.out, by simpa using k2, ?_, ?_, ?_, fun x y hx hy => ?_, ?_, ?_⟩, h9⟩, HO14.out⟩
    · rw [Array.getElem?_setIfInBounds_ne (by omega)]; exact k3
    · rw [Array.getElem?_setIfInBounds_ne (by omega)]; rw [HRR.out]; exact k4
    · rw [Array.getElem?_setIfInBounds_self_of_lt (by omega)]
    · rw [Array.getElem?_setIfInBounds_ne (by omega)]; exact k6 x y hx hy
    · show World.ownsRow _ base 49 5 _ (s.l ++ [_]).length _
      rw [List.length_append, HNN.out]
      exact rows_mono HR14.out (show base ≤ W.heap.size by have := HSZ.out; omega)
    · have hh := HH14.out
      have hx : ∀ x ∈ ps ++ [(⟨⟨mf, mt, mk, ns, bs⟩, .slice av ns.length cv, .slice bv bs.length cw⟩ : Mv)], x ∈ ps := by
        intro x hx
        rcases List.mem_append.1 hx with hx | hx
        · exact hx
        · have := HIN.out
          rw [HMX.out] at this
          rw [List.mem_singleton.1 hx]
          exact HMG.out ▸ this
      refine ⟨?_, fun x h => hh.own x (hx x h), fun x h => hh.one x (hx x h)⟩
      rw [List.map_append, hh.ms]; rfl
end
end Go.Proofs.Ytmehgkbhpfcmpaa.G
