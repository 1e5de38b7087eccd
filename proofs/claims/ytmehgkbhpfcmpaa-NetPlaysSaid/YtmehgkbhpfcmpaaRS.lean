/-
  A message is sent into the document's net.
-/
import Derived.Test.YtmehgkbhpfcmpaaRC
import Derived.Test.YtmehgkbhpfcmpaaGS
import Derived.Test.YtmehgkbhpfcmpaaStp
namespace Go.Proofs.Ytmehgkbhpfcmpaa.G
open Go.RowKit Go.Proofs.Ytmehgkbhpfcmpaa
structure LoopS (V : World) (B Y : Nat) (mf mt mk : Int) (a1 : Option Addr) (nn c1 : Nat) (ns : List Int) (bs : List (List UInt8)) (j : Nat) (wr : World) : Prop where
  st : ∃ vo vc, wr.heap[Y]? = some (.cells #[.int .i64 mf, .int .i64 mt, .int .i64 mk, .slice a1 nn c1, .slice vo j vc] 49 (0, 0)) ∧ OwnL wr B (.slice vo j vc) (bs.take j)
  own : OwnI wr B 2 (.slice a1 nn c1) ns
  below : Below B V wr
theorem LoopS.start {V wr : World} {B Y : Nat} {mf mt mk : Int} {a1 : Option Addr} {nn c1 : Nat} {ns : List Int} {bs : List (List UInt8)}
    (h1 : wr.heap[Y]? = some (.cells #[.int .i64 mf, .int .i64 mt, .int .i64 mk, .slice a1 nn c1, .slice none 0 0] 49 (0, 0))) (h2 : OwnI wr B 2 (.slice a1 nn c1) ns) (h3 : Below B V wr) :
    LoopS V B Y mf mt mk a1 nn c1 ns bs 0 wr := ⟨⟨none, 0, h1, by rw [List.take_zero]; exact OwnL.nil _ _⟩, h2, h3⟩
theorem own_nilB {w : World} {B b : Nat} (h : w.heap[b]? = some (.cells #[] 5 (0, 0))) (hB : B ≤ b) : OwnB w B 5 (.slice (some ⟨b, 0, none⟩) 0 0) [] :=
  ⟨rfl, .inr ⟨b, 0, _, rfl, hB, h, Nat.le_refl _, by unfold maxLen; omega, rfl, rfl⟩⟩
theorem own_nilR {w : World} {B b : Nat} (h : w.heap[b]? = some (.cells #[] 49 (0, 0))) (hB : B ≤ b) : w.ownsRow B 49 5 (.slice (some ⟨b, 0, none⟩) 0 0) 0 (row5 []) :=
  ⟨rfl, .inr ⟨b, 0, _, rfl, hB, h, Nat.le_refl _, by unfold maxLen; omega, rfl, rfl⟩⟩
theorem grown_type {w w' : World} {Y : Nat} {cs : Array Value} {t : TypeId} {fr : Nat × Nat} {base n : Nat} {e : TypeId} {k : Nat} {v : Value} {xs : List Value} (h : w.heap[Y]? = some (.cells cs t fr)) (hr : w.ownsRow base e k v n xs) (hne : t ≠ e) (hg : w.grownBy w' v.ownBlock) : w'.heap[Y]? = some (.cells cs t fr) := by
  rw [hg.block Y (lt_of_heap h) (fun he => ?_)]
  · exact h
  · obtain ⟨_, cur, hc⟩ := rows_block hr he.symm
    rw [hc] at h
    simp at h
    exact hne h.2.1.symm
abbrev Z49 : Array Value := #[.int .i64 0, .int .i64 0, .int .i64 0, .slice none 0 0, .slice none 0 0]
theorem put5_heap49 {w : World} {H : Nat} (f t k : Int) (v u : Value) (h : w.heap[H]? = some (.cells Z49 49)) : (put5 w H f t k v u).heap[H]? = some (.cells #[.int .i64 f, .int .i64 t, .int .i64 k, v, u] 49 (0, 0)) := by
  have h0 := heap_set (heap_set (heap_set (heap_set (heap_set h 0 (.int .i64 f)) 1 (.int .i64 t)) 2 (.int .i64 k)) 3 v) 4 u
  exact h0
theorem zeros49 {w : World} {H : Nat} (h : w.heap[H]? = some (.cells Z49 49)) : (w.cell? ⟨H, 0, none⟩ = some (.int .i64 0) ∧ w.cell? ⟨H, 1, none⟩ = some (.int .i64 0) ∧ w.cell? ⟨H, 2, none⟩ = some (.int .i64 0) ∧ w.cell? ⟨H, 3, none⟩ = some (.slice none 0 0) ∧ w.cell? ⟨H, 4, none⟩ = some (.slice none 0 0)) ∧
    (w.frozen? ⟨H, 0, none⟩ = false ∧ w.frozen? ⟨H, 1, none⟩ = false ∧ w.frozen? ⟨H, 2, none⟩ = false ∧ w.frozen? ⟨H, 3, none⟩ = false ∧ w.frozen? ⟨H, 4, none⟩ = false) := by
  refine ⟨⟨?_, ?_, ?_, ?_, ?_⟩, free_heap h _, free_heap h _, free_heap h _, free_heap h _, free_heap h _⟩
  all_goals rw [cell_heap h]; rfl
theorem own_nilI {w : World} {B b : Nat} (h : w.heap[b]? = some (.cells #[] 2 (0, 0))) (hB : B ≤ b) : OwnI w B 2 (.slice (some ⟨b, 0, none⟩) 0 0) [] :=
  ⟨rfl, .inr ⟨b, 0, _, rfl, hB, h, Nat.le_refl _, by unfold maxLen; omega, rfl, rfl⟩⟩
theorem own_newI (w : World) (B : Nat) (hB : B ≤ w.heap.size) (b : Nat) (hb : b = w.heap.size) : OwnI (w.alloc (.cells #[] 2)) B 2 (.slice (some ⟨b, 0, none⟩) 0 0) [] := by
  subst hb
  exact ⟨rfl, .inr ⟨w.heap.size, 0, _, rfl, hB, heap_new _ _, Nat.le_refl _, by unfold maxLen; omega, rfl, rfl⟩⟩
theorem mkI1 (w : World) : OwnI (w.alloc (.cells #[] 2)).drew w.heap.size 2 (.slice (some ⟨w.heap.size, 0, none⟩) 0 0) [] ∧ Below w.heap.size w (w.alloc (.cells #[] 2)).drew ∧ True :=
  ⟨rows_heap (own_newI w _ (Nat.le_refl _) _ rfl) rfl, below_drew ((Below.refl _ _).alloc (Nat.le_refl _) _) 1, trivial⟩
theorem mkI2 (w : World) (y : Array Value) : OwnI ((w.alloc (.cells #[] 2)).alloc (.cells y 49)).drew w.heap.size 2 (.slice (some ⟨w.heap.size, 0, none⟩) 0 0) [] ∧ Below w.heap.size w ((w.alloc (.cells #[] 2)).alloc (.cells y 49)).drew ∧ ((w.alloc (.cells #[] 2)).alloc (.cells y 49)).drew.heap[w.heap.size + 1]? = some (.cells y 49 (0, 0)) :=
  ⟨rows_heap (rows_below (own_newI w _ (Nat.le_refl _) _ rfl) ((Below.refl _ _).alloc (Nat.le_refl _) _)) rfl, below_drew (((Below.refl _ _).alloc (Nat.le_refl _) _).alloc (by simp) _) 1, by
    have := heap_new (w.alloc (.cells #[] 2)) (.cells y 49)
    rw [show (w.alloc (.cells #[] 2)).heap.size = w.heap.size + 1 by simp] at this
    exact this⟩
theorem mkI3 (w : World) (y : Array Value) : OwnI ((w.alloc (.cells y 49)).alloc (.cells #[] 2)).drew w.heap.size 2 (.slice (some ⟨w.heap.size + 1, 0, none⟩) 0 0) [] ∧ Below w.heap.size w ((w.alloc (.cells y 49)).alloc (.cells #[] 2)).drew ∧ ((w.alloc (.cells y 49)).alloc (.cells #[] 2)).drew.heap[w.heap.size]? = some (.cells y 49 (0, 0)) :=
  ⟨rows_heap (own_newI (w.alloc (.cells y 49)) w.heap.size (by simp) _ (by simp)) rfl, below_drew (((Below.refl _ _).alloc (Nat.le_refl _) _).alloc (by simp) _) 1, heap_old (heap_new _ _) _⟩
section
variable {w : World} {base d : Nat} {s : Nt} {es : List ((Int × Int) × Bool)}
theorem IsDoc.heapw {w' : World} (h : IsDoc w base d s es) (hb : Below w.heap.size w w') : IsDoc w' base d s es := h.below hb
set_option maxHeartbeats 8000000 in
set_option maxRecDepth 20000 in
theorem send_doc (h : IsDoc w base d s es) (m : Mg) (v u : Value) (hm : IsM w m v u) (hl : LightM m) (hnn : s.nodes ≤ 64) (hrm : s.room ≤ 65536) (hbs : base ≤ w.heap.size) :
    Calls Try.prog 17 #[.pointer (some ⟨d, 0, none⟩), aggM m v u] w fun e w' => e = .returned (.bool (goes s es m)) ∧ IsDoc w' base d (sendOne s es m) es ∧ Only [d] w w' := by
  obtain ⟨⟨ao, cN, rfl, hi⟩, ⟨bo, cB, rfl, hb⟩⟩ := hm
  have HI := Lib.hid hi; have HB := Lib.hid hb; have HL := Lib.hid hl; have HD := Lib.hid h
  clear hi hb hl h
  cases m with
  | mk mf mt mk ns bs =>
  simp only [aggM, cellsM] at *
  have HBX := Lib.hid (heap_new w (.cells #[.int .i64 mf, .int .i64 mt, .int .i64 mk, .slice ao ns.length cN, .slice bo bs.length cB] 49))
  have HBW : Hid (Below w.heap.size w (w.alloc (.cells #[.int .i64 mf, .int .i64 mt, .int .i64 mk, .slice ao ns.length cN, .slice bo bs.length cB] 49))) := Lib.hid ((Below.refl _ _).alloc (Nat.le_refl _) _)
  have HWS : Hid ((w.alloc (.cells #[.int .i64 mf, .int .i64 mt, .int .i64 mk, .slice ao ns.length cN, .slice bo bs.length cB] 49)).heap.size = w.heap.size + 1) := Lib.hid (by simp)
  go_enter Try.func17, Try.ntmps17
  go_upto_region 1 with (fail)
  generalize hWW : w.alloc (.cells #[.int .i64 mf, .int .i64 mt, .int .i64 mk, .slice ao ns.length cN, .slice bo bs.length cB] 49) = W at *
  clear hWW
  have HDW : Hid (IsDoc W base d s es) := Lib.hid (HD.out.below HBW.out)
  generalize hXX : w.heap.size = X at *
  have HXX := Lib.hid hXX; clear hXX
  have hx0 : W.cell? ⟨X, 0, none⟩ = some (.int .i64 mf) := by rw [cell_heap HBX.out]; rfl
  have hx1 : W.cell? ⟨X, 1, none⟩ = some (.int .i64 mt) := by rw [cell_heap HBX.out]; rfl
  go_cut [42] (fun u wx => u = .bool (!goes s es ⟨mf, mt, mk, ns, bs⟩) ∧ Below W.heap.size W wx)
  case first =>
    have HF : Hid (∀ w', Below W.heap.size W w' → Calls Try.prog 30 #[.pointer (some ⟨d, 0, none⟩), .int .i64 mf] w' fun e w'' => e = .returned (.bool (isNode s mf)) ∧ w' = w'') := Lib.hid fun w' hb => node_doc (HDW.out.below hb) mf
    have HTO : Hid (∀ w', Below W.heap.size W w' → Calls Try.prog 30 #[.pointer (some ⟨d, 0, none⟩), .int .i64 mt] w' fun e w'' => e = .returned (.bool (isNode s mt)) ∧ w' = w'') := Lib.hid fun w' hb => node_doc (HDW.out.below hb) mt
    have hgoes : goes s es ⟨mf, mt, mk, ns, bs⟩ = (isNode s mf && (isNode s mt && (!cutOf es (way mf mt) && decide ((s.l.length : Int) < s.room)))) := rfl
    have hxy : isNode s mf = true → isNode s mt = true → ∃ x y : Nat, mf = x ∧ mt = y ∧ x < 64 ∧ y < 64 := by
      intro hx hy
      unfold isNode at hx hy
      simp only [Bool.and_eq_true, decide_eq_true_eq] at hx hy
      exact ⟨mf.toNat, mt.toNat, by omega, by omega, by omega, by omega⟩
    generalize hA : isNode s mf = bA at *
    generalize hB : isNode s mt = bB at *
    have HGO := Lib.hid hgoes
    clear hA hB hgoes
    cases bA with
    | false =>
      have hgo : goes s es ⟨mf, mt, mk, ns, bs⟩ = false := by rw [HGO.out]; rfl
      clear hxy
      refine wp_region_held_drew (S := fun w' => w'.cell? ⟨X, 0, none⟩ = some (.int .i64 mf) ∧ w'.cell? ⟨X, 1, none⟩ = some (.int .i64 mt)) (by kernel_rfl) ⟨hx0, hx1⟩ (fun hHeld => ?_)
      refine wpAnyH_take (i := 0) (oi := { dst := some 7, op := Op.move (Operand.tmp 0), type := 39, pos := _, after := #[], guard := none }) (v := ?_) rfl (by kernel_rfl) (by kernel_rfl) (by kernel_rfl) (fun _ _ _ h => h) (Or.inl ⟨by rfl, ?_⟩) (by exact hHeld) ?_
      rotate_left
      · (intro w hSw; (try dsimp only at hSw); go_simp <;> with_reducible rfl)
      try simp only [Act.put, List.setIfInBounds_toArray, List.set_cons_zero, List.set_cons_succ]
      refine wpAnyH_take (i := 1) (oi := { dst := some 8, op := Op.fieldAddr 49 (Operand.tmp 3) 0, type := 0, pos := _, after := #[], guard := none }) (v := ?_) rfl (by kernel_rfl) (by kernel_rfl) (by kernel_rfl) (fun _ _ _ h => h) (Or.inl ⟨by rfl, ?_⟩) (by exact hHeld) ?_
      rotate_left
      · (intro w hSw; (try dsimp only at hSw); go_simp <;> with_reducible rfl)
      try simp only [Act.put, List.setIfInBounds_toArray, List.set_cons_zero, List.set_cons_succ]
      refine wpAnyH_take (i := 2) (oi := { dst := some 9, op := Op.load 3 (Operand.tmp 8), type := 3, pos := _, after := #[{ on := 1, ground := Ground.data }], guard := none }) (v := ?_) rfl (by kernel_rfl) (by kernel_rfl) (by kernel_rfl) (fun _ _ _ h => h) (Or.inl ⟨by rfl, ?_⟩) (by exact hHeld) ?_
      rotate_left
      · (intro w hSw; (try dsimp only at hSw); go_simp <;> with_reducible rfl)
      try simp only [Act.put, List.setIfInBounds_toArray, List.set_cons_zero, List.set_cons_succ]
      refine wpAnyH_ready (rs := [3]) (by kernel_rfl) (by simp) ?_
      refine AllReadyH.cons (o := { dst := some 10, op := Op.call { callee := Callee.value (Operand.func 30), args := #[Operand.tmp 7, Operand.tmp 9], argTypes := #[39, 3] }, type := 4, pos := _, after := #[{ on := 0, ground := Ground.data }, { on := 2, ground := Ground.data }], guard := none }) rfl (fun K hK => ?_) AllReadyH.nil
      go_simp
      refine (HF.out _ (by exact below_drew (Below.refl W.heap.size W) 1)).mono ?_
      rintro e w1 ⟨rfl, rfl⟩
      go_wp2_with fail
      refine hK.out _ _ hHeld (fun hHeld => ?_)
      clear hK K
      try simp only [Act.put, List.setIfInBounds_toArray, List.set_cons_zero, List.set_cons_succ]
      refine wpAnyH_take (i := 4) (oi := { dst := some 11, op := Op.unOp UnOp.not 4 (Operand.tmp 10), type := 4, pos := _, after := #[{ on := 3, ground := Ground.data }], guard := none }) (v := ?_) rfl (by kernel_rfl) (by kernel_rfl) (by kernel_rfl) (fun _ _ _ h => h) (Or.inl ⟨by rfl, ?_⟩) (by exact hHeld) ?_
      rotate_left
      · (intro w hSw; (try dsimp only at hSw); go_simp <;> with_reducible rfl)
      try simp only [Act.put, List.setIfInBounds_toArray, List.set_cons_zero, List.set_cons_succ]
      refine wpAnyH_take (i := 5) (oi := { dst := some 12, op := Op.move (Operand.tmp 11), type := 4, pos := _, after := #[{ on := 4, ground := Ground.data }, { on := 3, ground := Ground.chain }], guard := none }) (v := ?_) rfl (by kernel_rfl) (by kernel_rfl) (by kernel_rfl) (fun _ _ _ h => h) (Or.inl ⟨by rfl, ?_⟩) (by exact hHeld) ?_
      rotate_left
      · (intro w hSw; (try dsimp only at hSw); go_simp <;> with_reducible rfl)
      try simp only [Act.put, List.setIfInBounds_toArray, List.set_cons_zero, List.set_cons_succ]
      refine wpAnyH_take (i := 6) (oi := { dst := some 13, op := Op.move (Operand.tmp 0), type := 39, pos := _, after := #[{ on := 5, ground := Ground.guard }], guard := some (5, false) }) (v := undef) rfl (by kernel_rfl) (by kernel_rfl) (by kernel_rfl) (fun _ _ _ h => h) (Or.inr ⟨by rfl, rfl⟩) (by exact hHeld) ?_
      try simp only [Act.put, List.setIfInBounds_toArray, List.set_cons_zero, List.set_cons_succ]
      refine wpAnyH_take (i := 7) (oi := { dst := some 14, op := Op.fieldAddr 49 (Operand.tmp 3) 1, type := 0, pos := _, after := #[{ on := 5, ground := Ground.guard }], guard := some (5, false) }) (v := undef) rfl (by kernel_rfl) (by kernel_rfl) (by kernel_rfl) (fun _ _ _ h => h) (Or.inr ⟨by rfl, rfl⟩) (by exact hHeld) ?_
      try simp only [Act.put, List.setIfInBounds_toArray, List.set_cons_zero, List.set_cons_succ]
      refine wpAnyH_take (i := 8) (oi := { dst := some 15, op := Op.load 3 (Operand.tmp 14), type := 3, pos := _, after := #[{ on := 7, ground := Ground.data }, { on := 5, ground := Ground.guard }], guard := some (5, false) }) (v := undef) rfl (by kernel_rfl) (by kernel_rfl) (by kernel_rfl) (fun _ _ _ h => h) (Or.inr ⟨by rfl, rfl⟩) (by exact hHeld) ?_
      try simp only [Act.put, List.setIfInBounds_toArray, List.set_cons_zero, List.set_cons_succ]
      refine wpAnyH_take (i := 9) (oi := { dst := some 16, op := Op.call { callee := Callee.value (Operand.func 30), args := #[Operand.tmp 13, Operand.tmp 15], argTypes := #[39, 3] }, type := 4, pos := _, after := #[{ on := 6, ground := Ground.data }, { on := 8, ground := Ground.data }, { on := 5, ground := Ground.chain }, { on := 5, ground := Ground.guard }], guard := some (5, false) }) (v := undef) rfl (by kernel_rfl) (by kernel_rfl) (by kernel_rfl) (fun _ _ _ h => h) (Or.inr ⟨by rfl, rfl⟩) (by exact hHeld) ?_
      try simp only [Act.put, List.setIfInBounds_toArray, List.set_cons_zero, List.set_cons_succ]
      refine wpAnyH_take (i := 10) (oi := { dst := some 17, op := Op.unOp UnOp.not 4 (Operand.tmp 16), type := 4, pos := _, after := #[{ on := 9, ground := Ground.data }, { on := 5, ground := Ground.guard }], guard := some (5, false) }) (v := undef) rfl (by kernel_rfl) (by kernel_rfl) (by kernel_rfl) (fun _ _ _ h => h) (Or.inr ⟨by rfl, rfl⟩) (by exact hHeld) ?_
      try simp only [Act.put, List.setIfInBounds_toArray, List.set_cons_zero, List.set_cons_succ]
      refine wpAnyH_take (i := 11) (oi := { dst := some 18, op := Op.pick (Operand.tmp 12) (Operand.const (Value.bool true)) (Operand.tmp 17), type := 4, pos := _, after := #[{ on := 5, ground := Ground.data }, { on := 10, ground := Ground.data }], guard := none }) (v := ?_) rfl (by kernel_rfl) (by kernel_rfl) (by kernel_rfl) (fun _ _ _ h => h) (Or.inl ⟨by rfl, ?_⟩) (by exact hHeld) ?_
      rotate_left
      · (intro w hSw; (try dsimp only at hSw); go_simp <;> with_reducible rfl)
      try simp only [Act.put, List.setIfInBounds_toArray, List.set_cons_zero, List.set_cons_succ]
      refine wpAnyH_take (i := 12) (oi := { dst := some 19, op := Op.move (Operand.tmp 18), type := 4, pos := _, after := #[{ on := 11, ground := Ground.data }, { on := 9, ground := Ground.chain }], guard := none }) (v := ?_) rfl (by kernel_rfl) (by kernel_rfl) (by kernel_rfl) (fun _ _ _ h => h) (Or.inl ⟨by rfl, ?_⟩) (by exact hHeld) ?_
      rotate_left
      · (intro w hSw; (try dsimp only at hSw); go_simp <;> with_reducible rfl)
      try simp only [Act.put, List.setIfInBounds_toArray, List.set_cons_zero, List.set_cons_succ]
      refine wpAnyH_take (i := 13) (oi := { dst := some 20, op := Op.move (Operand.tmp 0), type := 39, pos := _, after := #[{ on := 12, ground := Ground.guard }], guard := some (12, false) }) (v := undef) rfl (by kernel_rfl) (by kernel_rfl) (by kernel_rfl) (fun _ _ _ h => h) (Or.inr ⟨by rfl, rfl⟩) (by exact hHeld) ?_
      try simp only [Act.put, List.setIfInBounds_toArray, List.set_cons_zero, List.set_cons_succ]
      refine wpAnyH_take (i := 14) (oi := { dst := some 21, op := Op.fieldAddr 49 (Operand.tmp 3) 0, type := 0, pos := _, after := #[{ on := 12, ground := Ground.guard }], guard := some (12, false) }) (v := undef) rfl (by kernel_rfl) (by kernel_rfl) (by kernel_rfl) (fun _ _ _ h => h) (Or.inr ⟨by rfl, rfl⟩) (by exact hHeld) ?_
      try simp only [Act.put, List.setIfInBounds_toArray, List.set_cons_zero, List.set_cons_succ]
      refine wpAnyH_take (i := 15) (oi := { dst := some 22, op := Op.load 3 (Operand.tmp 21), type := 3, pos := _, after := #[{ on := 14, ground := Ground.data }, { on := 12, ground := Ground.guard }], guard := some (12, false) }) (v := undef) rfl (by kernel_rfl) (by kernel_rfl) (by kernel_rfl) (fun _ _ _ h => h) (Or.inr ⟨by rfl, rfl⟩) (by exact hHeld) ?_
      try simp only [Act.put, List.setIfInBounds_toArray, List.set_cons_zero, List.set_cons_succ]
      refine wpAnyH_take (i := 16) (oi := { dst := some 23, op := Op.fieldAddr 49 (Operand.tmp 3) 1, type := 0, pos := _, after := #[{ on := 12, ground := Ground.guard }], guard := some (12, false) }) (v := undef) rfl (by kernel_rfl) (by kernel_rfl) (by kernel_rfl) (fun _ _ _ h => h) (Or.inr ⟨by rfl, rfl⟩) (by exact hHeld) ?_
      try simp only [Act.put, List.setIfInBounds_toArray, List.set_cons_zero, List.set_cons_succ]
      refine wpAnyH_take (i := 17) (oi := { dst := some 24, op := Op.load 3 (Operand.tmp 23), type := 3, pos := _, after := #[{ on := 16, ground := Ground.data }, { on := 12, ground := Ground.guard }], guard := some (12, false) }) (v := undef) rfl (by kernel_rfl) (by kernel_rfl) (by kernel_rfl) (fun _ _ _ h => h) (Or.inr ⟨by rfl, rfl⟩) (by exact hHeld) ?_
      try simp only [Act.put, List.setIfInBounds_toArray, List.set_cons_zero, List.set_cons_succ]
      refine wpAnyH_take (i := 18) (oi := { dst := some 25, op := Op.nilCheck (Operand.tmp 20), type := 0, pos := _, after := #[{ on := 13, ground := Ground.data }, { on := 12, ground := Ground.guard }], guard := some (12, false) }) (v := undef) rfl (by kernel_rfl) (by kernel_rfl) (by kernel_rfl) (fun _ _ _ h => h) (Or.inr ⟨by rfl, rfl⟩) (by exact hHeld) ?_
      try simp only [Act.put, List.setIfInBounds_toArray, List.set_cons_zero, List.set_cons_succ]
      refine wpAnyH_take (i := 19) (oi := { dst := some 26, op := Op.fieldAddr 44 (Operand.tmp 25) 3, type := 0, pos := _, after := #[{ on := 18, ground := Ground.data }, { on := 12, ground := Ground.guard }], guard := some (12, false) }) (v := undef) rfl (by kernel_rfl) (by kernel_rfl) (by kernel_rfl) (fun _ _ _ h => h) (Or.inr ⟨by rfl, rfl⟩) (by exact hHeld) ?_
      try simp only [Act.put, List.setIfInBounds_toArray, List.set_cons_zero, List.set_cons_succ]
      refine wpAnyH_take (i := 20) (oi := { dst := some 27, op := Op.indexAddr 42 (Operand.tmp 26) (Operand.tmp 22), type := 0, pos := _, after := #[{ on := 19, ground := Ground.data }, { on := 15, ground := Ground.data }, { on := 12, ground := Ground.guard }], guard := some (12, false) }) (v := undef) rfl (by kernel_rfl) (by kernel_rfl) (by kernel_rfl) (fun _ _ _ h => h) (Or.inr ⟨by rfl, rfl⟩) (by exact hHeld) ?_
      try simp only [Act.put, List.setIfInBounds_toArray, List.set_cons_zero, List.set_cons_succ]
      refine wpAnyH_take (i := 21) (oi := { dst := some 28, op := Op.indexAddr 41 (Operand.tmp 27) (Operand.tmp 24), type := 0, pos := _, after := #[{ on := 20, ground := Ground.data }, { on := 17, ground := Ground.data }, { on := 12, ground := Ground.guard }], guard := some (12, false) }) (v := undef) rfl (by kernel_rfl) (by kernel_rfl) (by kernel_rfl) (fun _ _ _ h => h) (Or.inr ⟨by rfl, rfl⟩) (by exact hHeld) ?_
      try simp only [Act.put, List.setIfInBounds_toArray, List.set_cons_zero, List.set_cons_succ]
      refine wpAnyH_take (i := 22) (oi := { dst := some 29, op := Op.load 4 (Operand.tmp 28), type := 4, pos := _, after := #[{ on := 21, ground := Ground.data }, { on := 12, ground := Ground.guard }], guard := some (12, false) }) (v := undef) rfl (by kernel_rfl) (by kernel_rfl) (by kernel_rfl) (fun _ _ _ h => h) (Or.inr ⟨by rfl, rfl⟩) (by exact hHeld) ?_
      try simp only [Act.put, List.setIfInBounds_toArray, List.set_cons_zero, List.set_cons_succ]
      refine wpAnyH_take (i := 23) (oi := { dst := some 30, op := Op.pick (Operand.tmp 19) (Operand.const (Value.bool true)) (Operand.tmp 29), type := 4, pos := _, after := #[{ on := 12, ground := Ground.data }, { on := 22, ground := Ground.data }], guard := none }) (v := ?_) rfl (by kernel_rfl) (by kernel_rfl) (by kernel_rfl) (fun _ _ _ h => h) (Or.inl ⟨by rfl, ?_⟩) (by exact hHeld) ?_
      rotate_left
      · (intro w hSw; (try dsimp only at hSw); go_simp <;> with_reducible rfl)
      try simp only [Act.put, List.setIfInBounds_toArray, List.set_cons_zero, List.set_cons_succ]
      refine wpAnyH_take (i := 24) (oi := { dst := some 31, op := Op.move (Operand.tmp 30), type := 4, pos := _, after := #[{ on := 23, ground := Ground.data }, { on := 12, ground := Ground.chain }], guard := none }) (v := ?_) rfl (by kernel_rfl) (by kernel_rfl) (by kernel_rfl) (fun _ _ _ h => h) (Or.inl ⟨by rfl, ?_⟩) (by exact hHeld) ?_
      rotate_left
      · (intro w hSw; (try dsimp only at hSw); go_simp <;> with_reducible rfl)
      try simp only [Act.put, List.setIfInBounds_toArray, List.set_cons_zero, List.set_cons_succ]
      refine wpAnyH_take (i := 25) (oi := { dst := some 32, op := Op.move (Operand.tmp 0), type := 39, pos := _, after := #[{ on := 24, ground := Ground.guard }], guard := some (24, false) }) (v := undef) rfl (by kernel_rfl) (by kernel_rfl) (by kernel_rfl) (fun _ _ _ h => h) (Or.inr ⟨by rfl, rfl⟩) (by exact hHeld) ?_
      try simp only [Act.put, List.setIfInBounds_toArray, List.set_cons_zero, List.set_cons_succ]
      refine wpAnyH_take (i := 26) (oi := { dst := some 33, op := Op.nilCheck (Operand.tmp 32), type := 0, pos := _, after := #[{ on := 25, ground := Ground.data }, { on := 24, ground := Ground.guard }], guard := some (24, false) }) (v := undef) rfl (by kernel_rfl) (by kernel_rfl) (by kernel_rfl) (fun _ _ _ h => h) (Or.inr ⟨by rfl, rfl⟩) (by exact hHeld) ?_
      try simp only [Act.put, List.setIfInBounds_toArray, List.set_cons_zero, List.set_cons_succ]
      refine wpAnyH_take (i := 27) (oi := { dst := some 34, op := Op.fieldAddr 44 (Operand.tmp 33) 2, type := 0, pos := _, after := #[{ on := 26, ground := Ground.data }, { on := 24, ground := Ground.guard }], guard := some (24, false) }) (v := undef) rfl (by kernel_rfl) (by kernel_rfl) (by kernel_rfl) (fun _ _ _ h => h) (Or.inr ⟨by rfl, rfl⟩) (by exact hHeld) ?_
      try simp only [Act.put, List.setIfInBounds_toArray, List.set_cons_zero, List.set_cons_succ]
      refine wpAnyH_take (i := 28) (oi := { dst := some 35, op := Op.load 40 (Operand.tmp 34), type := 40, pos := _, after := #[{ on := 27, ground := Ground.data }, { on := 24, ground := Ground.guard }], guard := some (24, false) }) (v := undef) rfl (by kernel_rfl) (by kernel_rfl) (by kernel_rfl) (fun _ _ _ h => h) (Or.inr ⟨by rfl, rfl⟩) (by exact hHeld) ?_
      try simp only [Act.put, List.setIfInBounds_toArray, List.set_cons_zero, List.set_cons_succ]
      refine wpAnyH_take (i := 29) (oi := { dst := some 36, op := Op.call { callee := Callee.builtin Builtin.len, args := #[Operand.tmp 35], argTypes := #[40] }, type := 3, pos := _, after := #[{ on := 28, ground := Ground.data }, { on := 24, ground := Ground.guard }], guard := some (24, false) }) (v := undef) rfl (by kernel_rfl) (by kernel_rfl) (by kernel_rfl) (fun _ _ _ h => h) (Or.inr ⟨by rfl, rfl⟩) (by exact hHeld) ?_
      try simp only [Act.put, List.setIfInBounds_toArray, List.set_cons_zero, List.set_cons_succ]
      refine wpAnyH_take (i := 30) (oi := { dst := some 37, op := Op.move (Operand.tmp 0), type := 39, pos := _, after := #[{ on := 24, ground := Ground.guard }], guard := some (24, false) }) (v := undef) rfl (by kernel_rfl) (by kernel_rfl) (by kernel_rfl) (fun _ _ _ h => h) (Or.inr ⟨by rfl, rfl⟩) (by exact hHeld) ?_
      try simp only [Act.put, List.setIfInBounds_toArray, List.set_cons_zero, List.set_cons_succ]
      refine wpAnyH_take (i := 31) (oi := { dst := some 38, op := Op.nilCheck (Operand.tmp 37), type := 0, pos := _, after := #[{ on := 30, ground := Ground.data }, { on := 24, ground := Ground.guard }], guard := some (24, false) }) (v := undef) rfl (by kernel_rfl) (by kernel_rfl) (by kernel_rfl) (fun _ _ _ h => h) (Or.inr ⟨by rfl, rfl⟩) (by exact hHeld) ?_
      try simp only [Act.put, List.setIfInBounds_toArray, List.set_cons_zero, List.set_cons_succ]
      refine wpAnyH_take (i := 32) (oi := { dst := some 39, op := Op.fieldAddr 44 (Operand.tmp 38) 1, type := 0, pos := _, after := #[{ on := 31, ground := Ground.data }, { on := 24, ground := Ground.guard }], guard := some (24, false) }) (v := undef) rfl (by kernel_rfl) (by kernel_rfl) (by kernel_rfl) (fun _ _ _ h => h) (Or.inr ⟨by rfl, rfl⟩) (by exact hHeld) ?_
      try simp only [Act.put, List.setIfInBounds_toArray, List.set_cons_zero, List.set_cons_succ]
      refine wpAnyH_take (i := 33) (oi := { dst := some 40, op := Op.load 3 (Operand.tmp 39), type := 3, pos := _, after := #[{ on := 32, ground := Ground.data }, { on := 24, ground := Ground.guard }], guard := some (24, false) }) (v := undef) rfl (by kernel_rfl) (by kernel_rfl) (by kernel_rfl) (fun _ _ _ h => h) (Or.inr ⟨by rfl, rfl⟩) (by exact hHeld) ?_
      try simp only [Act.put, List.setIfInBounds_toArray, List.set_cons_zero, List.set_cons_succ]
      refine wpAnyH_take (i := 34) (oi := { dst := some 41, op := Op.binOp BinOp.geq 3 (Operand.tmp 36) (Operand.tmp 40) 3, type := 4, pos := _, after := #[{ on := 29, ground := Ground.data }, { on := 33, ground := Ground.data }, { on := 24, ground := Ground.guard }], guard := some (24, false) }) (v := undef) rfl (by kernel_rfl) (by kernel_rfl) (by kernel_rfl) (fun _ _ _ h => h) (Or.inr ⟨by rfl, rfl⟩) (by exact hHeld) ?_
      try simp only [Act.put, List.setIfInBounds_toArray, List.set_cons_zero, List.set_cons_succ]
      refine wpAnyH_take (i := 35) (oi := { dst := some 42, op := Op.pick (Operand.tmp 31) (Operand.const (Value.bool true)) (Operand.tmp 41), type := 4, pos := _, after := #[{ on := 24, ground := Ground.data }, { on := 34, ground := Ground.data }], guard := none }) (v := ?_) rfl (by kernel_rfl) (by kernel_rfl) (by kernel_rfl) (fun _ _ _ h => h) (Or.inl ⟨by rfl, ?_⟩) (by exact hHeld) ?_
      rotate_left
      · (intro w hSw; (try dsimp only at hSw); go_simp <;> with_reducible rfl)
      try simp only [Act.put, List.setIfInBounds_toArray, List.set_cons_zero, List.set_cons_succ]
      refine wpAnyH_done (by kernel_rfl) ?_ _
      go_wp2_with fail
      go_meet
      exact ⟨by rw [hgo]; rfl, below_drew (Below.refl W.heap.size W) 1⟩
    | true =>
    cases bB with
    | false =>
      have hgo : goes s es ⟨mf, mt, mk, ns, bs⟩ = false := by rw [HGO.out]; rfl
      clear hxy
      refine wp_region_held_drew (S := fun w' => w'.cell? ⟨X, 0, none⟩ = some (.int .i64 mf) ∧ w'.cell? ⟨X, 1, none⟩ = some (.int .i64 mt)) (by kernel_rfl) ⟨hx0, hx1⟩ (fun hHeld => ?_)
      refine wpAnyH_take (i := 0) (oi := { dst := some 7, op := Op.move (Operand.tmp 0), type := 39, pos := _, after := #[], guard := none }) (v := ?_) rfl (by kernel_rfl) (by kernel_rfl) (by kernel_rfl) (fun _ _ _ h => h) (Or.inl ⟨by rfl, ?_⟩) (by exact hHeld) ?_
      rotate_left
      · (intro w hSw; (try dsimp only at hSw); go_simp <;> with_reducible rfl)
      try simp only [Act.put, List.setIfInBounds_toArray, List.set_cons_zero, List.set_cons_succ]
      refine wpAnyH_take (i := 1) (oi := { dst := some 8, op := Op.fieldAddr 49 (Operand.tmp 3) 0, type := 0, pos := _, after := #[], guard := none }) (v := ?_) rfl (by kernel_rfl) (by kernel_rfl) (by kernel_rfl) (fun _ _ _ h => h) (Or.inl ⟨by rfl, ?_⟩) (by exact hHeld) ?_
      rotate_left
      · (intro w hSw; (try dsimp only at hSw); go_simp <;> with_reducible rfl)
      try simp only [Act.put, List.setIfInBounds_toArray, List.set_cons_zero, List.set_cons_succ]
      refine wpAnyH_take (i := 2) (oi := { dst := some 9, op := Op.load 3 (Operand.tmp 8), type := 3, pos := _, after := #[{ on := 1, ground := Ground.data }], guard := none }) (v := ?_) rfl (by kernel_rfl) (by kernel_rfl) (by kernel_rfl) (fun _ _ _ h => h) (Or.inl ⟨by rfl, ?_⟩) (by exact hHeld) ?_
      rotate_left
      · (intro w hSw; (try dsimp only at hSw); go_simp <;> with_reducible rfl)
      try simp only [Act.put, List.setIfInBounds_toArray, List.set_cons_zero, List.set_cons_succ]
      refine wpAnyH_ready (rs := [3]) (by kernel_rfl) (by simp) ?_
      refine AllReadyH.cons (o := { dst := some 10, op := Op.call { callee := Callee.value (Operand.func 30), args := #[Operand.tmp 7, Operand.tmp 9], argTypes := #[39, 3] }, type := 4, pos := _, after := #[{ on := 0, ground := Ground.data }, { on := 2, ground := Ground.data }], guard := none }) rfl (fun K hK => ?_) AllReadyH.nil
      go_simp
      refine (HF.out _ (by exact below_drew (Below.refl W.heap.size W) 1)).mono ?_
      rintro e w1 ⟨rfl, rfl⟩
      go_wp2_with fail
      refine hK.out _ _ hHeld (fun hHeld => ?_)
      clear hK K
      try simp only [Act.put, List.setIfInBounds_toArray, List.set_cons_zero, List.set_cons_succ]
      refine wpAnyH_take (i := 4) (oi := { dst := some 11, op := Op.unOp UnOp.not 4 (Operand.tmp 10), type := 4, pos := _, after := #[{ on := 3, ground := Ground.data }], guard := none }) (v := ?_) rfl (by kernel_rfl) (by kernel_rfl) (by kernel_rfl) (fun _ _ _ h => h) (Or.inl ⟨by rfl, ?_⟩) (by exact hHeld) ?_
      rotate_left
      · (intro w hSw; (try dsimp only at hSw); go_simp <;> with_reducible rfl)
      try simp only [Act.put, List.setIfInBounds_toArray, List.set_cons_zero, List.set_cons_succ]
      refine wpAnyH_take (i := 5) (oi := { dst := some 12, op := Op.move (Operand.tmp 11), type := 4, pos := _, after := #[{ on := 4, ground := Ground.data }, { on := 3, ground := Ground.chain }], guard := none }) (v := ?_) rfl (by kernel_rfl) (by kernel_rfl) (by kernel_rfl) (fun _ _ _ h => h) (Or.inl ⟨by rfl, ?_⟩) (by exact hHeld) ?_
      rotate_left
      · (intro w hSw; (try dsimp only at hSw); go_simp <;> with_reducible rfl)
      try simp only [Act.put, List.setIfInBounds_toArray, List.set_cons_zero, List.set_cons_succ]
      refine wpAnyH_take (i := 6) (oi := { dst := some 13, op := Op.move (Operand.tmp 0), type := 39, pos := _, after := #[{ on := 5, ground := Ground.guard }], guard := some (5, false) }) (v := ?_) rfl (by kernel_rfl) (by kernel_rfl) (by kernel_rfl) (fun _ _ _ h => h) (Or.inl ⟨by rfl, ?_⟩) (by exact hHeld) ?_
      rotate_left
      · (intro w hSw; (try dsimp only at hSw); go_simp <;> with_reducible rfl)
      try simp only [Act.put, List.setIfInBounds_toArray, List.set_cons_zero, List.set_cons_succ]
      refine wpAnyH_take (i := 7) (oi := { dst := some 14, op := Op.fieldAddr 49 (Operand.tmp 3) 1, type := 0, pos := _, after := #[{ on := 5, ground := Ground.guard }], guard := some (5, false) }) (v := ?_) rfl (by kernel_rfl) (by kernel_rfl) (by kernel_rfl) (fun _ _ _ h => h) (Or.inl ⟨by rfl, ?_⟩) (by exact hHeld) ?_
      rotate_left
      · (intro w hSw; (try dsimp only at hSw); go_simp <;> with_reducible rfl)
      try simp only [Act.put, List.setIfInBounds_toArray, List.set_cons_zero, List.set_cons_succ]
      refine wpAnyH_take (i := 8) (oi := { dst := some 15, op := Op.load 3 (Operand.tmp 14), type := 3, pos := _, after := #[{ on := 7, ground := Ground.data }, { on := 5, ground := Ground.guard }], guard := some (5, false) }) (v := ?_) rfl (by kernel_rfl) (by kernel_rfl) (by kernel_rfl) (fun _ _ _ h => h) (Or.inl ⟨by rfl, ?_⟩) (by exact hHeld) ?_
      rotate_left
      · (intro w hSw; (try dsimp only at hSw); go_simp <;> with_reducible rfl)
      try simp only [Act.put, List.setIfInBounds_toArray, List.set_cons_zero, List.set_cons_succ]
      refine wpAnyH_ready (rs := [9]) (by kernel_rfl) (by simp) ?_
      refine AllReadyH.cons (o := { dst := some 16, op := Op.call { callee := Callee.value (Operand.func 30), args := #[Operand.tmp 13, Operand.tmp 15], argTypes := #[39, 3] }, type := 4, pos := _, after := #[{ on := 6, ground := Ground.data }, { on := 8, ground := Ground.data }, { on := 5, ground := Ground.chain }, { on := 5, ground := Ground.guard }], guard := some (5, false) }) rfl (fun K hK => ?_) AllReadyH.nil
      go_simp
      refine (HTO.out _ (by exact below_drew (Below.refl W.heap.size W) 1)).mono ?_
      rintro e w1 ⟨rfl, rfl⟩
      go_wp2_with fail
      refine hK.out _ _ hHeld (fun hHeld => ?_)
      clear hK K
      try simp only [Act.put, List.setIfInBounds_toArray, List.set_cons_zero, List.set_cons_succ]
      refine wpAnyH_take (i := 10) (oi := { dst := some 17, op := Op.unOp UnOp.not 4 (Operand.tmp 16), type := 4, pos := _, after := #[{ on := 9, ground := Ground.data }, { on := 5, ground := Ground.guard }], guard := some (5, false) }) (v := ?_) rfl (by kernel_rfl) (by kernel_rfl) (by kernel_rfl) (fun _ _ _ h => h) (Or.inl ⟨by rfl, ?_⟩) (by exact hHeld) ?_
      rotate_left
      · (intro w hSw; (try dsimp only at hSw); go_simp <;> with_reducible rfl)
      try simp only [Act.put, List.setIfInBounds_toArray, List.set_cons_zero, List.set_cons_succ]
      refine wpAnyH_take (i := 11) (oi := { dst := some 18, op := Op.pick (Operand.tmp 12) (Operand.const (Value.bool true)) (Operand.tmp 17), type := 4, pos := _, after := #[{ on := 5, ground := Ground.data }, { on := 10, ground := Ground.data }], guard := none }) (v := ?_) rfl (by kernel_rfl) (by kernel_rfl) (by kernel_rfl) (fun _ _ _ h => h) (Or.inl ⟨by rfl, ?_⟩) (by exact hHeld) ?_
      rotate_left
      · (intro w hSw; (try dsimp only at hSw); go_simp <;> with_reducible rfl)
      try simp only [Act.put, List.setIfInBounds_toArray, List.set_cons_zero, List.set_cons_succ]
      refine wpAnyH_take (i := 12) (oi := { dst := some 19, op := Op.move (Operand.tmp 18), type := 4, pos := _, after := #[{ on := 11, ground := Ground.data }, { on := 9, ground := Ground.chain }], guard := none }) (v := ?_) rfl (by kernel_rfl) (by kernel_rfl) (by kernel_rfl) (fun _ _ _ h => h) (Or.inl ⟨by rfl, ?_⟩) (by exact hHeld) ?_
      rotate_left
      · (intro w hSw; (try dsimp only at hSw); go_simp <;> with_reducible rfl)
      try simp only [Act.put, List.setIfInBounds_toArray, List.set_cons_zero, List.set_cons_succ]
      refine wpAnyH_take (i := 13) (oi := { dst := some 20, op := Op.move (Operand.tmp 0), type := 39, pos := _, after := #[{ on := 12, ground := Ground.guard }], guard := some (12, false) }) (v := undef) rfl (by kernel_rfl) (by kernel_rfl) (by kernel_rfl) (fun _ _ _ h => h) (Or.inr ⟨by rfl, rfl⟩) (by exact hHeld) ?_
      try simp only [Act.put, List.setIfInBounds_toArray, List.set_cons_zero, List.set_cons_succ]
      refine wpAnyH_take (i := 14) (oi := { dst := some 21, op := Op.fieldAddr 49 (Operand.tmp 3) 0, type := 0, pos := _, after := #[{ on := 12, ground := Ground.guard }], guard := some (12, false) }) (v := undef) rfl (by kernel_rfl) (by kernel_rfl) (by kernel_rfl) (fun _ _ _ h => h) (Or.inr ⟨by rfl, rfl⟩) (by exact hHeld) ?_
      try simp only [Act.put, List.setIfInBounds_toArray, List.set_cons_zero, List.set_cons_succ]
      refine wpAnyH_take (i := 15) (oi := { dst := some 22, op := Op.load 3 (Operand.tmp 21), type := 3, pos := _, after := #[{ on := 14, ground := Ground.data }, { on := 12, ground := Ground.guard }], guard := some (12, false) }) (v := undef) rfl (by kernel_rfl) (by kernel_rfl) (by kernel_rfl) (fun _ _ _ h => h) (Or.inr ⟨by rfl, rfl⟩) (by exact hHeld) ?_
      try simp only [Act.put, List.setIfInBounds_toArray, List.set_cons_zero, List.set_cons_succ]
      refine wpAnyH_take (i := 16) (oi := { dst := some 23, op := Op.fieldAddr 49 (Operand.tmp 3) 1, type := 0, pos := _, after := #[{ on := 12, ground := Ground.guard }], guard := some (12, false) }) (v := undef) rfl (by kernel_rfl) (by kernel_rfl) (by kernel_rfl) (fun _ _ _ h => h) (Or.inr ⟨by rfl, rfl⟩) (by exact hHeld) ?_
      try simp only [Act.put, List.setIfInBounds_toArray, List.set_cons_zero, List.set_cons_succ]
      refine wpAnyH_take (i := 17) (oi := { dst := some 24, op := Op.load 3 (Operand.tmp 23), type := 3, pos := _, after := #[{ on := 16, ground := Ground.data }, { on := 12, ground := Ground.guard }], guard := some (12, false) }) (v := undef) rfl (by kernel_rfl) (by kernel_rfl) (by kernel_rfl) (fun _ _ _ h => h) (Or.inr ⟨by rfl, rfl⟩) (by exact hHeld) ?_
      try simp only [Act.put, List.setIfInBounds_toArray, List.set_cons_zero, List.set_cons_succ]
      refine wpAnyH_take (i := 18) (oi := { dst := some 25, op := Op.nilCheck (Operand.tmp 20), type := 0, pos := _, after := #[{ on := 13, ground := Ground.data }, { on := 12, ground := Ground.guard }], guard := some (12, false) }) (v := undef) rfl (by kernel_rfl) (by kernel_rfl) (by kernel_rfl) (fun _ _ _ h => h) (Or.inr ⟨by rfl, rfl⟩) (by exact hHeld) ?_
      try simp only [Act.put, List.setIfInBounds_toArray, List.set_cons_zero, List.set_cons_succ]
      refine wpAnyH_take (i := 19) (oi := { dst := some 26, op := Op.fieldAddr 44 (Operand.tmp 25) 3, type := 0, pos := _, after := #[{ on := 18, ground := Ground.data }, { on := 12, ground := Ground.guard }], guard := some (12, false) }) (v := undef) rfl (by kernel_rfl) (by kernel_rfl) (by kernel_rfl) (fun _ _ _ h => h) (Or.inr ⟨by rfl, rfl⟩) (by exact hHeld) ?_
      try simp only [Act.put, List.setIfInBounds_toArray, List.set_cons_zero, List.set_cons_succ]
      refine wpAnyH_take (i := 20) (oi := { dst := some 27, op := Op.indexAddr 42 (Operand.tmp 26) (Operand.tmp 22), type := 0, pos := _, after := #[{ on := 19, ground := Ground.data }, { on := 15, ground := Ground.data }, { on := 12, ground := Ground.guard }], guard := some (12, false) }) (v := undef) rfl (by kernel_rfl) (by kernel_rfl) (by kernel_rfl) (fun _ _ _ h => h) (Or.inr ⟨by rfl, rfl⟩) (by exact hHeld) ?_
      try simp only [Act.put, List.setIfInBounds_toArray, List.set_cons_zero, List.set_cons_succ]
      refine wpAnyH_take (i := 21) (oi := { dst := some 28, op := Op.indexAddr 41 (Operand.tmp 27) (Operand.tmp 24), type := 0, pos := _, after := #[{ on := 20, ground := Ground.data }, { on := 17, ground := Ground.data }, { on := 12, ground := Ground.guard }], guard := some (12, false) }) (v := undef) rfl (by kernel_rfl) (by kernel_rfl) (by kernel_rfl) (fun _ _ _ h => h) (Or.inr ⟨by rfl, rfl⟩) (by exact hHeld) ?_
      try simp only [Act.put, List.setIfInBounds_toArray, List.set_cons_zero, List.set_cons_succ]
      refine wpAnyH_take (i := 22) (oi := { dst := some 29, op := Op.load 4 (Operand.tmp 28), type := 4, pos := _, after := #[{ on := 21, ground := Ground.data }, { on := 12, ground := Ground.guard }], guard := some (12, false) }) (v := undef) rfl (by kernel_rfl) (by kernel_rfl) (by kernel_rfl) (fun _ _ _ h => h) (Or.inr ⟨by rfl, rfl⟩) (by exact hHeld) ?_
      try simp only [Act.put, List.setIfInBounds_toArray, List.set_cons_zero, List.set_cons_succ]
      refine wpAnyH_take (i := 23) (oi := { dst := some 30, op := Op.pick (Operand.tmp 19) (Operand.const (Value.bool true)) (Operand.tmp 29), type := 4, pos := _, after := #[{ on := 12, ground := Ground.data }, { on := 22, ground := Ground.data }], guard := none }) (v := ?_) rfl (by kernel_rfl) (by kernel_rfl) (by kernel_rfl) (fun _ _ _ h => h) (Or.inl ⟨by rfl, ?_⟩) (by exact hHeld) ?_
      rotate_left
      · (intro w hSw; (try dsimp only at hSw); go_simp <;> with_reducible rfl)
      try simp only [Act.put, List.setIfInBounds_toArray, List.set_cons_zero, List.set_cons_succ]
      refine wpAnyH_take (i := 24) (oi := { dst := some 31, op := Op.move (Operand.tmp 30), type := 4, pos := _, after := #[{ on := 23, ground := Ground.data }, { on := 12, ground := Ground.chain }], guard := none }) (v := ?_) rfl (by kernel_rfl) (by kernel_rfl) (by kernel_rfl) (fun _ _ _ h => h) (Or.inl ⟨by rfl, ?_⟩) (by exact hHeld) ?_
      rotate_left
      · (intro w hSw; (try dsimp only at hSw); go_simp <;> with_reducible rfl)
      try simp only [Act.put, List.setIfInBounds_toArray, List.set_cons_zero, List.set_cons_succ]
      refine wpAnyH_take (i := 25) (oi := { dst := some 32, op := Op.move (Operand.tmp 0), type := 39, pos := _, after := #[{ on := 24, ground := Ground.guard }], guard := some (24, false) }) (v := undef) rfl (by kernel_rfl) (by kernel_rfl) (by kernel_rfl) (fun _ _ _ h => h) (Or.inr ⟨by rfl, rfl⟩) (by exact hHeld) ?_
      try simp only [Act.put, List.setIfInBounds_toArray, List.set_cons_zero, List.set_cons_succ]
      refine wpAnyH_take (i := 26) (oi := { dst := some 33, op := Op.nilCheck (Operand.tmp 32), type := 0, pos := _, after := #[{ on := 25, ground := Ground.data }, { on := 24, ground := Ground.guard }], guard := some (24, false) }) (v := undef) rfl (by kernel_rfl) (by kernel_rfl) (by kernel_rfl) (fun _ _ _ h => h) (Or.inr ⟨by rfl, rfl⟩) (by exact hHeld) ?_
      try simp only [Act.put, List.setIfInBounds_toArray, List.set_cons_zero, List.set_cons_succ]
      refine wpAnyH_take (i := 27) (oi := { dst := some 34, op := Op.fieldAddr 44 (Operand.tmp 33) 2, type := 0, pos := _, after := #[{ on := 26, ground := Ground.data }, { on := 24, ground := Ground.guard }], guard := some (24, false) }) (v := undef) rfl (by kernel_rfl) (by kernel_rfl) (by kernel_rfl) (fun _ _ _ h => h) (Or.inr ⟨by rfl, rfl⟩) (by exact hHeld) ?_
      try simp only [Act.put, List.setIfInBounds_toArray, List.set_cons_zero, List.set_cons_succ]
      refine wpAnyH_take (i := 28) (oi := { dst := some 35, op := Op.load 40 (Operand.tmp 34), type := 40, pos := _, after := #[{ on := 27, ground := Ground.data }, { on := 24, ground := Ground.guard }], guard := some (24, false) }) (v := undef) rfl (by kernel_rfl) (by kernel_rfl) (by kernel_rfl) (fun _ _ _ h => h) (Or.inr ⟨by rfl, rfl⟩) (by exact hHeld) ?_
      try simp only [Act.put, List.setIfInBounds_toArray, List.set_cons_zero, List.set_cons_succ]
      refine wpAnyH_take (i := 29) (oi := { dst := some 36, op := Op.call { callee := Callee.builtin Builtin.len, args := #[Operand.tmp 35], argTypes := #[40] }, type := 3, pos := _, after := #[{ on := 28, ground := Ground.data }, { on := 24, ground := Ground.guard }], guard := some (24, false) }) (v := undef) rfl (by kernel_rfl) (by kernel_rfl) (by kernel_rfl) (fun _ _ _ h => h) (Or.inr ⟨by rfl, rfl⟩) (by exact hHeld) ?_
      try simp only [Act.put, List.setIfInBounds_toArray, List.set_cons_zero, List.set_cons_succ]
      refine wpAnyH_take (i := 30) (oi := { dst := some 37, op := Op.move (Operand.tmp 0), type := 39, pos := _, after := #[{ on := 24, ground := Ground.guard }], guard := some (24, false) }) (v := undef) rfl (by kernel_rfl) (by kernel_rfl) (by kernel_rfl) (fun _ _ _ h => h) (Or.inr ⟨by rfl, rfl⟩) (by exact hHeld) ?_
      try simp only [Act.put, List.setIfInBounds_toArray, List.set_cons_zero, List.set_cons_succ]
      refine wpAnyH_take (i := 31) (oi := { dst := some 38, op := Op.nilCheck (Operand.tmp 37), type := 0, pos := _, after := #[{ on := 30, ground := Ground.data }, { on := 24, ground := Ground.guard }], guard := some (24, false) }) (v := undef) rfl (by kernel_rfl) (by kernel_rfl) (by kernel_rfl) (fun _ _ _ h => h) (Or.inr ⟨by rfl, rfl⟩) (by exact hHeld) ?_
      try simp only [Act.put, List.setIfInBounds_toArray, List.set_cons_zero, List.set_cons_succ]
      refine wpAnyH_take (i := 32) (oi := { dst := some 39, op := Op.fieldAddr 44 (Operand.tmp 38) 1, type := 0, pos := _, after := #[{ on := 31, ground := Ground.data }, { on := 24, ground := Ground.guard }], guard := some (24, false) }) (v := undef) rfl (by kernel_rfl) (by kernel_rfl) (by kernel_rfl) (fun _ _ _ h => h) (Or.inr ⟨by rfl, rfl⟩) (by exact hHeld) ?_
      try simp only [Act.put, List.setIfInBounds_toArray, List.set_cons_zero, List.set_cons_succ]
      refine wpAnyH_take (i := 33) (oi := { dst := some 40, op := Op.load 3 (Operand.tmp 39), type := 3, pos := _, after := #[{ on := 32, ground := Ground.data }, { on := 24, ground := Ground.guard }], guard := some (24, false) }) (v := undef) rfl (by kernel_rfl) (by kernel_rfl) (by kernel_rfl) (fun _ _ _ h => h) (Or.inr ⟨by rfl, rfl⟩) (by exact hHeld) ?_
      try simp only [Act.put, List.setIfInBounds_toArray, List.set_cons_zero, List.set_cons_succ]
      refine wpAnyH_take (i := 34) (oi := { dst := some 41, op := Op.binOp BinOp.geq 3 (Operand.tmp 36) (Operand.tmp 40) 3, type := 4, pos := _, after := #[{ on := 29, ground := Ground.data }, { on := 33, ground := Ground.data }, { on := 24, ground := Ground.guard }], guard := some (24, false) }) (v := undef) rfl (by kernel_rfl) (by kernel_rfl) (by kernel_rfl) (fun _ _ _ h => h) (Or.inr ⟨by rfl, rfl⟩) (by exact hHeld) ?_
      try simp only [Act.put, List.setIfInBounds_toArray, List.set_cons_zero, List.set_cons_succ]
      refine wpAnyH_take (i := 35) (oi := { dst := some 42, op := Op.pick (Operand.tmp 31) (Operand.const (Value.bool true)) (Operand.tmp 41), type := 4, pos := _, after := #[{ on := 24, ground := Ground.data }, { on := 34, ground := Ground.data }], guard := none }) (v := ?_) rfl (by kernel_rfl) (by kernel_rfl) (by kernel_rfl) (fun _ _ _ h => h) (Or.inl ⟨by rfl, ?_⟩) (by exact hHeld) ?_
      rotate_left
      · (intro w hSw; (try dsimp only at hSw); go_simp <;> with_reducible rfl)
      try simp only [Act.put, List.setIfInBounds_toArray, List.set_cons_zero, List.set_cons_succ]
      refine wpAnyH_done (by kernel_rfl) ?_ _
      go_wp2_with fail
      go_meet
      exact ⟨by rw [hgo]; rfl, below_drew (Below.refl W.heap.size W) 1⟩
    | true =>
    obtain ⟨x, y, rfl, rfl, hx64, hy64⟩ := hxy rfl rfl
    clear hxy
    obtain ⟨⟨cs, vr, ps, h1, h2, h3, h4, h5, h6, h7, h8⟩, h9⟩ := HDW.out
    obtain ⟨ao2, cap2, rfl, _, _⟩ := row_shape49 h7
    have ha1 : W.cell? ⟨d, 1, none⟩ = some (.int .i64 s.room) := by rw [cell_heap h1]; exact h4
    have ha2 : W.cell? ⟨d, 2, none⟩ = some (.slice ao2 s.l.length cap2) := by rw [cell_heap h1]; exact h5
    have ha3 : W.cell? ⟨d, 3 + x * 64 + y, none⟩ = some (.bool (cutOf es (way x y))) := by rw [cell_heap h1]; exact h6 x y hx64 hy64
    have hxi : (x : Int) < 64 := by omega
    have hyi : (y : Int) < 64 := by omega
    clear h1 h2 h3 h4 h5 h6 h7 h8 h9
    generalize hCC : cutOf es (way x y) = cb at *
    generalize hrr : s.room = room at *
    generalize htll : s.l.length = tl at *
    clear hCC hrr htll
    cases cb with
    | true =>
      have hgo : goes s es ⟨x, y, mk, ns, bs⟩ = false := by rw [HGO.out]; rfl
      refine wp_region_held_drew (S := fun w' => w'.cell? ⟨X, 0, none⟩ = some (.int .i64 (x : Int)) ∧ w'.cell? ⟨X, 1, none⟩ = some (.int .i64 (y : Int)) ∧ w'.cell? ⟨d, 1, none⟩ = some (.int .i64 room) ∧ w'.cell? ⟨d, 2, none⟩ = some (.slice ao2 tl cap2) ∧ w'.cell? ⟨d, 3 + x * 64 + y, none⟩ = some (.bool true)) (by kernel_rfl) ⟨hx0, hx1, ha1, ha2, ha3⟩ (fun hHeld => ?_)
      refine wpAnyH_take (i := 0) (oi := { dst := some 7, op := Op.move (Operand.tmp 0), type := 39, pos := _, after := #[], guard := none }) (v := ?_) rfl (by kernel_rfl) (by kernel_rfl) (by kernel_rfl) (fun _ _ _ h => h) (Or.inl ⟨by rfl, ?_⟩) (by exact hHeld) ?_
      rotate_left
      · (intro w hSw; (try dsimp only at hSw); go_simp <;> with_reducible rfl)
      try simp only [Act.put, List.setIfInBounds_toArray, List.set_cons_zero, List.set_cons_succ]
      refine wpAnyH_take (i := 1) (oi := { dst := some 8, op := Op.fieldAddr 49 (Operand.tmp 3) 0, type := 0, pos := _, after := #[], guard := none }) (v := ?_) rfl (by kernel_rfl) (by kernel_rfl) (by kernel_rfl) (fun _ _ _ h => h) (Or.inl ⟨by rfl, ?_⟩) (by exact hHeld) ?_
      rotate_left
      · (intro w hSw; (try dsimp only at hSw); go_simp <;> with_reducible rfl)
      try simp only [Act.put, List.setIfInBounds_toArray, List.set_cons_zero, List.set_cons_succ]
      refine wpAnyH_take (i := 2) (oi := { dst := some 9, op := Op.load 3 (Operand.tmp 8), type := 3, pos := _, after := #[{ on := 1, ground := Ground.data }], guard := none }) (v := ?_) rfl (by kernel_rfl) (by kernel_rfl) (by kernel_rfl) (fun _ _ _ h => h) (Or.inl ⟨by rfl, ?_⟩) (by exact hHeld) ?_
      rotate_left
      · (intro w hSw; (try dsimp only at hSw); go_simp <;> with_reducible rfl)
      try simp only [Act.put, List.setIfInBounds_toArray, List.set_cons_zero, List.set_cons_succ]
      refine wpAnyH_ready (rs := [3]) (by kernel_rfl) (by simp) ?_
      refine AllReadyH.cons (o := { dst := some 10, op := Op.call { callee := Callee.value (Operand.func 30), args := #[Operand.tmp 7, Operand.tmp 9], argTypes := #[39, 3] }, type := 4, pos := _, after := #[{ on := 0, ground := Ground.data }, { on := 2, ground := Ground.data }], guard := none }) rfl (fun K hK => ?_) AllReadyH.nil
      go_simp
      refine (HF.out _ (by exact below_drew (Below.refl W.heap.size W) 1)).mono ?_
      rintro e w1 ⟨rfl, rfl⟩
      go_wp2_with fail
      refine hK.out _ _ hHeld (fun hHeld => ?_)
      clear hK K
      try simp only [Act.put, List.setIfInBounds_toArray, List.set_cons_zero, List.set_cons_succ]
      refine wpAnyH_take (i := 4) (oi := { dst := some 11, op := Op.unOp UnOp.not 4 (Operand.tmp 10), type := 4, pos := _, after := #[{ on := 3, ground := Ground.data }], guard := none }) (v := ?_) rfl (by kernel_rfl) (by kernel_rfl) (by kernel_rfl) (fun _ _ _ h => h) (Or.inl ⟨by rfl, ?_⟩) (by exact hHeld) ?_
      rotate_left
      · (intro w hSw; (try dsimp only at hSw); go_simp <;> with_reducible rfl)
      try simp only [Act.put, List.setIfInBounds_toArray, List.set_cons_zero, List.set_cons_succ]
      refine wpAnyH_take (i := 5) (oi := { dst := some 12, op := Op.move (Operand.tmp 11), type := 4, pos := _, after := #[{ on := 4, ground := Ground.data }, { on := 3, ground := Ground.chain }], guard := none }) (v := ?_) rfl (by kernel_rfl) (by kernel_rfl) (by kernel_rfl) (fun _ _ _ h => h) (Or.inl ⟨by rfl, ?_⟩) (by exact hHeld) ?_
      rotate_left
      · (intro w hSw; (try dsimp only at hSw); go_simp <;> with_reducible rfl)
      try simp only [Act.put, List.setIfInBounds_toArray, List.set_cons_zero, List.set_cons_succ]
      refine wpAnyH_take (i := 6) (oi := { dst := some 13, op := Op.move (Operand.tmp 0), type := 39, pos := _, after := #[{ on := 5, ground := Ground.guard }], guard := some (5, false) }) (v := ?_) rfl (by kernel_rfl) (by kernel_rfl) (by kernel_rfl) (fun _ _ _ h => h) (Or.inl ⟨by rfl, ?_⟩) (by exact hHeld) ?_
      rotate_left
      · (intro w hSw; (try dsimp only at hSw); go_simp <;> with_reducible rfl)
      try simp only [Act.put, List.setIfInBounds_toArray, List.set_cons_zero, List.set_cons_succ]
      refine wpAnyH_take (i := 7) (oi := { dst := some 14, op := Op.fieldAddr 49 (Operand.tmp 3) 1, type := 0, pos := _, after := #[{ on := 5, ground := Ground.guard }], guard := some (5, false) }) (v := ?_) rfl (by kernel_rfl) (by kernel_rfl) (by kernel_rfl) (fun _ _ _ h => h) (Or.inl ⟨by rfl, ?_⟩) (by exact hHeld) ?_
      rotate_left
      · (intro w hSw; (try dsimp only at hSw); go_simp <;> with_reducible rfl)
      try simp only [Act.put, List.setIfInBounds_toArray, List.set_cons_zero, List.set_cons_succ]
      refine wpAnyH_take (i := 8) (oi := { dst := some 15, op := Op.load 3 (Operand.tmp 14), type := 3, pos := _, after := #[{ on := 7, ground := Ground.data }, { on := 5, ground := Ground.guard }], guard := some (5, false) }) (v := ?_) rfl (by kernel_rfl) (by kernel_rfl) (by kernel_rfl) (fun _ _ _ h => h) (Or.inl ⟨by rfl, ?_⟩) (by exact hHeld) ?_
      rotate_left
      · (intro w hSw; (try dsimp only at hSw); go_simp <;> with_reducible rfl)
      try simp only [Act.put, List.setIfInBounds_toArray, List.set_cons_zero, List.set_cons_succ]
      refine wpAnyH_ready (rs := [9]) (by kernel_rfl) (by simp) ?_
      refine AllReadyH.cons (o := { dst := some 16, op := Op.call { callee := Callee.value (Operand.func 30), args := #[Operand.tmp 13, Operand.tmp 15], argTypes := #[39, 3] }, type := 4, pos := _, after := #[{ on := 6, ground := Ground.data }, { on := 8, ground := Ground.data }, { on := 5, ground := Ground.chain }, { on := 5, ground := Ground.guard }], guard := some (5, false) }) rfl (fun K hK => ?_) AllReadyH.nil
      go_simp
      refine (HTO.out _ (by exact below_drew (Below.refl W.heap.size W) 1)).mono ?_
      rintro e w1 ⟨rfl, rfl⟩
      go_wp2_with fail
      refine hK.out _ _ hHeld (fun hHeld => ?_)
      clear hK K
      try simp only [Act.put, List.setIfInBounds_toArray, List.set_cons_zero, List.set_cons_succ]
      refine wpAnyH_take (i := 10) (oi := { dst := some 17, op := Op.unOp UnOp.not 4 (Operand.tmp 16), type := 4, pos := _, after := #[{ on := 9, ground := Ground.data }, { on := 5, ground := Ground.guard }], guard := some (5, false) }) (v := ?_) rfl (by kernel_rfl) (by kernel_rfl) (by kernel_rfl) (fun _ _ _ h => h) (Or.inl ⟨by rfl, ?_⟩) (by exact hHeld) ?_
      rotate_left
      · (intro w hSw; (try dsimp only at hSw); go_simp <;> with_reducible rfl)
      try simp only [Act.put, List.setIfInBounds_toArray, List.set_cons_zero, List.set_cons_succ]
      refine wpAnyH_take (i := 11) (oi := { dst := some 18, op := Op.pick (Operand.tmp 12) (Operand.const (Value.bool true)) (Operand.tmp 17), type := 4, pos := _, after := #[{ on := 5, ground := Ground.data }, { on := 10, ground := Ground.data }], guard := none }) (v := ?_) rfl (by kernel_rfl) (by kernel_rfl) (by kernel_rfl) (fun _ _ _ h => h) (Or.inl ⟨by rfl, ?_⟩) (by exact hHeld) ?_
      rotate_left
      · (intro w hSw; (try dsimp only at hSw); go_simp <;> with_reducible rfl)
      try simp only [Act.put, List.setIfInBounds_toArray, List.set_cons_zero, List.set_cons_succ]
      refine wpAnyH_take (i := 12) (oi := { dst := some 19, op := Op.move (Operand.tmp 18), type := 4, pos := _, after := #[{ on := 11, ground := Ground.data }, { on := 9, ground := Ground.chain }], guard := none }) (v := ?_) rfl (by kernel_rfl) (by kernel_rfl) (by kernel_rfl) (fun _ _ _ h => h) (Or.inl ⟨by rfl, ?_⟩) (by exact hHeld) ?_
      rotate_left
      · (intro w hSw; (try dsimp only at hSw); go_simp <;> with_reducible rfl)
      try simp only [Act.put, List.setIfInBounds_toArray, List.set_cons_zero, List.set_cons_succ]
      refine wpAnyH_take (i := 13) (oi := { dst := some 20, op := Op.move (Operand.tmp 0), type := 39, pos := _, after := #[{ on := 12, ground := Ground.guard }], guard := some (12, false) }) (v := ?_) rfl (by kernel_rfl) (by kernel_rfl) (by kernel_rfl) (fun _ _ _ h => h) (Or.inl ⟨by rfl, ?_⟩) (by exact hHeld) ?_
      rotate_left
      · (intro w hSw; (try dsimp only at hSw); go_simp <;> with_reducible rfl)
      try simp only [Act.put, List.setIfInBounds_toArray, List.set_cons_zero, List.set_cons_succ]
      refine wpAnyH_take (i := 14) (oi := { dst := some 21, op := Op.fieldAddr 49 (Operand.tmp 3) 0, type := 0, pos := _, after := #[{ on := 12, ground := Ground.guard }], guard := some (12, false) }) (v := ?_) rfl (by kernel_rfl) (by kernel_rfl) (by kernel_rfl) (fun _ _ _ h => h) (Or.inl ⟨by rfl, ?_⟩) (by exact hHeld) ?_
      rotate_left
      · (intro w hSw; (try dsimp only at hSw); go_simp <;> with_reducible rfl)
      try simp only [Act.put, List.setIfInBounds_toArray, List.set_cons_zero, List.set_cons_succ]
      refine wpAnyH_take (i := 15) (oi := { dst := some 22, op := Op.load 3 (Operand.tmp 21), type := 3, pos := _, after := #[{ on := 14, ground := Ground.data }, { on := 12, ground := Ground.guard }], guard := some (12, false) }) (v := ?_) rfl (by kernel_rfl) (by kernel_rfl) (by kernel_rfl) (fun _ _ _ h => h) (Or.inl ⟨by rfl, ?_⟩) (by exact hHeld) ?_
      rotate_left
      · (intro w hSw; (try dsimp only at hSw); go_simp <;> with_reducible rfl)
      try simp only [Act.put, List.setIfInBounds_toArray, List.set_cons_zero, List.set_cons_succ]
      refine wpAnyH_take (i := 16) (oi := { dst := some 23, op := Op.fieldAddr 49 (Operand.tmp 3) 1, type := 0, pos := _, after := #[{ on := 12, ground := Ground.guard }], guard := some (12, false) }) (v := ?_) rfl (by kernel_rfl) (by kernel_rfl) (by kernel_rfl) (fun _ _ _ h => h) (Or.inl ⟨by rfl, ?_⟩) (by exact hHeld) ?_
      rotate_left
      · (intro w hSw; (try dsimp only at hSw); go_simp <;> with_reducible rfl)
      try simp only [Act.put, List.setIfInBounds_toArray, List.set_cons_zero, List.set_cons_succ]
      refine wpAnyH_take (i := 17) (oi := { dst := some 24, op := Op.load 3 (Operand.tmp 23), type := 3, pos := _, after := #[{ on := 16, ground := Ground.data }, { on := 12, ground := Ground.guard }], guard := some (12, false) }) (v := ?_) rfl (by kernel_rfl) (by kernel_rfl) (by kernel_rfl) (fun _ _ _ h => h) (Or.inl ⟨by rfl, ?_⟩) (by exact hHeld) ?_
      rotate_left
      · (intro w hSw; (try dsimp only at hSw); go_simp <;> with_reducible rfl)
      try simp only [Act.put, List.setIfInBounds_toArray, List.set_cons_zero, List.set_cons_succ]
      refine wpAnyH_take (i := 18) (oi := { dst := some 25, op := Op.nilCheck (Operand.tmp 20), type := 0, pos := _, after := #[{ on := 13, ground := Ground.data }, { on := 12, ground := Ground.guard }], guard := some (12, false) }) (v := ?_) rfl (by kernel_rfl) (by kernel_rfl) (by kernel_rfl) (fun _ _ _ h => h) (Or.inl ⟨by rfl, ?_⟩) (by exact hHeld) ?_
      rotate_left
      · (intro w hSw; (try dsimp only at hSw); go_simp <;> with_reducible rfl)
      try simp only [Act.put, List.setIfInBounds_toArray, List.set_cons_zero, List.set_cons_succ]
      refine wpAnyH_take (i := 19) (oi := { dst := some 26, op := Op.fieldAddr 44 (Operand.tmp 25) 3, type := 0, pos := _, after := #[{ on := 18, ground := Ground.data }, { on := 12, ground := Ground.guard }], guard := some (12, false) }) (v := ?_) rfl (by kernel_rfl) (by kernel_rfl) (by kernel_rfl) (fun _ _ _ h => h) (Or.inl ⟨by rfl, ?_⟩) (by exact hHeld) ?_
      rotate_left
      · (intro w hSw; (try dsimp only at hSw); go_simp <;> with_reducible rfl)
      try simp only [Act.put, List.setIfInBounds_toArray, List.set_cons_zero, List.set_cons_succ]
      refine wpAnyH_take (i := 20) (oi := { dst := some 27, op := Op.indexAddr 42 (Operand.tmp 26) (Operand.tmp 22), type := 0, pos := _, after := #[{ on := 19, ground := Ground.data }, { on := 15, ground := Ground.data }, { on := 12, ground := Ground.guard }], guard := some (12, false) }) (v := ?_) rfl (by kernel_rfl) (by kernel_rfl) (by kernel_rfl) (fun _ _ _ h => h) (Or.inl ⟨by rfl, ?_⟩) (by exact hHeld) ?_
      rotate_left
      · (intro w hSw; (try dsimp only at hSw); go_simp <;> with_reducible rfl)
      try simp only [Act.put, List.setIfInBounds_toArray, List.set_cons_zero, List.set_cons_succ]
      refine wpAnyH_take (i := 21) (oi := { dst := some 28, op := Op.indexAddr 41 (Operand.tmp 27) (Operand.tmp 24), type := 0, pos := _, after := #[{ on := 20, ground := Ground.data }, { on := 17, ground := Ground.data }, { on := 12, ground := Ground.guard }], guard := some (12, false) }) (v := ?_) rfl (by kernel_rfl) (by kernel_rfl) (by kernel_rfl) (fun _ _ _ h => h) (Or.inl ⟨by rfl, ?_⟩) (by exact hHeld) ?_
      rotate_left
      · (intro w hSw; (try dsimp only at hSw); go_simp <;> with_reducible rfl)
      try simp only [Act.put, List.setIfInBounds_toArray, List.set_cons_zero, List.set_cons_succ]
      refine wpAnyH_take (i := 22) (oi := { dst := some 29, op := Op.load 4 (Operand.tmp 28), type := 4, pos := _, after := #[{ on := 21, ground := Ground.data }, { on := 12, ground := Ground.guard }], guard := some (12, false) }) (v := ?_) rfl (by kernel_rfl) (by kernel_rfl) (by kernel_rfl) (fun _ _ _ h => h) (Or.inl ⟨by rfl, ?_⟩) (by exact hHeld) ?_
      rotate_left
      · (intro w hSw; (try dsimp only at hSw); go_simp <;> with_reducible rfl)
      try simp only [Act.put, List.setIfInBounds_toArray, List.set_cons_zero, List.set_cons_succ]
      refine wpAnyH_take (i := 23) (oi := { dst := some 30, op := Op.pick (Operand.tmp 19) (Operand.const (Value.bool true)) (Operand.tmp 29), type := 4, pos := _, after := #[{ on := 12, ground := Ground.data }, { on := 22, ground := Ground.data }], guard := none }) (v := ?_) rfl (by kernel_rfl) (by kernel_rfl) (by kernel_rfl) (fun _ _ _ h => h) (Or.inl ⟨by rfl, ?_⟩) (by exact hHeld) ?_
      rotate_left
      · (intro w hSw; (try dsimp only at hSw); go_simp <;> with_reducible rfl)
      try simp only [Act.put, List.setIfInBounds_toArray, List.set_cons_zero, List.set_cons_succ]
      refine wpAnyH_take (i := 24) (oi := { dst := some 31, op := Op.move (Operand.tmp 30), type := 4, pos := _, after := #[{ on := 23, ground := Ground.data }, { on := 12, ground := Ground.chain }], guard := none }) (v := ?_) rfl (by kernel_rfl) (by kernel_rfl) (by kernel_rfl) (fun _ _ _ h => h) (Or.inl ⟨by rfl, ?_⟩) (by exact hHeld) ?_
      rotate_left
      · (intro w hSw; (try dsimp only at hSw); go_simp <;> with_reducible rfl)
      try simp only [Act.put, List.setIfInBounds_toArray, List.set_cons_zero, List.set_cons_succ]
      refine wpAnyH_take (i := 25) (oi := { dst := some 32, op := Op.move (Operand.tmp 0), type := 39, pos := _, after := #[{ on := 24, ground := Ground.guard }], guard := some (24, false) }) (v := undef) rfl (by kernel_rfl) (by kernel_rfl) (by kernel_rfl) (fun _ _ _ h => h) (Or.inr ⟨by rfl, rfl⟩) (by exact hHeld) ?_
      try simp only [Act.put, List.setIfInBounds_toArray, List.set_cons_zero, List.set_cons_succ]
      refine wpAnyH_take (i := 26) (oi := { dst := some 33, op := Op.nilCheck (Operand.tmp 32), type := 0, pos := _, after := #[{ on := 25, ground := Ground.data }, { on := 24, ground := Ground.guard }], guard := some (24, false) }) (v := undef) rfl (by kernel_rfl) (by kernel_rfl) (by kernel_rfl) (fun _ _ _ h => h) (Or.inr ⟨by rfl, rfl⟩) (by exact hHeld) ?_
      try simp only [Act.put, List.setIfInBounds_toArray, List.set_cons_zero, List.set_cons_succ]
      refine wpAnyH_take (i := 27) (oi := { dst := some 34, op := Op.fieldAddr 44 (Operand.tmp 33) 2, type := 0, pos := _, after := #[{ on := 26, ground := Ground.data }, { on := 24, ground := Ground.guard }], guard := some (24, false) }) (v := undef) rfl (by kernel_rfl) (by kernel_rfl) (by kernel_rfl) (fun _ _ _ h => h) (Or.inr ⟨by rfl, rfl⟩) (by exact hHeld) ?_
      try simp only [Act.put, List.setIfInBounds_toArray, List.set_cons_zero, List.set_cons_succ]
      refine wpAnyH_take (i := 28) (oi := { dst := some 35, op := Op.load 40 (Operand.tmp 34), type := 40, pos := _, after := #[{ on := 27, ground := Ground.data }, { on := 24, ground := Ground.guard }], guard := some (24, false) }) (v := undef) rfl (by kernel_rfl) (by kernel_rfl) (by kernel_rfl) (fun _ _ _ h => h) (Or.inr ⟨by rfl, rfl⟩) (by exact hHeld) ?_
      try simp only [Act.put, List.setIfInBounds_toArray, List.set_cons_zero, List.set_cons_succ]
      refine wpAnyH_take (i := 29) (oi := { dst := some 36, op := Op.call { callee := Callee.builtin Builtin.len, args := #[Operand.tmp 35], argTypes := #[40] }, type := 3, pos := _, after := #[{ on := 28, ground := Ground.data }, { on := 24, ground := Ground.guard }], guard := some (24, false) }) (v := undef) rfl (by kernel_rfl) (by kernel_rfl) (by kernel_rfl) (fun _ _ _ h => h) (Or.inr ⟨by rfl, rfl⟩) (by exact hHeld) ?_
      try simp only [Act.put, List.setIfInBounds_toArray, List.set_cons_zero, List.set_cons_succ]
      refine wpAnyH_take (i := 30) (oi := { dst := some 37, op := Op.move (Operand.tmp 0), type := 39, pos := _, after := #[{ on := 24, ground := Ground.guard }], guard := some (24, false) }) (v := undef) rfl (by kernel_rfl) (by kernel_rfl) (by kernel_rfl) (fun _ _ _ h => h) (Or.inr ⟨by rfl, rfl⟩) (by exact hHeld) ?_
      try simp only [Act.put, List.setIfInBounds_toArray, List.set_cons_zero, List.set_cons_succ]
      refine wpAnyH_take (i := 31) (oi := { dst := some 38, op := Op.nilCheck (Operand.tmp 37), type := 0, pos := _, after := #[{ on := 30, ground := Ground.data }, { on := 24, ground := Ground.guard }], guard := some (24, false) }) (v := undef) rfl (by kernel_rfl) (by kernel_rfl) (by kernel_rfl) (fun _ _ _ h => h) (Or.inr ⟨by rfl, rfl⟩) (by exact hHeld) ?_
      try simp only [Act.put, List.setIfInBounds_toArray, List.set_cons_zero, List.set_cons_succ]
      refine wpAnyH_take (i := 32) (oi := { dst := some 39, op := Op.fieldAddr 44 (Operand.tmp 38) 1, type := 0, pos := _, after := #[{ on := 31, ground := Ground.data }, { on := 24, ground := Ground.guard }], guard := some (24, false) }) (v := undef) rfl (by kernel_rfl) (by kernel_rfl) (by kernel_rfl) (fun _ _ _ h => h) (Or.inr ⟨by rfl, rfl⟩) (by exact hHeld) ?_
      try simp only [Act.put, List.setIfInBounds_toArray, List.set_cons_zero, List.set_cons_succ]
      refine wpAnyH_take (i := 33) (oi := { dst := some 40, op := Op.load 3 (Operand.tmp 39), type := 3, pos := _, after := #[{ on := 32, ground := Ground.data }, { on := 24, ground := Ground.guard }], guard := some (24, false) }) (v := undef) rfl (by kernel_rfl) (by kernel_rfl) (by kernel_rfl) (fun _ _ _ h => h) (Or.inr ⟨by rfl, rfl⟩) (by exact hHeld) ?_
      try simp only [Act.put, List.setIfInBounds_toArray, List.set_cons_zero, List.set_cons_succ]
      refine wpAnyH_take (i := 34) (oi := { dst := some 41, op := Op.binOp BinOp.geq 3 (Operand.tmp 36) (Operand.tmp 40) 3, type := 4, pos := _, after := #[{ on := 29, ground := Ground.data }, { on := 33, ground := Ground.data }, { on := 24, ground := Ground.guard }], guard := some (24, false) }) (v := undef) rfl (by kernel_rfl) (by kernel_rfl) (by kernel_rfl) (fun _ _ _ h => h) (Or.inr ⟨by rfl, rfl⟩) (by exact hHeld) ?_
      try simp only [Act.put, List.setIfInBounds_toArray, List.set_cons_zero, List.set_cons_succ]
      refine wpAnyH_take (i := 35) (oi := { dst := some 42, op := Op.pick (Operand.tmp 31) (Operand.const (Value.bool true)) (Operand.tmp 41), type := 4, pos := _, after := #[{ on := 24, ground := Ground.data }, { on := 34, ground := Ground.data }], guard := none }) (v := ?_) rfl (by kernel_rfl) (by kernel_rfl) (by kernel_rfl) (fun _ _ _ h => h) (Or.inl ⟨by rfl, ?_⟩) (by exact hHeld) ?_
      rotate_left
      · (intro w hSw; (try dsimp only at hSw); go_simp <;> with_reducible rfl)
      try simp only [Act.put, List.setIfInBounds_toArray, List.set_cons_zero, List.set_cons_succ]
      refine wpAnyH_done (by kernel_rfl) ?_ _
      go_wp2_with fail
      go_meet
      exact ⟨by rw [hgo]; rfl, below_drew (Below.refl W.heap.size W) 1⟩
    | false =>
      have hgo : goes s es ⟨x, y, mk, ns, bs⟩ = decide ((tl : Int) < room) := by rw [HGO.out]; rfl
      refine wp_region_held_drew (S := fun w' => w'.cell? ⟨X, 0, none⟩ = some (.int .i64 (x : Int)) ∧ w'.cell? ⟨X, 1, none⟩ = some (.int .i64 (y : Int)) ∧ w'.cell? ⟨d, 1, none⟩ = some (.int .i64 room) ∧ w'.cell? ⟨d, 2, none⟩ = some (.slice ao2 tl cap2) ∧ w'.cell? ⟨d, 3 + x * 64 + y, none⟩ = some (.bool false)) (by kernel_rfl) ⟨hx0, hx1, ha1, ha2, ha3⟩ (fun hHeld => ?_)
      refine wpAnyH_take (i := 0) (oi := { dst := some 7, op := Op.move (Operand.tmp 0), type := 39, pos := _, after := #[], guard := none }) (v := ?_) rfl (by kernel_rfl) (by kernel_rfl) (by kernel_rfl) (fun _ _ _ h => h) (Or.inl ⟨by rfl, ?_⟩) (by exact hHeld) ?_
      rotate_left
      · (intro w hSw; (try dsimp only at hSw); go_simp <;> with_reducible rfl)
      try simp only [Act.put, List.setIfInBounds_toArray, List.set_cons_zero, List.set_cons_succ]
      refine wpAnyH_take (i := 1) (oi := { dst := some 8, op := Op.fieldAddr 49 (Operand.tmp 3) 0, type := 0, pos := _, after := #[], guard := none }) (v := ?_) rfl (by kernel_rfl) (by kernel_rfl) (by kernel_rfl) (fun _ _ _ h => h) (Or.inl ⟨by rfl, ?_⟩) (by exact hHeld) ?_
      rotate_left
      · (intro w hSw; (try dsimp only at hSw); go_simp <;> with_reducible rfl)
      try simp only [Act.put, List.setIfInBounds_toArray, List.set_cons_zero, List.set_cons_succ]
      refine wpAnyH_take (i := 2) (oi := { dst := some 9, op := Op.load 3 (Operand.tmp 8), type := 3, pos := _, after := #[{ on := 1, ground := Ground.data }], guard := none }) (v := ?_) rfl (by kernel_rfl) (by kernel_rfl) (by kernel_rfl) (fun _ _ _ h => h) (Or.inl ⟨by rfl, ?_⟩) (by exact hHeld) ?_
      rotate_left
      · (intro w hSw; (try dsimp only at hSw); go_simp <;> with_reducible rfl)
      try simp only [Act.put, List.setIfInBounds_toArray, List.set_cons_zero, List.set_cons_succ]
      refine wpAnyH_ready (rs := [3]) (by kernel_rfl) (by simp) ?_
      refine AllReadyH.cons (o := { dst := some 10, op := Op.call { callee := Callee.value (Operand.func 30), args := #[Operand.tmp 7, Operand.tmp 9], argTypes := #[39, 3] }, type := 4, pos := _, after := #[{ on := 0, ground := Ground.data }, { on := 2, ground := Ground.data }], guard := none }) rfl (fun K hK => ?_) AllReadyH.nil
      go_simp
      refine (HF.out _ (by exact below_drew (Below.refl W.heap.size W) 1)).mono ?_
      rintro e w1 ⟨rfl, rfl⟩
      go_wp2_with fail
      refine hK.out _ _ hHeld (fun hHeld => ?_)
      clear hK K
      try simp only [Act.put, List.setIfInBounds_toArray, List.set_cons_zero, List.set_cons_succ]
      refine wpAnyH_take (i := 4) (oi := { dst := some 11, op := Op.unOp UnOp.not 4 (Operand.tmp 10), type := 4, pos := _, after := #[{ on := 3, ground := Ground.data }], guard := none }) (v := ?_) rfl (by kernel_rfl) (by kernel_rfl) (by kernel_rfl) (fun _ _ _ h => h) (Or.inl ⟨by rfl, ?_⟩) (by exact hHeld) ?_
      rotate_left
      · (intro w hSw; (try dsimp only at hSw); go_simp <;> with_reducible rfl)
      try simp only [Act.put, List.setIfInBounds_toArray, List.set_cons_zero, List.set_cons_succ]
      refine wpAnyH_take (i := 5) (oi := { dst := some 12, op := Op.move (Operand.tmp 11), type := 4, pos := _, after := #[{ on := 4, ground := Ground.data }, { on := 3, ground := Ground.chain }], guard := none }) (v := ?_) rfl (by kernel_rfl) (by kernel_rfl) (by kernel_rfl) (fun _ _ _ h => h) (Or.inl ⟨by rfl, ?_⟩) (by exact hHeld) ?_
      rotate_left
      · (intro w hSw; (try dsimp only at hSw); go_simp <;> with_reducible rfl)
      try simp only [Act.put, List.setIfInBounds_toArray, List.set_cons_zero, List.set_cons_succ]
      refine wpAnyH_take (i := 6) (oi := { dst := some 13, op := Op.move (Operand.tmp 0), type := 39, pos := _, after := #[{ on := 5, ground := Ground.guard }], guard := some (5, false) }) (v := ?_) rfl (by kernel_rfl) (by kernel_rfl) (by kernel_rfl) (fun _ _ _ h => h) (Or.inl ⟨by rfl, ?_⟩) (by exact hHeld) ?_
      rotate_left
      · (intro w hSw; (try dsimp only at hSw); go_simp <;> with_reducible rfl)
      try simp only [Act.put, List.setIfInBounds_toArray, List.set_cons_zero, List.set_cons_succ]
      refine wpAnyH_take (i := 7) (oi := { dst := some 14, op := Op.fieldAddr 49 (Operand.tmp 3) 1, type := 0, pos := _, after := #[{ on := 5, ground := Ground.guard }], guard := some (5, false) }) (v := ?_) rfl (by kernel_rfl) (by kernel_rfl) (by kernel_rfl) (fun _ _ _ h => h) (Or.inl ⟨by rfl, ?_⟩) (by exact hHeld) ?_
      rotate_left
      · (intro w hSw; (try dsimp only at hSw); go_simp <;> with_reducible rfl)
      try simp only [Act.put, List.setIfInBounds_toArray, List.set_cons_zero, List.set_cons_succ]
      refine wpAnyH_take (i := 8) (oi := { dst := some 15, op := Op.load 3 (Operand.tmp 14), type := 3, pos := _, after := #[{ on := 7, ground := Ground.data }, { on := 5, ground := Ground.guard }], guard := some (5, false) }) (v := ?_) rfl (by kernel_rfl) (by kernel_rfl) (by kernel_rfl) (fun _ _ _ h => h) (Or.inl ⟨by rfl, ?_⟩) (by exact hHeld) ?_
      rotate_left
      · (intro w hSw; (try dsimp only at hSw); go_simp <;> with_reducible rfl)
      try simp only [Act.put, List.setIfInBounds_toArray, List.set_cons_zero, List.set_cons_succ]
      refine wpAnyH_ready (rs := [9]) (by kernel_rfl) (by simp) ?_
      refine AllReadyH.cons (o := { dst := some 16, op := Op.call { callee := Callee.value (Operand.func 30), args := #[Operand.tmp 13, Operand.tmp 15], argTypes := #[39, 3] }, type := 4, pos := _, after := #[{ on := 6, ground := Ground.data }, { on := 8, ground := Ground.data }, { on := 5, ground := Ground.chain }, { on := 5, ground := Ground.guard }], guard := some (5, false) }) rfl (fun K hK => ?_) AllReadyH.nil
      go_simp
      refine (HTO.out _ (by exact below_drew (Below.refl W.heap.size W) 1)).mono ?_
      rintro e w1 ⟨rfl, rfl⟩
      go_wp2_with fail
      refine hK.out _ _ hHeld (fun hHeld => ?_)
      clear hK K
      try simp only [Act.put, List.setIfInBounds_toArray, List.set_cons_zero, List.set_cons_succ]
      refine wpAnyH_take (i := 10) (oi := { dst := some 17, op := Op.unOp UnOp.not 4 (Operand.tmp 16), type := 4, pos := _, after := #[{ on := 9, ground := Ground.data }, { on := 5, ground := Ground.guard }], guard := some (5, false) }) (v := ?_) rfl (by kernel_rfl) (by kernel_rfl) (by kernel_rfl) (fun _ _ _ h => h) (Or.inl ⟨by rfl, ?_⟩) (by exact hHeld) ?_
      rotate_left
      · (intro w hSw; (try dsimp only at hSw); go_simp <;> with_reducible rfl)
      try simp only [Act.put, List.setIfInBounds_toArray, List.set_cons_zero, List.set_cons_succ]
      refine wpAnyH_take (i := 11) (oi := { dst := some 18, op := Op.pick (Operand.tmp 12) (Operand.const (Value.bool true)) (Operand.tmp 17), type := 4, pos := _, after := #[{ on := 5, ground := Ground.data }, { on := 10, ground := Ground.data }], guard := none }) (v := ?_) rfl (by kernel_rfl) (by kernel_rfl) (by kernel_rfl) (fun _ _ _ h => h) (Or.inl ⟨by rfl, ?_⟩) (by exact hHeld) ?_
      rotate_left
      · (intro w hSw; (try dsimp only at hSw); go_simp <;> with_reducible rfl)
      try simp only [Act.put, List.setIfInBounds_toArray, List.set_cons_zero, List.set_cons_succ]
      refine wpAnyH_take (i := 12) (oi := { dst := some 19, op := Op.move (Operand.tmp 18), type := 4, pos := _, after := #[{ on := 11, ground := Ground.data }, { on := 9, ground := Ground.chain }], guard := none }) (v := ?_) rfl (by kernel_rfl) (by kernel_rfl) (by kernel_rfl) (fun _ _ _ h => h) (Or.inl ⟨by rfl, ?_⟩) (by exact hHeld) ?_
      rotate_left
      · (intro w hSw; (try dsimp only at hSw); go_simp <;> with_reducible rfl)
      try simp only [Act.put, List.setIfInBounds_toArray, List.set_cons_zero, List.set_cons_succ]
      refine wpAnyH_take (i := 13) (oi := { dst := some 20, op := Op.move (Operand.tmp 0), type := 39, pos := _, after := #[{ on := 12, ground := Ground.guard }], guard := some (12, false) }) (v := ?_) rfl (by kernel_rfl) (by kernel_rfl) (by kernel_rfl) (fun _ _ _ h => h) (Or.inl ⟨by rfl, ?_⟩) (by exact hHeld) ?_
      rotate_left
      · (intro w hSw; (try dsimp only at hSw); go_simp <;> with_reducible rfl)
      try simp only [Act.put, List.setIfInBounds_toArray, List.set_cons_zero, List.set_cons_succ]
      refine wpAnyH_take (i := 14) (oi := { dst := some 21, op := Op.fieldAddr 49 (Operand.tmp 3) 0, type := 0, pos := _, after := #[{ on := 12, ground := Ground.guard }], guard := some (12, false) }) (v := ?_) rfl (by kernel_rfl) (by kernel_rfl) (by kernel_rfl) (fun _ _ _ h => h) (Or.inl ⟨by rfl, ?_⟩) (by exact hHeld) ?_
      rotate_left
      · (intro w hSw; (try dsimp only at hSw); go_simp <;> with_reducible rfl)
      try simp only [Act.put, List.setIfInBounds_toArray, List.set_cons_zero, List.set_cons_succ]
      refine wpAnyH_take (i := 15) (oi := { dst := some 22, op := Op.load 3 (Operand.tmp 21), type := 3, pos := _, after := #[{ on := 14, ground := Ground.data }, { on := 12, ground := Ground.guard }], guard := some (12, false) }) (v := ?_) rfl (by kernel_rfl) (by kernel_rfl) (by kernel_rfl) (fun _ _ _ h => h) (Or.inl ⟨by rfl, ?_⟩) (by exact hHeld) ?_
      rotate_left
      · (intro w hSw; (try dsimp only at hSw); go_simp <;> with_reducible rfl)
      try simp only [Act.put, List.setIfInBounds_toArray, List.set_cons_zero, List.set_cons_succ]
      refine wpAnyH_take (i := 16) (oi := { dst := some 23, op := Op.fieldAddr 49 (Operand.tmp 3) 1, type := 0, pos := _, after := #[{ on := 12, ground := Ground.guard }], guard := some (12, false) }) (v := ?_) rfl (by kernel_rfl) (by kernel_rfl) (by kernel_rfl) (fun _ _ _ h => h) (Or.inl ⟨by rfl, ?_⟩) (by exact hHeld) ?_
      rotate_left
      · (intro w hSw; (try dsimp only at hSw); go_simp <;> with_reducible rfl)
      try simp only [Act.put, List.setIfInBounds_toArray, List.set_cons_zero, List.set_cons_succ]
      refine wpAnyH_take (i := 17) (oi := { dst := some 24, op := Op.load 3 (Operand.tmp 23), type := 3, pos := _, after := #[{ on := 16, ground := Ground.data }, { on := 12, ground := Ground.guard }], guard := some (12, false) }) (v := ?_) rfl (by kernel_rfl) (by kernel_rfl) (by kernel_rfl) (fun _ _ _ h => h) (Or.inl ⟨by rfl, ?_⟩) (by exact hHeld) ?_
      rotate_left
      · (intro w hSw; (try dsimp only at hSw); go_simp <;> with_reducible rfl)
      try simp only [Act.put, List.setIfInBounds_toArray, List.set_cons_zero, List.set_cons_succ]
      refine wpAnyH_take (i := 18) (oi := { dst := some 25, op := Op.nilCheck (Operand.tmp 20), type := 0, pos := _, after := #[{ on := 13, ground := Ground.data }, { on := 12, ground := Ground.guard }], guard := some (12, false) }) (v := ?_) rfl (by kernel_rfl) (by kernel_rfl) (by kernel_rfl) (fun _ _ _ h => h) (Or.inl ⟨by rfl, ?_⟩) (by exact hHeld) ?_
      rotate_left
      · (intro w hSw; (try dsimp only at hSw); go_simp <;> with_reducible rfl)
      try simp only [Act.put, List.setIfInBounds_toArray, List.set_cons_zero, List.set_cons_succ]
      refine wpAnyH_take (i := 19) (oi := { dst := some 26, op := Op.fieldAddr 44 (Operand.tmp 25) 3, type := 0, pos := _, after := #[{ on := 18, ground := Ground.data }, { on := 12, ground := Ground.guard }], guard := some (12, false) }) (v := ?_) rfl (by kernel_rfl) (by kernel_rfl) (by kernel_rfl) (fun _ _ _ h => h) (Or.inl ⟨by rfl, ?_⟩) (by exact hHeld) ?_
      rotate_left
      · (intro w hSw; (try dsimp only at hSw); go_simp <;> with_reducible rfl)
      try simp only [Act.put, List.setIfInBounds_toArray, List.set_cons_zero, List.set_cons_succ]
      refine wpAnyH_take (i := 20) (oi := { dst := some 27, op := Op.indexAddr 42 (Operand.tmp 26) (Operand.tmp 22), type := 0, pos := _, after := #[{ on := 19, ground := Ground.data }, { on := 15, ground := Ground.data }, { on := 12, ground := Ground.guard }], guard := some (12, false) }) (v := ?_) rfl (by kernel_rfl) (by kernel_rfl) (by kernel_rfl) (fun _ _ _ h => h) (Or.inl ⟨by rfl, ?_⟩) (by exact hHeld) ?_
      rotate_left
      · (intro w hSw; (try dsimp only at hSw); go_simp <;> with_reducible rfl)
      try simp only [Act.put, List.setIfInBounds_toArray, List.set_cons_zero, List.set_cons_succ]
      refine wpAnyH_take (i := 21) (oi := { dst := some 28, op := Op.indexAddr 41 (Operand.tmp 27) (Operand.tmp 24), type := 0, pos := _, after := #[{ on := 20, ground := Ground.data }, { on := 17, ground := Ground.data }, { on := 12, ground := Ground.guard }], guard := some (12, false) }) (v := ?_) rfl (by kernel_rfl) (by kernel_rfl) (by kernel_rfl) (fun _ _ _ h => h) (Or.inl ⟨by rfl, ?_⟩) (by exact hHeld) ?_
      rotate_left
      · (intro w hSw; (try dsimp only at hSw); go_simp <;> with_reducible rfl)
      try simp only [Act.put, List.setIfInBounds_toArray, List.set_cons_zero, List.set_cons_succ]
      refine wpAnyH_take (i := 22) (oi := { dst := some 29, op := Op.load 4 (Operand.tmp 28), type := 4, pos := _, after := #[{ on := 21, ground := Ground.data }, { on := 12, ground := Ground.guard }], guard := some (12, false) }) (v := ?_) rfl (by kernel_rfl) (by kernel_rfl) (by kernel_rfl) (fun _ _ _ h => h) (Or.inl ⟨by rfl, ?_⟩) (by exact hHeld) ?_
      rotate_left
      · (intro w hSw; (try dsimp only at hSw); go_simp <;> with_reducible rfl)
      try simp only [Act.put, List.setIfInBounds_toArray, List.set_cons_zero, List.set_cons_succ]
      refine wpAnyH_take (i := 23) (oi := { dst := some 30, op := Op.pick (Operand.tmp 19) (Operand.const (Value.bool true)) (Operand.tmp 29), type := 4, pos := _, after := #[{ on := 12, ground := Ground.data }, { on := 22, ground := Ground.data }], guard := none }) (v := ?_) rfl (by kernel_rfl) (by kernel_rfl) (by kernel_rfl) (fun _ _ _ h => h) (Or.inl ⟨by rfl, ?_⟩) (by exact hHeld) ?_
      rotate_left
      · (intro w hSw; (try dsimp only at hSw); go_simp <;> with_reducible rfl)
      try simp only [Act.put, List.setIfInBounds_toArray, List.set_cons_zero, List.set_cons_succ]
      refine wpAnyH_take (i := 24) (oi := { dst := some 31, op := Op.move (Operand.tmp 30), type := 4, pos := _, after := #[{ on := 23, ground := Ground.data }, { on := 12, ground := Ground.chain }], guard := none }) (v := ?_) rfl (by kernel_rfl) (by kernel_rfl) (by kernel_rfl) (fun _ _ _ h => h) (Or.inl ⟨by rfl, ?_⟩) (by exact hHeld) ?_
      rotate_left
      · (intro w hSw; (try dsimp only at hSw); go_simp <;> with_reducible rfl)
      try simp only [Act.put, List.setIfInBounds_toArray, List.set_cons_zero, List.set_cons_succ]
      refine wpAnyH_take (i := 25) (oi := { dst := some 32, op := Op.move (Operand.tmp 0), type := 39, pos := _, after := #[{ on := 24, ground := Ground.guard }], guard := some (24, false) }) (v := ?_) rfl (by kernel_rfl) (by kernel_rfl) (by kernel_rfl) (fun _ _ _ h => h) (Or.inl ⟨by rfl, ?_⟩) (by exact hHeld) ?_
      rotate_left
      · (intro w hSw; (try dsimp only at hSw); go_simp <;> with_reducible rfl)
      try simp only [Act.put, List.setIfInBounds_toArray, List.set_cons_zero, List.set_cons_succ]
      refine wpAnyH_take (i := 26) (oi := { dst := some 33, op := Op.nilCheck (Operand.tmp 32), type := 0, pos := _, after := #[{ on := 25, ground := Ground.data }, { on := 24, ground := Ground.guard }], guard := some (24, false) }) (v := ?_) rfl (by kernel_rfl) (by kernel_rfl) (by kernel_rfl) (fun _ _ _ h => h) (Or.inl ⟨by rfl, ?_⟩) (by exact hHeld) ?_
      rotate_left
      · (intro w hSw; (try dsimp only at hSw); go_simp <;> with_reducible rfl)
      try simp only [Act.put, List.setIfInBounds_toArray, List.set_cons_zero, List.set_cons_succ]
      refine wpAnyH_take (i := 27) (oi := { dst := some 34, op := Op.fieldAddr 44 (Operand.tmp 33) 2, type := 0, pos := _, after := #[{ on := 26, ground := Ground.data }, { on := 24, ground := Ground.guard }], guard := some (24, false) }) (v := ?_) rfl (by kernel_rfl) (by kernel_rfl) (by kernel_rfl) (fun _ _ _ h => h) (Or.inl ⟨by rfl, ?_⟩) (by exact hHeld) ?_
      rotate_left
      · (intro w hSw; (try dsimp only at hSw); go_simp <;> with_reducible rfl)
      try simp only [Act.put, List.setIfInBounds_toArray, List.set_cons_zero, List.set_cons_succ]
      refine wpAnyH_take (i := 28) (oi := { dst := some 35, op := Op.load 40 (Operand.tmp 34), type := 40, pos := _, after := #[{ on := 27, ground := Ground.data }, { on := 24, ground := Ground.guard }], guard := some (24, false) }) (v := ?_) rfl (by kernel_rfl) (by kernel_rfl) (by kernel_rfl) (fun _ _ _ h => h) (Or.inl ⟨by rfl, ?_⟩) (by exact hHeld) ?_
      rotate_left
      · (intro w hSw; (try dsimp only at hSw); go_simp <;> with_reducible rfl)
      try simp only [Act.put, List.setIfInBounds_toArray, List.set_cons_zero, List.set_cons_succ]
      refine wpAnyH_take (i := 29) (oi := { dst := some 36, op := Op.call { callee := Callee.builtin Builtin.len, args := #[Operand.tmp 35], argTypes := #[40] }, type := 3, pos := _, after := #[{ on := 28, ground := Ground.data }, { on := 24, ground := Ground.guard }], guard := some (24, false) }) (v := ?_) rfl (by kernel_rfl) (by kernel_rfl) (by kernel_rfl) (fun _ _ _ h => h) (Or.inl ⟨by rfl, ?_⟩) (by exact hHeld) ?_
      rotate_left
      · (intro w hSw; (try dsimp only at hSw); go_simp <;> with_reducible rfl)
      try simp only [Act.put, List.setIfInBounds_toArray, List.set_cons_zero, List.set_cons_succ]
      refine wpAnyH_take (i := 30) (oi := { dst := some 37, op := Op.move (Operand.tmp 0), type := 39, pos := _, after := #[{ on := 24, ground := Ground.guard }], guard := some (24, false) }) (v := ?_) rfl (by kernel_rfl) (by kernel_rfl) (by kernel_rfl) (fun _ _ _ h => h) (Or.inl ⟨by rfl, ?_⟩) (by exact hHeld) ?_
      rotate_left
      · (intro w hSw; (try dsimp only at hSw); go_simp <;> with_reducible rfl)
      try simp only [Act.put, List.setIfInBounds_toArray, List.set_cons_zero, List.set_cons_succ]
      refine wpAnyH_take (i := 31) (oi := { dst := some 38, op := Op.nilCheck (Operand.tmp 37), type := 0, pos := _, after := #[{ on := 30, ground := Ground.data }, { on := 24, ground := Ground.guard }], guard := some (24, false) }) (v := ?_) rfl (by kernel_rfl) (by kernel_rfl) (by kernel_rfl) (fun _ _ _ h => h) (Or.inl ⟨by rfl, ?_⟩) (by exact hHeld) ?_
      rotate_left
      · (intro w hSw; (try dsimp only at hSw); go_simp <;> with_reducible rfl)
      try simp only [Act.put, List.setIfInBounds_toArray, List.set_cons_zero, List.set_cons_succ]
      refine wpAnyH_take (i := 32) (oi := { dst := some 39, op := Op.fieldAddr 44 (Operand.tmp 38) 1, type := 0, pos := _, after := #[{ on := 31, ground := Ground.data }, { on := 24, ground := Ground.guard }], guard := some (24, false) }) (v := ?_) rfl (by kernel_rfl) (by kernel_rfl) (by kernel_rfl) (fun _ _ _ h => h) (Or.inl ⟨by rfl, ?_⟩) (by exact hHeld) ?_
      rotate_left
      · (intro w hSw; (try dsimp only at hSw); go_simp <;> with_reducible rfl)
      try simp only [Act.put, List.setIfInBounds_toArray, List.set_cons_zero, List.set_cons_succ]
      refine wpAnyH_take (i := 33) (oi := { dst := some 40, op := Op.load 3 (Operand.tmp 39), type := 3, pos := _, after := #[{ on := 32, ground := Ground.data }, { on := 24, ground := Ground.guard }], guard := some (24, false) }) (v := ?_) rfl (by kernel_rfl) (by kernel_rfl) (by kernel_rfl) (fun _ _ _ h => h) (Or.inl ⟨by rfl, ?_⟩) (by exact hHeld) ?_
      rotate_left
      · (intro w hSw; (try dsimp only at hSw); go_simp <;> with_reducible rfl)
      try simp only [Act.put, List.setIfInBounds_toArray, List.set_cons_zero, List.set_cons_succ]
      refine wpAnyH_take (i := 34) (oi := { dst := some 41, op := Op.binOp BinOp.geq 3 (Operand.tmp 36) (Operand.tmp 40) 3, type := 4, pos := _, after := #[{ on := 29, ground := Ground.data }, { on := 33, ground := Ground.data }, { on := 24, ground := Ground.guard }], guard := some (24, false) }) (v := ?_) rfl (by kernel_rfl) (by kernel_rfl) (by kernel_rfl) (fun _ _ _ h => h) (Or.inl ⟨by rfl, ?_⟩) (by exact hHeld) ?_
      rotate_left
      · (intro w hSw; (try dsimp only at hSw); go_simp <;> with_reducible rfl)
      try simp only [Act.put, List.setIfInBounds_toArray, List.set_cons_zero, List.set_cons_succ]
      refine wpAnyH_take (i := 35) (oi := { dst := some 42, op := Op.pick (Operand.tmp 31) (Operand.const (Value.bool true)) (Operand.tmp 41), type := 4, pos := _, after := #[{ on := 24, ground := Ground.data }, { on := 34, ground := Ground.data }], guard := none }) (v := ?_) rfl (by kernel_rfl) (by kernel_rfl) (by kernel_rfl) (fun _ _ _ h => h) (Or.inl ⟨by rfl, ?_⟩) (by exact hHeld) ?_
      rotate_left
      · (intro w hSw; (try dsimp only at hSw); go_simp <;> with_reducible rfl)
      try simp only [Act.put, List.setIfInBounds_toArray, List.set_cons_zero, List.set_cons_succ]
      refine wpAnyH_done (by kernel_rfl) ?_ _
      go_wp2_with fail
      go_meet
      exact ⟨by rw [hgo]; by_cases hq : (tl : Int) < room <;> simp [hq] <;> omega, below_drew (Below.refl W.heap.size W) 1⟩
  case rest =>
    obtain ⟨rfl, hbx⟩ := hcut
    have HBC := Lib.hid hbx
    have HDC := Lib.hid (HDW.out.below hbx)
    have hwc : Below w.heap.size w wc := by rw [HXX.out]; exact HBW.out.trans (hbx.mono (by rw [HWS.out]; omega))
    have HWC := Lib.hid hwc
    have hs1 : sendOne s es ⟨mf, mt, mk, ns, bs⟩ = if goes s es ⟨mf, mt, mk, ns, bs⟩ then { s with l := s.l ++ [⟨mf, mt, mk, ns, bs⟩] } else s := rfl
    clear hbx hwc hx0 hx1
    generalize hgo : goes s es ⟨mf, mt, mk, ns, bs⟩ = go at *
    have HGO := Lib.hid hgo
    have HS1 := Lib.hid hs1
    clear hgo hs1
    cases go with
    | false =>
      go_wp2_with fail
      go_ret
      rw [HGO.out, HS1.out, if_neg (by decide)]
      exact ⟨rfl, HDC.out, Only.ofBelow HWC.out [d]⟩
    | true =>
      obtain ⟨V, hV⟩ : ∃ V, V = wc := ⟨_, rfl⟩
      subst hV
      have hX : V.heap[X]? = some (.cells #[.int .i64 mf, .int .i64 mt, .int .i64 mk, .slice ao ns.length cN, .slice bo bs.length cB] 49 (0, 0)) := heap_below HBC.out (by rw [HWS.out]; omega) HBX.out
      have hx0 : V.cell? ⟨X, 0, none⟩ = some (.int .i64 mf) := by rw [cell_heap hX]; rfl
      have hx1 : V.cell? ⟨X, 1, none⟩ = some (.int .i64 mt) := by rw [cell_heap hX]; rfl
      have hx2 : V.cell? ⟨X, 2, none⟩ = some (.int .i64 mk) := by rw [cell_heap hX]; rfl
      have hx3 : V.cell? ⟨X, 3, none⟩ = some (.slice ao ns.length cN) := by rw [cell_heap hX]; rfl
      have hx0a : ∀ w', Below V.heap.size V w' → w'.cell? ⟨X, 0, none⟩ = some (.int .i64 mf) := fun w' hb => cell_later hb hx0
      have hx1a : ∀ w', Below V.heap.size V w' → w'.cell? ⟨X, 1, none⟩ = some (.int .i64 mt) := fun w' hb => cell_later hb hx1
      have hx2a : ∀ w', Below V.heap.size V w' → w'.cell? ⟨X, 2, none⟩ = some (.int .i64 mk) := fun w' hb => cell_later hb hx2
      have hx3a : ∀ w', Below V.heap.size V w' → w'.cell? ⟨X, 3, none⟩ = some (.slice ao ns.length cN) := fun w' hb => cell_later hb hx3
      clear hx0 hx1 hx2 hx3
      have HIC : Hid (∀ u', Below V.heap.size V u' → IsI u' ao ns.length cN ns) := Lib.hid fun u' hb => (HI.out.below HWC.out).below hb
      have hlen : ([] : List Int).length + ns.length ≤ 17592186044416 := by have := HL.out.1; simp at this ⊢; omega
      have HX5 := Lib.hid hX
      clear hX
      generalize hN : ns.length = nn at *
      have HN := Lib.hid hN
      clear hN
      go_upto_region 3 with (fail)
      go_cut [5] (fun p wx => ∃ Y a1 c1, p = .pointer (some ⟨Y, 0, none⟩) ∧ wx.heap[Y]? = some (.cells #[.int .i64 mf, .int .i64 mt, .int .i64 mk, .slice a1 nn c1, .slice none 0 0] 49 (0, 0)) ∧ OwnI wx V.heap.size 2 (.slice a1 nn c1) ns ∧ Below V.heap.size V wx ∧ V.heap.size ≤ Y)
      case first =>
        have HW0 : Hid (Below V.heap.size V V.drew) := Lib.hid (below_drew (Below.refl _ _) 1)
        refine wp_region_held_drew (S := fun w' => Below V.heap.size V w') (by kernel_rfl) (below_drew (Below.refl _ _) 1) (fun hHeld => ?_)
        refine wpAnyH_take (i := 0) (oi := { dst := some 43, op := Op.fieldAddr 49 (Operand.tmp 3) 0, type := 0, pos := _, after := #[], guard := none }) (v := ?_) rfl (by kernel_rfl) (by kernel_rfl) (by kernel_rfl) (fun _ _ _ h => h) (Or.inl ⟨by rfl, ?_⟩) (by exact hHeld) ?_
        rotate_left
        · (intro w hSw; (try dsimp only at hSw); go_simp <;> with_reducible rfl)
        try simp only [Act.put, List.setIfInBounds_toArray, List.set_cons_zero, List.set_cons_succ]
        refine wpAnyH_take (i := 1) (oi := { dst := some 44, op := Op.load 3 (Operand.tmp 43), type := 3, pos := _, after := #[{ on := 0, ground := Ground.data }], guard := none }) (v := ?_) rfl (by kernel_rfl) (by kernel_rfl) (by kernel_rfl) (fun _ _ _ h => h) (Or.inl ⟨by rfl, ?_⟩) (by exact hHeld) ?_
        rotate_left
        · (intro w hSw; (try dsimp only at hSw); go_simp <;> with_reducible rfl)
        try simp only [Act.put, List.setIfInBounds_toArray, List.set_cons_zero, List.set_cons_succ]
        refine wpAnyH_take (i := 2) (oi := { dst := some 45, op := Op.fieldAddr 49 (Operand.tmp 3) 1, type := 0, pos := _, after := #[], guard := none }) (v := ?_) rfl (by kernel_rfl) (by kernel_rfl) (by kernel_rfl) (fun _ _ _ h => h) (Or.inl ⟨by rfl, ?_⟩) (by exact hHeld) ?_
        rotate_left
        · (intro w hSw; (try dsimp only at hSw); go_simp <;> with_reducible rfl)
        try simp only [Act.put, List.setIfInBounds_toArray, List.set_cons_zero, List.set_cons_succ]
        refine wpAnyH_take (i := 3) (oi := { dst := some 46, op := Op.load 3 (Operand.tmp 45), type := 3, pos := _, after := #[{ on := 2, ground := Ground.data }], guard := none }) (v := ?_) rfl (by kernel_rfl) (by kernel_rfl) (by kernel_rfl) (fun _ _ _ h => h) (Or.inl ⟨by rfl, ?_⟩) (by exact hHeld) ?_
        rotate_left
        · (intro w hSw; (try dsimp only at hSw); go_simp <;> with_reducible rfl)
        try simp only [Act.put, List.setIfInBounds_toArray, List.set_cons_zero, List.set_cons_succ]
        refine wpAnyH_take (i := 4) (oi := { dst := some 47, op := Op.fieldAddr 49 (Operand.tmp 3) 2, type := 0, pos := _, after := #[], guard := none }) (v := ?_) rfl (by kernel_rfl) (by kernel_rfl) (by kernel_rfl) (fun _ _ _ h => h) (Or.inl ⟨by rfl, ?_⟩) (by exact hHeld) ?_
        rotate_left
        · (intro w hSw; (try dsimp only at hSw); go_simp <;> with_reducible rfl)
        try simp only [Act.put, List.setIfInBounds_toArray, List.set_cons_zero, List.set_cons_succ]
        refine wpAnyH_take (i := 5) (oi := { dst := some 48, op := Op.load 3 (Operand.tmp 47), type := 3, pos := _, after := #[{ on := 4, ground := Ground.data }], guard := none }) (v := ?_) rfl (by kernel_rfl) (by kernel_rfl) (by kernel_rfl) (fun _ _ _ h => h) (Or.inl ⟨by rfl, ?_⟩) (by exact hHeld) ?_
        rotate_left
        · (intro w hSw; (try dsimp only at hSw); go_simp <;> with_reducible rfl)
        try simp only [Act.put, List.setIfInBounds_toArray, List.set_cons_zero, List.set_cons_succ]
        refine wpAnyH_take (i := 7) (oi := { dst := some 50, op := Op.fieldAddr 49 (Operand.tmp 3) 3, type := 0, pos := _, after := #[], guard := none }) (v := ?_) rfl (by kernel_rfl) (by kernel_rfl) (by kernel_rfl) (fun _ _ _ h => h) (Or.inl ⟨by rfl, ?_⟩) (by exact hHeld) ?_
        rotate_left
        · (intro w hSw; (try dsimp only at hSw); go_simp <;> with_reducible rfl)
        try simp only [Act.put, List.setIfInBounds_toArray, List.set_cons_zero, List.set_cons_succ]
        refine wpAnyH_take (i := 8) (oi := { dst := some 51, op := Op.load 29 (Operand.tmp 50), type := 29, pos := _, after := #[{ on := 7, ground := Ground.data }], guard := none }) (v := ?_) rfl (by kernel_rfl) (by kernel_rfl) (by kernel_rfl) (fun _ _ _ h => h) (Or.inl ⟨by rfl, ?_⟩) (by exact hHeld) ?_
        rotate_left
        · (intro w hSw; (try dsimp only at hSw); go_simp <;> with_reducible rfl)
        try simp only [Act.put, List.setIfInBounds_toArray, List.set_cons_zero, List.set_cons_succ]
        generalize V.drew = v0 at *
        refine wpAnyH_ready (rs := [6, 11]) (by kernel_rfl) (by simp) ?_
        refine AllReadyH.cons (o := { dst := some 49, op := Op.buildSlice 29 0 #[], type := 29, pos := _, after := #[], guard := none }) rfl (fun K hK => ?_) (AllReadyH.cons (o := { dst := some 5, op := Op.alloc 49, type := 0, pos := _, after := #[], guard := none }) rfl (fun K hK => ?_) AllReadyH.nil)
        · go_simp
          refine hK.out _ _ (hHeld.alloc hHeld.size _) (fun hHeld => ?_)
          clear hK K
          try simp only [Act.put, List.setIfInBounds_toArray, List.set_cons_zero, List.set_cons_succ]
          have hw1 : Below V.heap.size V (v0.alloc (.cells #[] 2)) := HW0.out.alloc HW0.out.size _
          have hn1 := heap_new v0 (.cells #[] 2)
          generalize (v0.alloc (.cells #[] 2)) = v1 at *
          have HW1 := Lib.hid hw1
          have HE1 := Lib.hid hn1
          clear hw1 hn1 
          refine wpAnyH_ready (rs := [9, 11]) (by kernel_rfl) (by simp) ?_
          refine AllReadyH.cons (o := { dst := some 52, op := Op.call { callee := Callee.builtin Builtin.append, args := #[Operand.tmp 49, Operand.tmp 51], argTypes := #[29, 29] }, type := 29, pos := _, after := #[{ on := 6, ground := Ground.data }, { on := 8, ground := Ground.data }], guard := none }) rfl (fun K hK => ?_) (AllReadyH.cons (o := { dst := some 5, op := Op.alloc 49, type := 0, pos := _, after := #[], guard := none }) rfl (fun K hK => ?_) AllReadyH.nil)
          · refine step_of_list rfl fun Q' hQ => ?_
            refine wpList_append_ints rfl (.tmp 49) (.tmp 51) 29 rfl V.heap.size 2 Try.underlying29 info2 (.slice (some ⟨v0.heap.size, 0, none⟩) 0 0) [] rfl (own_nilI HE1.out HW0.out.size) _ _ _ ns rfl (HIC.out _ HW1.out) hlen HW1.out.size ?_
            intro x2 v2 ho2 hg2 hb2
            rw [List.nil_append] at ho2
            obtain ⟨a5, c5, e5, _⟩ := ho2.isI
            rw [HN.out] at e5
            subst e5
            refine hQ _ _ ?_
            clear hQ Q'
            refine hK.out _ _ (hHeld.trans hb2) (fun hHeld => ?_)
            clear hK K
            try simp only [Act.put, List.setIfInBounds_toArray, List.set_cons_zero, List.set_cons_succ]
            have HW2 := Lib.hid (HW1.out.trans hb2)
            have HO2 := Lib.hid ho2
            clear ho2 hg2 hb2
            refine wpAnyH_ready (rs := [10, 11]) (by kernel_rfl) (by simp) ?_
            refine AllReadyH.cons (o := { dst := some 53, op := Op.build 49 #[(0, Operand.tmp 44), (1, Operand.tmp 46), (2, Operand.tmp 48), (3, Operand.tmp 52)], type := 49, pos := _, after := #[{ on := 1, ground := Ground.data }, { on := 3, ground := Ground.data }, { on := 5, ground := Ground.data }, { on := 9, ground := Ground.data }], guard := none }) rfl (fun K hK => ?_) (AllReadyH.cons (o := { dst := some 5, op := Op.alloc 49, type := 0, pos := _, after := #[], guard := none }) rfl (fun K hK => ?_) AllReadyH.nil)
            · go_simp
              refine hK.out _ _ hHeld (fun hHeld => ?_)
              clear hK K
              try simp only [Act.put, List.setIfInBounds_toArray, List.set_cons_zero, List.set_cons_succ]
              refine wpAnyH_ready (rs := [11]) (by kernel_rfl) (by simp) ?_
              refine AllReadyH.cons (o := { dst := some 5, op := Op.alloc 49, type := 0, pos := _, after := #[], guard := none }) rfl (fun K hK => ?_) AllReadyH.nil
              go_simp
              refine hK.out _ _ (hHeld.alloc hHeld.size _) (fun hHeld => ?_)
              clear hK K
              try simp only [Act.put, List.setIfInBounds_toArray, List.set_cons_zero, List.set_cons_succ]
              have hw3 : Below V.heap.size V (v2.alloc (.cells Z49 49)) := HW2.out.alloc HW2.out.size _
              have hn3 := heap_new v2 (.cells Z49 49)
              have ho3 := HO2.out.alloc (.cells Z49 49)
              generalize (v2.alloc (.cells Z49 49)) = v3 at *
              have HW3 := Lib.hid hw3
              have HZ3 := Lib.hid hn3
              have HO3 := Lib.hid ho3
              clear hw3 hn3  ho3
              refine wpAnyH_ready (rs := [12]) (by kernel_rfl) (by simp) ?_
              refine AllReadyH.cons (o := { dst := none, op := Op.store 49 (Operand.tmp 5) (Operand.tmp 53), type := 0, pos := _, after := #[{ on := 11, ground := Ground.data }, { on := 10, ground := Ground.data }, { on := 9, ground := Ground.chain }, { on := 0, ground := Ground.phase }, { on := 1, ground := Ground.phase }, { on := 2, ground := Ground.phase }, { on := 3, ground := Ground.phase }, { on := 4, ground := Ground.phase }, { on := 5, ground := Ground.phase }, { on := 6, ground := Ground.phase }, { on := 7, ground := Ground.phase }, { on := 8, ground := Ground.phase }, { on := 9, ground := Ground.phase }, { on := 10, ground := Ground.phase }, { on := 11, ground := Ground.phase }], guard := none }) rfl (fun K hK => ?_) AllReadyH.nil
              have hon : Only [v2.heap.size] v3 (v3.setRow (v2.heap.size) #[.int .i64 mf, .int .i64 mt, .int .i64 mk, .slice a5 nn c5, .slice none 0 0]) := ⟨rfl, rfl, rfl, by simp, fun k _ hk => setRow_other _ _ _ _ (by simpa using hk)⟩
              have hB := hon.below HW3.out.size (by simpa using HW2.out.size)
              refine step_of_list rfl fun Q' hQ => ?_
              refine wpList_store_row rfl 49 (.tmp 5) (.tmp 53) rfl (v2.heap.size) #[.int .i64 mf, .int .i64 mt, .int .i64 mk, .slice a5 nn c5, .slice none 0 0] rfl rfl 49 _ HZ3.out size49 rfl (five_ones _ _ _ _ _ _ _ _ _) ?_
              refine hQ _ _ ?_
              clear hQ Q'
              refine hK.out _ _ (hHeld.trans hB) (fun hHeld => ?_)
              clear hK K
              try simp only [Act.put, List.setIfInBounds_toArray, List.set_cons_zero, List.set_cons_succ]
              refine wpAnyH_done (by kernel_rfl) ?_ _
              go_wp2_with fail
              go_meet
              exact ⟨v2.heap.size, a5, c5, rfl, setRow_heap _ _ _ _ 49 (0, 0) HZ3.out, rows_types HO3.out hon (fun j hj cur => by rw [List.mem_singleton.1 hj, HZ3.out]; simp), HW3.out.trans hB, HW2.out.size⟩
            · go_simp
              refine hK.out _ _ (hHeld.alloc hHeld.size _) (fun hHeld => ?_)
              clear hK K
              try simp only [Act.put, List.setIfInBounds_toArray, List.set_cons_zero, List.set_cons_succ]
              have hw3 : Below V.heap.size V (v2.alloc (.cells Z49 49)) := HW2.out.alloc HW2.out.size _
              have hn3 := heap_new v2 (.cells Z49 49)
              have ho3 := HO2.out.alloc (.cells Z49 49)
              generalize (v2.alloc (.cells Z49 49)) = v3 at *
              have HW3 := Lib.hid hw3
              have HZ3 := Lib.hid hn3
              have HO3 := Lib.hid ho3
              clear hw3 hn3  ho3
              refine wpAnyH_ready (rs := [10]) (by kernel_rfl) (by simp) ?_
              refine AllReadyH.cons (o := { dst := some 53, op := Op.build 49 #[(0, Operand.tmp 44), (1, Operand.tmp 46), (2, Operand.tmp 48), (3, Operand.tmp 52)], type := 49, pos := _, after := #[{ on := 1, ground := Ground.data }, { on := 3, ground := Ground.data }, { on := 5, ground := Ground.data }, { on := 9, ground := Ground.data }], guard := none }) rfl (fun K hK => ?_) AllReadyH.nil
              go_simp
              refine hK.out _ _ hHeld (fun hHeld => ?_)
              clear hK K
              try simp only [Act.put, List.setIfInBounds_toArray, List.set_cons_zero, List.set_cons_succ]
              refine wpAnyH_ready (rs := [12]) (by kernel_rfl) (by simp) ?_
              refine AllReadyH.cons (o := { dst := none, op := Op.store 49 (Operand.tmp 5) (Operand.tmp 53), type := 0, pos := _, after := #[{ on := 11, ground := Ground.data }, { on := 10, ground := Ground.data }, { on := 9, ground := Ground.chain }, { on := 0, ground := Ground.phase }, { on := 1, ground := Ground.phase }, { on := 2, ground := Ground.phase }, { on := 3, ground := Ground.phase }, { on := 4, ground := Ground.phase }, { on := 5, ground := Ground.phase }, { on := 6, ground := Ground.phase }, { on := 7, ground := Ground.phase }, { on := 8, ground := Ground.phase }, { on := 9, ground := Ground.phase }, { on := 10, ground := Ground.phase }, { on := 11, ground := Ground.phase }], guard := none }) rfl (fun K hK => ?_) AllReadyH.nil
              have hon : Only [v2.heap.size] v3 (v3.setRow (v2.heap.size) #[.int .i64 mf, .int .i64 mt, .int .i64 mk, .slice a5 nn c5, .slice none 0 0]) := ⟨rfl, rfl, rfl, by simp, fun k _ hk => setRow_other _ _ _ _ (by simpa using hk)⟩
              have hB := hon.below HW3.out.size (by simpa using HW2.out.size)
              refine step_of_list rfl fun Q' hQ => ?_
              refine wpList_store_row rfl 49 (.tmp 5) (.tmp 53) rfl (v2.heap.size) #[.int .i64 mf, .int .i64 mt, .int .i64 mk, .slice a5 nn c5, .slice none 0 0] rfl rfl 49 _ HZ3.out size49 rfl (five_ones _ _ _ _ _ _ _ _ _) ?_
              refine hQ _ _ ?_
              clear hQ Q'
              refine hK.out _ _ (hHeld.trans hB) (fun hHeld => ?_)
              clear hK K
              try simp only [Act.put, List.setIfInBounds_toArray, List.set_cons_zero, List.set_cons_succ]
              refine wpAnyH_done (by kernel_rfl) ?_ _
              go_wp2_with fail
              go_meet
              exact ⟨v2.heap.size, a5, c5, rfl, setRow_heap _ _ _ _ 49 (0, 0) HZ3.out, rows_types HO3.out hon (fun j hj cur => by rw [List.mem_singleton.1 hj, HZ3.out]; simp), HW3.out.trans hB, HW2.out.size⟩
          · go_simp
            refine hK.out _ _ (hHeld.alloc hHeld.size _) (fun hHeld => ?_)
            clear hK K
            try simp only [Act.put, List.setIfInBounds_toArray, List.set_cons_zero, List.set_cons_succ]
            have hw2 : Below V.heap.size V (v1.alloc (.cells Z49 49)) := HW1.out.alloc HW1.out.size _
            have hn2 := heap_new v1 (.cells Z49 49)
            have he2 := heap_old HE1.out (.cells Z49 49)
            generalize (v1.alloc (.cells Z49 49)) = v2 at *
            have HW2 := Lib.hid hw2
            have HZ2 := Lib.hid hn2
            have HE2 := Lib.hid he2
            clear hw2 hn2 he2
            refine wpAnyH_ready (rs := [9]) (by kernel_rfl) (by simp) ?_
            refine AllReadyH.cons (o := { dst := some 52, op := Op.call { callee := Callee.builtin Builtin.append, args := #[Operand.tmp 49, Operand.tmp 51], argTypes := #[29, 29] }, type := 29, pos := _, after := #[{ on := 6, ground := Ground.data }, { on := 8, ground := Ground.data }], guard := none }) rfl (fun K hK => ?_) AllReadyH.nil
            refine step_of_list rfl fun Q' hQ => ?_
            refine wpList_append_ints rfl (.tmp 49) (.tmp 51) 29 rfl V.heap.size 2 Try.underlying29 info2 (.slice (some ⟨v0.heap.size, 0, none⟩) 0 0) [] rfl (own_nilI HE2.out HW0.out.size) _ _ _ ns rfl (HIC.out _ HW2.out) hlen HW2.out.size ?_
            intro x3 v3 ho3 hg3 hb3
            rw [List.nil_append] at ho3
            obtain ⟨a5, c5, e5, _⟩ := ho3.isI
            rw [HN.out] at e5
            subst e5
            refine hQ _ _ ?_
            clear hQ Q'
            refine hK.out _ _ (hHeld.trans hb3) (fun hHeld => ?_)
            clear hK K
            try simp only [Act.put, List.setIfInBounds_toArray, List.set_cons_zero, List.set_cons_succ]
            have HW3 := Lib.hid (HW2.out.trans hb3)
            have HO3 := Lib.hid ho3
            have HZ3 := Lib.hid (grown_keep hg3 HZ2.out (by intro e; have h1 := HE2.out; have h2 := HZ2.out; rw [show v1.heap.size = v0.heap.size from e] at h2; rw [h1] at h2; simp at h2))
            clear ho3 hg3 hb3
            refine wpAnyH_ready (rs := [10]) (by kernel_rfl) (by simp) ?_
            refine AllReadyH.cons (o := { dst := some 53, op := Op.build 49 #[(0, Operand.tmp 44), (1, Operand.tmp 46), (2, Operand.tmp 48), (3, Operand.tmp 52)], type := 49, pos := _, after := #[{ on := 1, ground := Ground.data }, { on := 3, ground := Ground.data }, { on := 5, ground := Ground.data }, { on := 9, ground := Ground.data }], guard := none }) rfl (fun K hK => ?_) AllReadyH.nil
            go_simp
            refine hK.out _ _ hHeld (fun hHeld => ?_)
            clear hK K
            try simp only [Act.put, List.setIfInBounds_toArray, List.set_cons_zero, List.set_cons_succ]
            refine wpAnyH_ready (rs := [12]) (by kernel_rfl) (by simp) ?_
            refine AllReadyH.cons (o := { dst := none, op := Op.store 49 (Operand.tmp 5) (Operand.tmp 53), type := 0, pos := _, after := #[{ on := 11, ground := Ground.data }, { on := 10, ground := Ground.data }, { on := 9, ground := Ground.chain }, { on := 0, ground := Ground.phase }, { on := 1, ground := Ground.phase }, { on := 2, ground := Ground.phase }, { on := 3, ground := Ground.phase }, { on := 4, ground := Ground.phase }, { on := 5, ground := Ground.phase }, { on := 6, ground := Ground.phase }, { on := 7, ground := Ground.phase }, { on := 8, ground := Ground.phase }, { on := 9, ground := Ground.phase }, { on := 10, ground := Ground.phase }, { on := 11, ground := Ground.phase }], guard := none }) rfl (fun K hK => ?_) AllReadyH.nil
            have hon : Only [v1.heap.size] v3 (v3.setRow (v1.heap.size) #[.int .i64 mf, .int .i64 mt, .int .i64 mk, .slice a5 nn c5, .slice none 0 0]) := ⟨rfl, rfl, rfl, by simp, fun k _ hk => setRow_other _ _ _ _ (by simpa using hk)⟩
            have hB := hon.below HW3.out.size (by simpa using HW1.out.size)
            refine step_of_list rfl fun Q' hQ => ?_
            refine wpList_store_row rfl 49 (.tmp 5) (.tmp 53) rfl (v1.heap.size) #[.int .i64 mf, .int .i64 mt, .int .i64 mk, .slice a5 nn c5, .slice none 0 0] rfl rfl 49 _ HZ3.out size49 rfl (five_ones _ _ _ _ _ _ _ _ _) ?_
            refine hQ _ _ ?_
            clear hQ Q'
            refine hK.out _ _ (hHeld.trans hB) (fun hHeld => ?_)
            clear hK K
            try simp only [Act.put, List.setIfInBounds_toArray, List.set_cons_zero, List.set_cons_succ]
            refine wpAnyH_done (by kernel_rfl) ?_ _
            go_wp2_with fail
            go_meet
            exact ⟨v1.heap.size, a5, c5, rfl, setRow_heap _ _ _ _ 49 (0, 0) HZ3.out, rows_types HO3.out hon (fun j hj cur => by rw [List.mem_singleton.1 hj, HZ3.out]; simp), HW3.out.trans hB, HW1.out.size⟩
        · go_simp
          refine hK.out _ _ (hHeld.alloc hHeld.size _) (fun hHeld => ?_)
          clear hK K
          try simp only [Act.put, List.setIfInBounds_toArray, List.set_cons_zero, List.set_cons_succ]
          have hw1 : Below V.heap.size V (v0.alloc (.cells Z49 49)) := HW0.out.alloc HW0.out.size _
          have hn1 := heap_new v0 (.cells Z49 49)
          generalize (v0.alloc (.cells Z49 49)) = v1 at *
          have HW1 := Lib.hid hw1
          have HZ1 := Lib.hid hn1
          clear hw1 hn1 
          refine wpAnyH_ready (rs := [6]) (by kernel_rfl) (by simp) ?_
          refine AllReadyH.cons (o := { dst := some 49, op := Op.buildSlice 29 0 #[], type := 29, pos := _, after := #[], guard := none }) rfl (fun K hK => ?_) AllReadyH.nil
          go_simp
          refine hK.out _ _ (hHeld.alloc hHeld.size _) (fun hHeld => ?_)
          clear hK K
          try simp only [Act.put, List.setIfInBounds_toArray, List.set_cons_zero, List.set_cons_succ]
          have hw2 : Below V.heap.size V (v1.alloc (.cells #[] 2)) := HW1.out.alloc HW1.out.size _
          have hn2 := heap_new v1 (.cells #[] 2)
          have hz2 := heap_old HZ1.out (.cells #[] 2)
          generalize (v1.alloc (.cells #[] 2)) = v2 at *
          have HW2 := Lib.hid hw2
          have HE2 := Lib.hid hn2
          have HZ2 := Lib.hid hz2
          clear hw2 hn2 hz2
          refine wpAnyH_ready (rs := [9]) (by kernel_rfl) (by simp) ?_
          refine AllReadyH.cons (o := { dst := some 52, op := Op.call { callee := Callee.builtin Builtin.append, args := #[Operand.tmp 49, Operand.tmp 51], argTypes := #[29, 29] }, type := 29, pos := _, after := #[{ on := 6, ground := Ground.data }, { on := 8, ground := Ground.data }], guard := none }) rfl (fun K hK => ?_) AllReadyH.nil
          refine step_of_list rfl fun Q' hQ => ?_
          refine wpList_append_ints rfl (.tmp 49) (.tmp 51) 29 rfl V.heap.size 2 Try.underlying29 info2 (.slice (some ⟨v1.heap.size, 0, none⟩) 0 0) [] rfl (own_nilI HE2.out HW1.out.size) _ _ _ ns rfl (HIC.out _ HW2.out) hlen HW2.out.size ?_
          intro x3 v3 ho3 hg3 hb3
          rw [List.nil_append] at ho3
          obtain ⟨a5, c5, e5, _⟩ := ho3.isI
          rw [HN.out] at e5
          subst e5
          refine hQ _ _ ?_
          clear hQ Q'
          refine hK.out _ _ (hHeld.trans hb3) (fun hHeld => ?_)
          clear hK K
          try simp only [Act.put, List.setIfInBounds_toArray, List.set_cons_zero, List.set_cons_succ]
          have HW3 := Lib.hid (HW2.out.trans hb3)
          have HO3 := Lib.hid ho3
          have HZ3 := Lib.hid (grown_keep hg3 HZ2.out (by intro e; have h1 := HE2.out; have h2 := HZ2.out; rw [show v0.heap.size = v1.heap.size from e] at h2; rw [h1] at h2; simp at h2))
          clear ho3 hg3 hb3
          refine wpAnyH_ready (rs := [10]) (by kernel_rfl) (by simp) ?_
          refine AllReadyH.cons (o := { dst := some 53, op := Op.build 49 #[(0, Operand.tmp 44), (1, Operand.tmp 46), (2, Operand.tmp 48), (3, Operand.tmp 52)], type := 49, pos := _, after := #[{ on := 1, ground := Ground.data }, { on := 3, ground := Ground.data }, { on := 5, ground := Ground.data }, { on := 9, ground := Ground.data }], guard := none }) rfl (fun K hK => ?_) AllReadyH.nil
          go_simp
          refine hK.out _ _ hHeld (fun hHeld => ?_)
          clear hK K
          try simp only [Act.put, List.setIfInBounds_toArray, List.set_cons_zero, List.set_cons_succ]
          refine wpAnyH_ready (rs := [12]) (by kernel_rfl) (by simp) ?_
          refine AllReadyH.cons (o := { dst := none, op := Op.store 49 (Operand.tmp 5) (Operand.tmp 53), type := 0, pos := _, after := #[{ on := 11, ground := Ground.data }, { on := 10, ground := Ground.data }, { on := 9, ground := Ground.chain }, { on := 0, ground := Ground.phase }, { on := 1, ground := Ground.phase }, { on := 2, ground := Ground.phase }, { on := 3, ground := Ground.phase }, { on := 4, ground := Ground.phase }, { on := 5, ground := Ground.phase }, { on := 6, ground := Ground.phase }, { on := 7, ground := Ground.phase }, { on := 8, ground := Ground.phase }, { on := 9, ground := Ground.phase }, { on := 10, ground := Ground.phase }, { on := 11, ground := Ground.phase }], guard := none }) rfl (fun K hK => ?_) AllReadyH.nil
          have hon : Only [v0.heap.size] v3 (v3.setRow (v0.heap.size) #[.int .i64 mf, .int .i64 mt, .int .i64 mk, .slice a5 nn c5, .slice none 0 0]) := ⟨rfl, rfl, rfl, by simp, fun k _ hk => setRow_other _ _ _ _ (by simpa using hk)⟩
          have hB := hon.below HW3.out.size (by simpa using HW0.out.size)
          refine step_of_list rfl fun Q' hQ => ?_
          refine wpList_store_row rfl 49 (.tmp 5) (.tmp 53) rfl (v0.heap.size) #[.int .i64 mf, .int .i64 mt, .int .i64 mk, .slice a5 nn c5, .slice none 0 0] rfl rfl 49 _ HZ3.out size49 rfl (five_ones _ _ _ _ _ _ _ _ _) ?_
          refine hQ _ _ ?_
          clear hQ Q'
          refine hK.out _ _ (hHeld.trans hB) (fun hHeld => ?_)
          clear hK K
          try simp only [Act.put, List.setIfInBounds_toArray, List.set_cons_zero, List.set_cons_succ]
          refine wpAnyH_done (by kernel_rfl) ?_ _
          go_wp2_with fail
          go_meet
          exact ⟨v0.heap.size, a5, c5, rfl, setRow_heap _ _ _ _ 49 (0, 0) HZ3.out, rows_types HO3.out hon (fun j hj cur => by rw [List.mem_singleton.1 hj, HZ3.out]; simp), HW3.out.trans hB, HW0.out.size⟩
      case rest =>
        obtain ⟨Y, a1, c1, rfl, hY, hoN, hbY, hge⟩ := hcut
        have hX4 : ∀ w', Below V.heap.size V w' → w'.cell? ⟨X, 4, none⟩ = some (.slice bo bs.length cB) := fun w' hb => by rw [cell_heap (heap_below hb (lt_of_heap HX5.out) HX5.out)]; rfl
        have hLB : bs.length ≤ 100000 := HL.out.2.1
        have HV := Lib.hid (LoopS.start (bs := bs) hY hoN hbY)
        have HGE := Lib.hid hge
        clear hY hoN hbY hge
        generalize hnb : bs.length = nb at *
        have HNB := Lib.hid hnb
        clear hnb
        go_wp2_with fail
        go_loopw [6] (fun i wr => ∃ j : Nat, j ≤ nb ∧ i = .int .i64 (j : Int) ∧ LoopS V V.heap.size Y mf mt mk a1 nn c1 ns bs j wr) (fun i _ => nb - (intOf i).toNat)
        case atStart => exact ⟨0, by omega, rfl, HV.out⟩
        case round =>
          obtain ⟨j, hj, rfl, hls⟩ := hrel
          have HBR := Lib.hid hls.below
          have hX4r := hX4 wr hls.below
          obtain ⟨⟨vo, vc, hy, hol⟩, hoi, _⟩ := hls
          have HY := Lib.hid hy; have HOL := Lib.hid hol; have HOI := Lib.hid hoi
          clear hy hol hoi
          by_cases hlt : j < nb
          · obtain ⟨b, off, ea, em, ec, rfl, hce, hel, HEL⟩ : ∃ b off ea em ec, bo = some ⟨b, off, none⟩ ∧ (∀ w', Below V.heap.size V w' → w'.cell? ⟨b, off + j, none⟩ = some (.slice ea em ec)) ∧ ([] : List UInt8).length + em ≤ 140737488355328 ∧ Hid (∀ w', Below V.heap.size V w' → IsB w' ea em ec (bs.getD j [])) := by
              rcases HB.out.at_ with h0 | ⟨b, off, h1, h2⟩
              · omega
              · obtain ⟨a2, m2, k2, h3, h4, h5⟩ := h2 j hlt
                exact ⟨b, off, a2, m2, k2, h1, fun w' hb => cell_later (HWC.out.trans (hb.mono HWC.out.size)) h3, by simp; omega, Lib.hid fun w' hb => h4.below (HWC.out.trans (hb.mono HWC.out.size))⟩
            have HTK : Hid (bs.take (j + 1) = bs.take j ++ [bs.getD j []]) := Lib.hid (by
              rw [List.take_succ_eq_append_getElem (by rw [HNB.out]; exact hlt)]
              simp [show j < bs.length by rw [HNB.out]; exact hlt])
            have HTL : Hid ((bs.take j).length = j) := Lib.hid (by rw [List.length_take, HNB.out]; omega)
            have HTB : Hid ((bs.take j).length + 1 ≤ 1000000) := Lib.hid (by rw [HTL.out]; omega)
            generalize bs.getD j [] = el at *
            have hji : (j : Int) < (nb : Int) := by omega
            have HCE := Lib.hid hce; have HLE := Lib.hid hel; have HX4 := Lib.hid hX4; have HJI := Lib.hid hji
            clear hce hel hX4 hji
            go_upto_block 1 with (fail)
            clear hX4r
            have hce := HCE.out; have hel := HLE.out; have hX4 := HX4.out; have hji := HJI.out
            go_cut [] (fun wx => LoopS V V.heap.size Y mf mt mk a1 nn c1 ns bs (j + 1) wx)
            case first =>
              go_upto_region 7 with (fail)
              have HW0 : Hid (Below wr.heap.size wr wr.drew) := Lib.hid (below_drew (Below.refl _ _) 1)
              refine wp_region_held_drew (S := fun w' => Below V.heap.size V w') (by kernel_rfl) (below_drew HBR.out 1) (fun hHeld => ?_)
              refine wpAnyH_take (i := 0) (oi := { dst := some 61, op := Op.fieldAddr 49 (Operand.tmp 5) 4, type := 0, pos := _, after := #[], guard := none }) (v := ?_) rfl (by kernel_rfl) (by kernel_rfl) (by kernel_rfl) (fun _ _ _ h => h) (Or.inl ⟨by rfl, ?_⟩) (by exact hHeld) ?_
              rotate_left
              · (intro w hSw; (try dsimp only at hSw); go_simp <;> with_reducible rfl)
              try simp only [Act.put, List.setIfInBounds_toArray, List.set_cons_zero, List.set_cons_succ]
              refine wpAnyH_take (i := 3) (oi := { dst := some 64, op := Op.fieldAddr 49 (Operand.tmp 3) 4, type := 0, pos := _, after := #[], guard := none }) (v := ?_) rfl (by kernel_rfl) (by kernel_rfl) (by kernel_rfl) (fun _ _ _ h => h) (Or.inl ⟨by rfl, ?_⟩) (by exact hHeld) ?_
              rotate_left
              · (intro w hSw; (try dsimp only at hSw); go_simp <;> with_reducible rfl)
              try simp only [Act.put, List.setIfInBounds_toArray, List.set_cons_zero, List.set_cons_succ]
              refine wpAnyH_take (i := 4) (oi := { dst := some 65, op := Op.load 30 (Operand.tmp 64), type := 30, pos := _, after := #[{ on := 3, ground := Ground.data }], guard := none }) (v := ?_) rfl (by kernel_rfl) (by kernel_rfl) (by kernel_rfl) (fun _ _ _ h => h) (Or.inl ⟨by rfl, ?_⟩) (by exact hHeld) ?_
              rotate_left
              · (intro w hSw; (try dsimp only at hSw); go_simp <;> with_reducible rfl)
              try simp only [Act.put, List.setIfInBounds_toArray, List.set_cons_zero, List.set_cons_succ]
              refine wpAnyH_take (i := 5) (oi := { dst := some 66, op := Op.move (Operand.tmp 6), type := 3, pos := _, after := #[], guard := none }) (v := ?_) rfl (by kernel_rfl) (by kernel_rfl) (by kernel_rfl) (fun _ _ _ h => h) (Or.inl ⟨by rfl, ?_⟩) (by exact hHeld) ?_
              rotate_left
              · (intro w hSw; (try dsimp only at hSw); go_simp <;> with_reducible rfl)
              try simp only [Act.put, List.setIfInBounds_toArray, List.set_cons_zero, List.set_cons_succ]
              refine wpAnyH_take (i := 6) (oi := { dst := some 67, op := Op.indexAddr 30 (Operand.tmp 65) (Operand.tmp 66), type := 0, pos := _, after := #[{ on := 4, ground := Ground.data }, { on := 5, ground := Ground.data }], guard := none }) (v := ?_) rfl (by kernel_rfl) (by kernel_rfl) (by kernel_rfl) (fun _ _ _ h => h) (Or.inl ⟨by rfl, ?_⟩) (by exact hHeld) ?_
              rotate_left
              · (intro w hSw; (try dsimp only at hSw); go_simp <;> with_reducible rfl)
              try simp only [Act.put, List.setIfInBounds_toArray, List.set_cons_zero, List.set_cons_succ]
              refine wpAnyH_take (i := 7) (oi := { dst := some 68, op := Op.load 65 (Operand.tmp 67), type := 65, pos := _, after := #[{ on := 6, ground := Ground.data }], guard := none }) (v := ?_) rfl (by kernel_rfl) (by kernel_rfl) (by kernel_rfl) (fun _ _ _ h => h) (Or.inl ⟨by rfl, ?_⟩) (by exact hHeld) ?_
              rotate_left
              · (intro w hSw; (try dsimp only at hSw); go_simp <;> with_reducible rfl)
              try simp only [Act.put, List.setIfInBounds_toArray, List.set_cons_zero, List.set_cons_succ]
              generalize wr.drew = v0 at *
              refine wpAnyH_ready (rs := [1, 2]) (by kernel_rfl) (by simp) ?_
              refine AllReadyH.cons (o := { dst := some 62, op := Op.load 30 (Operand.tmp 61), type := 30, pos := _, after := #[{ on := 0, ground := Ground.data }], guard := none }) rfl (fun K hK => ?_) (AllReadyH.cons (o := { dst := some 63, op := Op.buildSlice 65 0 #[], type := 65, pos := _, after := #[], guard := none }) rfl (fun K hK => ?_) AllReadyH.nil)
              · have hy4 : v0.cell? ⟨Y, 4, none⟩ = some (.slice vo j vc) := by rw [cell_heap (heap_below HW0.out (lt_of_heap HY.out) HY.out)]; rfl
                go_simp
                clear hy4
                refine hK.out _ _ hHeld (fun hHeld => ?_)
                clear hK K
                try simp only [Act.put, List.setIfInBounds_toArray, List.set_cons_zero, List.set_cons_succ]
                refine wpAnyH_ready (rs := [2]) (by kernel_rfl) (by simp) ?_
                refine AllReadyH.cons (o := { dst := some 63, op := Op.buildSlice 65 0 #[], type := 65, pos := _, after := #[], guard := none }) rfl (fun K hK => ?_) AllReadyH.nil
                go_simp
                have hw1 : Below wr.heap.size wr (v0.alloc (.cells #[] 5)) := HW0.out.alloc HW0.out.size _
                refine hK.out _ _ (HBR.out.trans (hw1.mono HBR.out.size)) (fun hHeld => ?_)
                clear hK K
                try simp only [Act.put, List.setIfInBounds_toArray, List.set_cons_zero, List.set_cons_succ]
                have hn1 := heap_new v0 (.cells #[] 5)
                generalize (v0.alloc (.cells #[] 5)) = v1 at *
                have HW1 := Lib.hid hw1
                have HE1 := Lib.hid hn1
                clear hw1 hn1 
                refine wpAnyH_ready (rs := [8]) (by kernel_rfl) (by simp) ?_
                refine AllReadyH.cons (o := { dst := some 69, op := Op.call { callee := Callee.builtin Builtin.append, args := #[Operand.tmp 63, Operand.tmp 68], argTypes := #[65, 65] }, type := 65, pos := _, after := #[{ on := 2, ground := Ground.data }, { on := 7, ground := Ground.data }], guard := none }) rfl (fun K hK => ?_) AllReadyH.nil
                refine step_of_list rfl fun Q' hQ => ?_
                refine wpList_append_bytes rfl (.tmp 63) (.tmp 68) 65 rfl wr.heap.size 5 Try.underlying65 info5 (.slice (some ⟨v0.heap.size, 0, none⟩) 0 0) [] rfl (own_nilB HE1.out HW0.out.size) ea em ec el rfl (HEL.out _ (HBR.out.trans (HW1.out.mono HBR.out.size))) hel HW1.out.size ?_
                intro x2 v2 ho2 hg2 hb2
                rw [List.nil_append] at ho2
                obtain ⟨a5, c5, e5, _⟩ := ho2.isB
                subst e5
                refine hQ _ _ ?_
                clear hQ Q'
                have hw2 := HW1.out.trans hb2
                refine hK.out _ _ (HBR.out.trans (hw2.mono HBR.out.size)) (fun hHeld => ?_)
                clear hK K
                try simp only [Act.put, List.setIfInBounds_toArray, List.set_cons_zero, List.set_cons_succ]
                have HW2 := Lib.hid hw2
                have HO2 := Lib.hid ho2
                clear ho2 hg2 hb2 hw2
                refine wpAnyH_ready (rs := [9]) (by kernel_rfl) (by simp) ?_
                refine AllReadyH.cons (o := { dst := some 70, op := Op.buildSlice 30 1 #[(0, Operand.tmp 69)], type := 30, pos := _, after := #[{ on := 8, ground := Ground.data }], guard := none }) rfl (fun K hK => ?_) AllReadyH.nil
                go_simp
                have hw3 : Below wr.heap.size wr (v2.alloc (.cells #[.slice a5 el.length c5] 65)) := HW2.out.alloc HW2.out.size _
                refine hK.out _ _ (HBR.out.trans (hw3.mono HBR.out.size)) (fun hHeld => ?_)
                clear hK K
                try simp only [Act.put, List.setIfInBounds_toArray, List.set_cons_zero, List.set_cons_succ]
                have hn3 := heap_new v2 (.cells #[.slice a5 el.length c5] 65)
                have ho3 := OwnB.alloc HO2.out (.cells #[.slice a5 el.length c5] 65)
                generalize (v2.alloc (.cells #[.slice a5 el.length c5] 65)) = v3 at *
                have HW3 := Lib.hid hw3
                have HC3 := Lib.hid hn3
                have HO3 := Lib.hid ho3
                clear hw3 hn3 ho3
                refine wpAnyH_ready (rs := [10]) (by kernel_rfl) (by simp) ?_
                refine AllReadyH.cons (o := { dst := some 71, op := Op.call { callee := Callee.builtin Builtin.append, args := #[Operand.tmp 62, Operand.tmp 70], argTypes := #[30, 30] }, type := 30, pos := _, after := #[{ on := 1, ground := Ground.data }, { on := 9, ground := Ground.data }, { on := 8, ground := Ground.chain }], guard := none }) rfl (fun K hK => ?_) AllReadyH.nil
                have hbv : Below V.heap.size V v3 := HBR.out.trans (HW3.out.mono HBR.out.size)
                have hol := HOL.out.below HW3.out
                have hoi := HOI.out.below HW3.out
                have hyk := heap_below HW3.out (lt_of_heap HY.out) HY.out
                have hcl : v3.cell? ⟨v2.heap.size, 0, none⟩ = some (.slice a5 el.length c5) := by rw [cell_heap HC3.out]; rfl
                have HOLk := Lib.hid hol; have HOIk := Lib.hid hoi; have HYK := Lib.hid hyk; have HBV := Lib.hid hbv; have HCL := Lib.hid hcl
                clear hol hoi hyk hbv hcl
                refine step_of_list rfl fun Q' hQ => ?_
                refine wpList_append_own_sl rfl (.tmp 62) (.tmp 70) rfl V.heap.size (.slice vo j vc) (bs.take j) rfl HOLk.out (v2.heap.size) (.slice a5 el.length c5) el rfl HCL.out (HO3.out.mono HBR.out.size) HTB.out HBV.out.size ?_
                intro a6 c6 w6 ho6 hb6 hg6
                rw [HTL.out] at ho6 ⊢
                refine hQ _ _ ?_
                clear hQ Q'
                have hbv6 := HBV.out.trans hb6
                refine hK.out _ _ hbv6 (fun hHeld => ?_)
                clear hK K
                try simp only [Act.put, List.setIfInBounds_toArray, List.set_cons_zero, List.set_cons_succ]
                have HY6 : Hid (w6.heap[Y]? = _) := Lib.hid (by obtain ⟨vs, _, hr, _⟩ := HOLk.out; exact grown_type HYK.out hr (by decide) hg6)
                have HI6 : Hid (OwnI w6 V.heap.size 2 (.slice a1 nn c1) ns) := Lib.hid (by obtain ⟨vs, _, hr, _⟩ := HOLk.out; exact rows_grown HOIk.out hr (by decide) hg6)
                have HO6 := Lib.hid ho6
                have HB6 := Lib.hid hbv6
                clear ho6 hb6 hg6 hbv6
                refine wpAnyH_ready (rs := [11]) (by kernel_rfl) (by simp) ?_
                refine AllReadyH.cons (o := { dst := some 72, op := Op.fieldAddr 49 (Operand.tmp 5) 4, type := 0, pos := _, after := #[{ on := 0, ground := Ground.phase }, { on := 1, ground := Ground.phase }, { on := 2, ground := Ground.phase }, { on := 3, ground := Ground.phase }, { on := 4, ground := Ground.phase }, { on := 5, ground := Ground.phase }, { on := 6, ground := Ground.phase }, { on := 7, ground := Ground.phase }, { on := 8, ground := Ground.phase }, { on := 9, ground := Ground.phase }, { on := 10, ground := Ground.phase }], guard := none }) rfl (fun K hK => ?_) AllReadyH.nil
                go_simp
                refine hK.out _ _ hHeld (fun hHeld => ?_)
                clear hK K
                try simp only [Act.put, List.setIfInBounds_toArray, List.set_cons_zero, List.set_cons_succ]
                refine wpAnyH_ready (rs := [12]) (by kernel_rfl) (by simp) ?_
                refine AllReadyH.cons (o := { dst := none, op := Op.store 30 (Operand.tmp 72) (Operand.tmp 71), type := 0, pos := _, after := #[{ on := 11, ground := Ground.data }, { on := 10, ground := Ground.data }, { on := 10, ground := Ground.chain }, { on := 0, ground := Ground.phase }, { on := 1, ground := Ground.phase }, { on := 2, ground := Ground.phase }, { on := 3, ground := Ground.phase }, { on := 4, ground := Ground.phase }, { on := 5, ground := Ground.phase }, { on := 6, ground := Ground.phase }, { on := 7, ground := Ground.phase }, { on := 8, ground := Ground.phase }, { on := 9, ground := Ground.phase }, { on := 10, ground := Ground.phase }], guard := none }) rfl (fun K hK => ?_) AllReadyH.nil
                have hc6 : w6.cell? ⟨Y, 4, none⟩ = some (.slice vo j vc) := by rw [cell_heap HY6.out]; rfl
                have hf6 := free_heap HY6.out 4
                go_simp
                clear hc6 hf6
                have hB12 : Below V.heap.size w6 (w6.setCell ⟨Y, 4, none⟩ (.slice a6 (j + 1) c6)) := ((Only.refl [Y] w6).setCell (by simp) _).below HB6.out.size (by simpa using HGE.out)
                refine hK.out _ _ (hHeld.trans hB12) (fun hHeld => ?_)
                clear hK K
                try simp only [Act.put, List.setIfInBounds_toArray, List.set_cons_zero, List.set_cons_succ]
                refine wpAnyH_done (by kernel_rfl) ?_ _
                go_wp2_with fail
                go_meet
                exact ⟨⟨a6, c6, heap_set HY6.out 4 _, by rw [HTK.out]; exact HO6.out.only ((Only.refl [Y] w6).setCell (by simp) _) (fun q hq cur => by rw [List.mem_singleton.1 hq, HY6.out]; simp)⟩, rows_types HI6.out ((Only.refl [Y] w6).setCell (by simp) _) (fun q hq cur => by rw [List.mem_singleton.1 hq, HY6.out]; simp), HB6.out.trans hB12⟩
              · go_simp
                have hw1 : Below wr.heap.size wr (v0.alloc (.cells #[] 5)) := HW0.out.alloc HW0.out.size _
                refine hK.out _ _ (HBR.out.trans (hw1.mono HBR.out.size)) (fun hHeld => ?_)
                clear hK K
                try simp only [Act.put, List.setIfInBounds_toArray, List.set_cons_zero, List.set_cons_succ]
                have hn1 := heap_new v0 (.cells #[] 5)
                generalize (v0.alloc (.cells #[] 5)) = v1 at *
                have HW1 := Lib.hid hw1
                have HE1 := Lib.hid hn1
                clear hw1 hn1 
                refine wpAnyH_ready (rs := [1, 8]) (by kernel_rfl) (by simp) ?_
                refine AllReadyH.cons (o := { dst := some 62, op := Op.load 30 (Operand.tmp 61), type := 30, pos := _, after := #[{ on := 0, ground := Ground.data }], guard := none }) rfl (fun K hK => ?_) (AllReadyH.cons (o := { dst := some 69, op := Op.call { callee := Callee.builtin Builtin.append, args := #[Operand.tmp 63, Operand.tmp 68], argTypes := #[65, 65] }, type := 65, pos := _, after := #[{ on := 2, ground := Ground.data }, { on := 7, ground := Ground.data }], guard := none }) rfl (fun K hK => ?_) AllReadyH.nil)
                · have hy4 : v1.cell? ⟨Y, 4, none⟩ = some (.slice vo j vc) := by rw [cell_heap (heap_below HW1.out (lt_of_heap HY.out) HY.out)]; rfl
                  go_simp
                  clear hy4
                  refine hK.out _ _ hHeld (fun hHeld => ?_)
                  clear hK K
                  try simp only [Act.put, List.setIfInBounds_toArray, List.set_cons_zero, List.set_cons_succ]
                  refine wpAnyH_ready (rs := [8]) (by kernel_rfl) (by simp) ?_
                  refine AllReadyH.cons (o := { dst := some 69, op := Op.call { callee := Callee.builtin Builtin.append, args := #[Operand.tmp 63, Operand.tmp 68], argTypes := #[65, 65] }, type := 65, pos := _, after := #[{ on := 2, ground := Ground.data }, { on := 7, ground := Ground.data }], guard := none }) rfl (fun K hK => ?_) AllReadyH.nil
                  refine step_of_list rfl fun Q' hQ => ?_
                  refine wpList_append_bytes rfl (.tmp 63) (.tmp 68) 65 rfl wr.heap.size 5 Try.underlying65 info5 (.slice (some ⟨v0.heap.size, 0, none⟩) 0 0) [] rfl (own_nilB HE1.out HW0.out.size) ea em ec el rfl (HEL.out _ (HBR.out.trans (HW1.out.mono HBR.out.size))) hel HW1.out.size ?_
                  intro x2 v2 ho2 hg2 hb2
                  rw [List.nil_append] at ho2
                  obtain ⟨a5, c5, e5, _⟩ := ho2.isB
                  subst e5
                  refine hQ _ _ ?_
                  clear hQ Q'
                  have hw2 := HW1.out.trans hb2
                  refine hK.out _ _ (HBR.out.trans (hw2.mono HBR.out.size)) (fun hHeld => ?_)
                  clear hK K
                  try simp only [Act.put, List.setIfInBounds_toArray, List.set_cons_zero, List.set_cons_succ]
                  have HW2 := Lib.hid hw2
                  have HO2 := Lib.hid ho2
                  clear ho2 hg2 hb2 hw2
                  refine wpAnyH_ready (rs := [9]) (by kernel_rfl) (by simp) ?_
                  refine AllReadyH.cons (o := { dst := some 70, op := Op.buildSlice 30 1 #[(0, Operand.tmp 69)], type := 30, pos := _, after := #[{ on := 8, ground := Ground.data }], guard := none }) rfl (fun K hK => ?_) AllReadyH.nil
                  go_simp
                  have hw3 : Below wr.heap.size wr (v2.alloc (.cells #[.slice a5 el.length c5] 65)) := HW2.out.alloc HW2.out.size _
                  refine hK.out _ _ (HBR.out.trans (hw3.mono HBR.out.size)) (fun hHeld => ?_)
                  clear hK K
                  try simp only [Act.put, List.setIfInBounds_toArray, List.set_cons_zero, List.set_cons_succ]
                  have hn3 := heap_new v2 (.cells #[.slice a5 el.length c5] 65)
                  have ho3 := OwnB.alloc HO2.out (.cells #[.slice a5 el.length c5] 65)
                  generalize (v2.alloc (.cells #[.slice a5 el.length c5] 65)) = v3 at *
                  have HW3 := Lib.hid hw3
                  have HC3 := Lib.hid hn3
                  have HO3 := Lib.hid ho3
                  clear hw3 hn3 ho3
                  refine wpAnyH_ready (rs := [10]) (by kernel_rfl) (by simp) ?_
                  refine AllReadyH.cons (o := { dst := some 71, op := Op.call { callee := Callee.builtin Builtin.append, args := #[Operand.tmp 62, Operand.tmp 70], argTypes := #[30, 30] }, type := 30, pos := _, after := #[{ on := 1, ground := Ground.data }, { on := 9, ground := Ground.data }, { on := 8, ground := Ground.chain }], guard := none }) rfl (fun K hK => ?_) AllReadyH.nil
                  have hbv : Below V.heap.size V v3 := HBR.out.trans (HW3.out.mono HBR.out.size)
                  have hol := HOL.out.below HW3.out
                  have hoi := HOI.out.below HW3.out
                  have hyk := heap_below HW3.out (lt_of_heap HY.out) HY.out
                  have hcl : v3.cell? ⟨v2.heap.size, 0, none⟩ = some (.slice a5 el.length c5) := by rw [cell_heap HC3.out]; rfl
                  have HOLk := Lib.hid hol; have HOIk := Lib.hid hoi; have HYK := Lib.hid hyk; have HBV := Lib.hid hbv; have HCL := Lib.hid hcl
                  clear hol hoi hyk hbv hcl
                  refine step_of_list rfl fun Q' hQ => ?_
                  refine wpList_append_own_sl rfl (.tmp 62) (.tmp 70) rfl V.heap.size (.slice vo j vc) (bs.take j) rfl HOLk.out (v2.heap.size) (.slice a5 el.length c5) el rfl HCL.out (HO3.out.mono HBR.out.size) HTB.out HBV.out.size ?_
                  intro a6 c6 w6 ho6 hb6 hg6
                  rw [HTL.out] at ho6 ⊢
                  refine hQ _ _ ?_
                  clear hQ Q'
                  have hbv6 := HBV.out.trans hb6
                  refine hK.out _ _ hbv6 (fun hHeld => ?_)
                  clear hK K
                  try simp only [Act.put, List.setIfInBounds_toArray, List.set_cons_zero, List.set_cons_succ]
                  have HY6 : Hid (w6.heap[Y]? = _) := Lib.hid (by obtain ⟨vs, _, hr, _⟩ := HOLk.out; exact grown_type HYK.out hr (by decide) hg6)
                  have HI6 : Hid (OwnI w6 V.heap.size 2 (.slice a1 nn c1) ns) := Lib.hid (by obtain ⟨vs, _, hr, _⟩ := HOLk.out; exact rows_grown HOIk.out hr (by decide) hg6)
                  have HO6 := Lib.hid ho6
                  have HB6 := Lib.hid hbv6
                  clear ho6 hb6 hg6 hbv6
                  refine wpAnyH_ready (rs := [11]) (by kernel_rfl) (by simp) ?_
                  refine AllReadyH.cons (o := { dst := some 72, op := Op.fieldAddr 49 (Operand.tmp 5) 4, type := 0, pos := _, after := #[{ on := 0, ground := Ground.phase }, { on := 1, ground := Ground.phase }, { on := 2, ground := Ground.phase }, { on := 3, ground := Ground.phase }, { on := 4, ground := Ground.phase }, { on := 5, ground := Ground.phase }, { on := 6, ground := Ground.phase }, { on := 7, ground := Ground.phase }, { on := 8, ground := Ground.phase }, { on := 9, ground := Ground.phase }, { on := 10, ground := Ground.phase }], guard := none }) rfl (fun K hK => ?_) AllReadyH.nil
                  go_simp
                  refine hK.out _ _ hHeld (fun hHeld => ?_)
                  clear hK K
                  try simp only [Act.put, List.setIfInBounds_toArray, List.set_cons_zero, List.set_cons_succ]
                  refine wpAnyH_ready (rs := [12]) (by kernel_rfl) (by simp) ?_
                  refine AllReadyH.cons (o := { dst := none, op := Op.store 30 (Operand.tmp 72) (Operand.tmp 71), type := 0, pos := _, after := #[{ on := 11, ground := Ground.data }, { on := 10, ground := Ground.data }, { on := 10, ground := Ground.chain }, { on := 0, ground := Ground.phase }, { on := 1, ground := Ground.phase }, { on := 2, ground := Ground.phase }, { on := 3, ground := Ground.phase }, { on := 4, ground := Ground.phase }, { on := 5, ground := Ground.phase }, { on := 6, ground := Ground.phase }, { on := 7, ground := Ground.phase }, { on := 8, ground := Ground.phase }, { on := 9, ground := Ground.phase }, { on := 10, ground := Ground.phase }], guard := none }) rfl (fun K hK => ?_) AllReadyH.nil
                  have hc6 : w6.cell? ⟨Y, 4, none⟩ = some (.slice vo j vc) := by rw [cell_heap HY6.out]; rfl
                  have hf6 := free_heap HY6.out 4
                  go_simp
                  clear hc6 hf6
                  have hB12 : Below V.heap.size w6 (w6.setCell ⟨Y, 4, none⟩ (.slice a6 (j + 1) c6)) := ((Only.refl [Y] w6).setCell (by simp) _).below HB6.out.size (by simpa using HGE.out)
                  refine hK.out _ _ (hHeld.trans hB12) (fun hHeld => ?_)
                  clear hK K
                  try simp only [Act.put, List.setIfInBounds_toArray, List.set_cons_zero, List.set_cons_succ]
                  refine wpAnyH_done (by kernel_rfl) ?_ _
                  go_wp2_with fail
                  go_meet
                  exact ⟨⟨a6, c6, heap_set HY6.out 4 _, by rw [HTK.out]; exact HO6.out.only ((Only.refl [Y] w6).setCell (by simp) _) (fun q hq cur => by rw [List.mem_singleton.1 hq, HY6.out]; simp)⟩, rows_types HI6.out ((Only.refl [Y] w6).setCell (by simp) _) (fun q hq cur => by rw [List.mem_singleton.1 hq, HY6.out]; simp), HB6.out.trans hB12⟩
                · refine step_of_list rfl fun Q' hQ => ?_
                  refine wpList_append_bytes rfl (.tmp 63) (.tmp 68) 65 rfl wr.heap.size 5 Try.underlying65 info5 (.slice (some ⟨v0.heap.size, 0, none⟩) 0 0) [] rfl (own_nilB HE1.out HW0.out.size) ea em ec el rfl (HEL.out _ (HBR.out.trans (HW1.out.mono HBR.out.size))) hel HW1.out.size ?_
                  intro x2 v2 ho2 hg2 hb2
                  rw [List.nil_append] at ho2
                  obtain ⟨a5, c5, e5, _⟩ := ho2.isB
                  subst e5
                  refine hQ _ _ ?_
                  clear hQ Q'
                  have hw2 := HW1.out.trans hb2
                  refine hK.out _ _ (HBR.out.trans (hw2.mono HBR.out.size)) (fun hHeld => ?_)
                  clear hK K
                  try simp only [Act.put, List.setIfInBounds_toArray, List.set_cons_zero, List.set_cons_succ]
                  have HW2 := Lib.hid hw2
                  have HO2 := Lib.hid ho2
                  clear ho2 hg2 hb2 hw2
                  refine wpAnyH_ready (rs := [1, 9]) (by kernel_rfl) (by simp) ?_
                  refine AllReadyH.cons (o := { dst := some 62, op := Op.load 30 (Operand.tmp 61), type := 30, pos := _, after := #[{ on := 0, ground := Ground.data }], guard := none }) rfl (fun K hK => ?_) (AllReadyH.cons (o := { dst := some 70, op := Op.buildSlice 30 1 #[(0, Operand.tmp 69)], type := 30, pos := _, after := #[{ on := 8, ground := Ground.data }], guard := none }) rfl (fun K hK => ?_) AllReadyH.nil)
                  · have hy4 : v2.cell? ⟨Y, 4, none⟩ = some (.slice vo j vc) := by rw [cell_heap (heap_below HW2.out (lt_of_heap HY.out) HY.out)]; rfl
                    go_simp
                    clear hy4
                    refine hK.out _ _ hHeld (fun hHeld => ?_)
                    clear hK K
                    try simp only [Act.put, List.setIfInBounds_toArray, List.set_cons_zero, List.set_cons_succ]
                    refine wpAnyH_ready (rs := [9]) (by kernel_rfl) (by simp) ?_
                    refine AllReadyH.cons (o := { dst := some 70, op := Op.buildSlice 30 1 #[(0, Operand.tmp 69)], type := 30, pos := _, after := #[{ on := 8, ground := Ground.data }], guard := none }) rfl (fun K hK => ?_) AllReadyH.nil
                    go_simp
                    have hw3 : Below wr.heap.size wr (v2.alloc (.cells #[.slice a5 el.length c5] 65)) := HW2.out.alloc HW2.out.size _
                    refine hK.out _ _ (HBR.out.trans (hw3.mono HBR.out.size)) (fun hHeld => ?_)
                    clear hK K
                    try simp only [Act.put, List.setIfInBounds_toArray, List.set_cons_zero, List.set_cons_succ]
                    have hn3 := heap_new v2 (.cells #[.slice a5 el.length c5] 65)
                    have ho3 := OwnB.alloc HO2.out (.cells #[.slice a5 el.length c5] 65)
                    generalize (v2.alloc (.cells #[.slice a5 el.length c5] 65)) = v3 at *
                    have HW3 := Lib.hid hw3
                    have HC3 := Lib.hid hn3
                    have HO3 := Lib.hid ho3
                    clear hw3 hn3 ho3
                    refine wpAnyH_ready (rs := [10]) (by kernel_rfl) (by simp) ?_
                    refine AllReadyH.cons (o := { dst := some 71, op := Op.call { callee := Callee.builtin Builtin.append, args := #[Operand.tmp 62, Operand.tmp 70], argTypes := #[30, 30] }, type := 30, pos := _, after := #[{ on := 1, ground := Ground.data }, { on := 9, ground := Ground.data }, { on := 8, ground := Ground.chain }], guard := none }) rfl (fun K hK => ?_) AllReadyH.nil
                    have hbv : Below V.heap.size V v3 := HBR.out.trans (HW3.out.mono HBR.out.size)
                    have hol := HOL.out.below HW3.out
                    have hoi := HOI.out.below HW3.out
                    have hyk := heap_below HW3.out (lt_of_heap HY.out) HY.out
                    have hcl : v3.cell? ⟨v2.heap.size, 0, none⟩ = some (.slice a5 el.length c5) := by rw [cell_heap HC3.out]; rfl
                    have HOLk := Lib.hid hol; have HOIk := Lib.hid hoi; have HYK := Lib.hid hyk; have HBV := Lib.hid hbv; have HCL := Lib.hid hcl
                    clear hol hoi hyk hbv hcl
                    refine step_of_list rfl fun Q' hQ => ?_
                    refine wpList_append_own_sl rfl (.tmp 62) (.tmp 70) rfl V.heap.size (.slice vo j vc) (bs.take j) rfl HOLk.out (v2.heap.size) (.slice a5 el.length c5) el rfl HCL.out (HO3.out.mono HBR.out.size) HTB.out HBV.out.size ?_
                    intro a6 c6 w6 ho6 hb6 hg6
                    rw [HTL.out] at ho6 ⊢
                    refine hQ _ _ ?_
                    clear hQ Q'
                    have hbv6 := HBV.out.trans hb6
                    refine hK.out _ _ hbv6 (fun hHeld => ?_)
                    clear hK K
                    try simp only [Act.put, List.setIfInBounds_toArray, List.set_cons_zero, List.set_cons_succ]
                    have HY6 : Hid (w6.heap[Y]? = _) := Lib.hid (by obtain ⟨vs, _, hr, _⟩ := HOLk.out; exact grown_type HYK.out hr (by decide) hg6)
                    have HI6 : Hid (OwnI w6 V.heap.size 2 (.slice a1 nn c1) ns) := Lib.hid (by obtain ⟨vs, _, hr, _⟩ := HOLk.out; exact rows_grown HOIk.out hr (by decide) hg6)
                    have HO6 := Lib.hid ho6
                    have HB6 := Lib.hid hbv6
                    clear ho6 hb6 hg6 hbv6
                    refine wpAnyH_ready (rs := [11]) (by kernel_rfl) (by simp) ?_
                    refine AllReadyH.cons (o := { dst := some 72, op := Op.fieldAddr 49 (Operand.tmp 5) 4, type := 0, pos := _, after := #[{ on := 0, ground := Ground.phase }, { on := 1, ground := Ground.phase }, { on := 2, ground := Ground.phase }, { on := 3, ground := Ground.phase }, { on := 4, ground := Ground.phase }, { on := 5, ground := Ground.phase }, { on := 6, ground := Ground.phase }, { on := 7, ground := Ground.phase }, { on := 8, ground := Ground.phase }, { on := 9, ground := Ground.phase }, { on := 10, ground := Ground.phase }], guard := none }) rfl (fun K hK => ?_) AllReadyH.nil
                    go_simp
                    refine hK.out _ _ hHeld (fun hHeld => ?_)
                    clear hK K
                    try simp only [Act.put, List.setIfInBounds_toArray, List.set_cons_zero, List.set_cons_succ]
                    refine wpAnyH_ready (rs := [12]) (by kernel_rfl) (by simp) ?_
                    refine AllReadyH.cons (o := { dst := none, op := Op.store 30 (Operand.tmp 72) (Operand.tmp 71), type := 0, pos := _, after := #[{ on := 11, ground := Ground.data }, { on := 10, ground := Ground.data }, { on := 10, ground := Ground.chain }, { on := 0, ground := Ground.phase }, { on := 1, ground := Ground.phase }, { on := 2, ground := Ground.phase }, { on := 3, ground := Ground.phase }, { on := 4, ground := Ground.phase }, { on := 5, ground := Ground.phase }, { on := 6, ground := Ground.phase }, { on := 7, ground := Ground.phase }, { on := 8, ground := Ground.phase }, { on := 9, ground := Ground.phase }, { on := 10, ground := Ground.phase }], guard := none }) rfl (fun K hK => ?_) AllReadyH.nil
                    have hc6 : w6.cell? ⟨Y, 4, none⟩ = some (.slice vo j vc) := by rw [cell_heap HY6.out]; rfl
                    have hf6 := free_heap HY6.out 4
                    go_simp
                    clear hc6 hf6
                    have hB12 : Below V.heap.size w6 (w6.setCell ⟨Y, 4, none⟩ (.slice a6 (j + 1) c6)) := ((Only.refl [Y] w6).setCell (by simp) _).below HB6.out.size (by simpa using HGE.out)
                    refine hK.out _ _ (hHeld.trans hB12) (fun hHeld => ?_)
                    clear hK K
                    try simp only [Act.put, List.setIfInBounds_toArray, List.set_cons_zero, List.set_cons_succ]
                    refine wpAnyH_done (by kernel_rfl) ?_ _
                    go_wp2_with fail
                    go_meet
                    exact ⟨⟨a6, c6, heap_set HY6.out 4 _, by rw [HTK.out]; exact HO6.out.only ((Only.refl [Y] w6).setCell (by simp) _) (fun q hq cur => by rw [List.mem_singleton.1 hq, HY6.out]; simp)⟩, rows_types HI6.out ((Only.refl [Y] w6).setCell (by simp) _) (fun q hq cur => by rw [List.mem_singleton.1 hq, HY6.out]; simp), HB6.out.trans hB12⟩
                  · go_simp
                    have hw3 : Below wr.heap.size wr (v2.alloc (.cells #[.slice a5 el.length c5] 65)) := HW2.out.alloc HW2.out.size _
                    refine hK.out _ _ (HBR.out.trans (hw3.mono HBR.out.size)) (fun hHeld => ?_)
                    clear hK K
                    try simp only [Act.put, List.setIfInBounds_toArray, List.set_cons_zero, List.set_cons_succ]
                    have hn3 := heap_new v2 (.cells #[.slice a5 el.length c5] 65)
                    have ho3 := OwnB.alloc HO2.out (.cells #[.slice a5 el.length c5] 65)
                    generalize (v2.alloc (.cells #[.slice a5 el.length c5] 65)) = v3 at *
                    have HW3 := Lib.hid hw3
                    have HC3 := Lib.hid hn3
                    have HO3 := Lib.hid ho3
                    clear hw3 hn3 ho3
                    refine wpAnyH_ready (rs := [1]) (by kernel_rfl) (by simp) ?_
                    refine AllReadyH.cons (o := { dst := some 62, op := Op.load 30 (Operand.tmp 61), type := 30, pos := _, after := #[{ on := 0, ground := Ground.data }], guard := none }) rfl (fun K hK => ?_) AllReadyH.nil
                    have hy4 : v3.cell? ⟨Y, 4, none⟩ = some (.slice vo j vc) := by rw [cell_heap (heap_below HW3.out (lt_of_heap HY.out) HY.out)]; rfl
                    go_simp
                    clear hy4
                    refine hK.out _ _ hHeld (fun hHeld => ?_)
                    clear hK K
                    try simp only [Act.put, List.setIfInBounds_toArray, List.set_cons_zero, List.set_cons_succ]
                    refine wpAnyH_ready (rs := [10]) (by kernel_rfl) (by simp) ?_
                    refine AllReadyH.cons (o := { dst := some 71, op := Op.call { callee := Callee.builtin Builtin.append, args := #[Operand.tmp 62, Operand.tmp 70], argTypes := #[30, 30] }, type := 30, pos := _, after := #[{ on := 1, ground := Ground.data }, { on := 9, ground := Ground.data }, { on := 8, ground := Ground.chain }], guard := none }) rfl (fun K hK => ?_) AllReadyH.nil
                    have hbv : Below V.heap.size V v3 := HBR.out.trans (HW3.out.mono HBR.out.size)
                    have hol := HOL.out.below HW3.out
                    have hoi := HOI.out.below HW3.out
                    have hyk := heap_below HW3.out (lt_of_heap HY.out) HY.out
                    have hcl : v3.cell? ⟨v2.heap.size, 0, none⟩ = some (.slice a5 el.length c5) := by rw [cell_heap HC3.out]; rfl
                    have HOLk := Lib.hid hol; have HOIk := Lib.hid hoi; have HYK := Lib.hid hyk; have HBV := Lib.hid hbv; have HCL := Lib.hid hcl
                    clear hol hoi hyk hbv hcl
                    refine step_of_list rfl fun Q' hQ => ?_
                    refine wpList_append_own_sl rfl (.tmp 62) (.tmp 70) rfl V.heap.size (.slice vo j vc) (bs.take j) rfl HOLk.out (v2.heap.size) (.slice a5 el.length c5) el rfl HCL.out (HO3.out.mono HBR.out.size) HTB.out HBV.out.size ?_
                    intro a6 c6 w6 ho6 hb6 hg6
                    rw [HTL.out] at ho6 ⊢
                    refine hQ _ _ ?_
                    clear hQ Q'
                    have hbv6 := HBV.out.trans hb6
                    refine hK.out _ _ hbv6 (fun hHeld => ?_)
                    clear hK K
                    try simp only [Act.put, List.setIfInBounds_toArray, List.set_cons_zero, List.set_cons_succ]
                    have HY6 : Hid (w6.heap[Y]? = _) := Lib.hid (by obtain ⟨vs, _, hr, _⟩ := HOLk.out; exact grown_type HYK.out hr (by decide) hg6)
                    have HI6 : Hid (OwnI w6 V.heap.size 2 (.slice a1 nn c1) ns) := Lib.hid (by obtain ⟨vs, _, hr, _⟩ := HOLk.out; exact rows_grown HOIk.out hr (by decide) hg6)
                    have HO6 := Lib.hid ho6
                    have HB6 := Lib.hid hbv6
                    clear ho6 hb6 hg6 hbv6
                    refine wpAnyH_ready (rs := [11]) (by kernel_rfl) (by simp) ?_
                    refine AllReadyH.cons (o := { dst := some 72, op := Op.fieldAddr 49 (Operand.tmp 5) 4, type := 0, pos := _, after := #[{ on := 0, ground := Ground.phase }, { on := 1, ground := Ground.phase }, { on := 2, ground := Ground.phase }, { on := 3, ground := Ground.phase }, { on := 4, ground := Ground.phase }, { on := 5, ground := Ground.phase }, { on := 6, ground := Ground.phase }, { on := 7, ground := Ground.phase }, { on := 8, ground := Ground.phase }, { on := 9, ground := Ground.phase }, { on := 10, ground := Ground.phase }], guard := none }) rfl (fun K hK => ?_) AllReadyH.nil
                    go_simp
                    refine hK.out _ _ hHeld (fun hHeld => ?_)
                    clear hK K
                    try simp only [Act.put, List.setIfInBounds_toArray, List.set_cons_zero, List.set_cons_succ]
                    refine wpAnyH_ready (rs := [12]) (by kernel_rfl) (by simp) ?_
                    refine AllReadyH.cons (o := { dst := none, op := Op.store 30 (Operand.tmp 72) (Operand.tmp 71), type := 0, pos := _, after := #[{ on := 11, ground := Ground.data }, { on := 10, ground := Ground.data }, { on := 10, ground := Ground.chain }, { on := 0, ground := Ground.phase }, { on := 1, ground := Ground.phase }, { on := 2, ground := Ground.phase }, { on := 3, ground := Ground.phase }, { on := 4, ground := Ground.phase }, { on := 5, ground := Ground.phase }, { on := 6, ground := Ground.phase }, { on := 7, ground := Ground.phase }, { on := 8, ground := Ground.phase }, { on := 9, ground := Ground.phase }, { on := 10, ground := Ground.phase }], guard := none }) rfl (fun K hK => ?_) AllReadyH.nil
                    have hc6 : w6.cell? ⟨Y, 4, none⟩ = some (.slice vo j vc) := by rw [cell_heap HY6.out]; rfl
                    have hf6 := free_heap HY6.out 4
                    go_simp
                    clear hc6 hf6
                    have hB12 : Below V.heap.size w6 (w6.setCell ⟨Y, 4, none⟩ (.slice a6 (j + 1) c6)) := ((Only.refl [Y] w6).setCell (by simp) _).below HB6.out.size (by simpa using HGE.out)
                    refine hK.out _ _ (hHeld.trans hB12) (fun hHeld => ?_)
                    clear hK K
                    try simp only [Act.put, List.setIfInBounds_toArray, List.set_cons_zero, List.set_cons_succ]
                    refine wpAnyH_done (by kernel_rfl) ?_ _
                    go_wp2_with fail
                    go_meet
                    exact ⟨⟨a6, c6, heap_set HY6.out 4 _, by rw [HTK.out]; exact HO6.out.only ((Only.refl [Y] w6).setCell (by simp) _) (fun q hq cur => by rw [List.mem_singleton.1 hq, HY6.out]; simp)⟩, rows_types HI6.out ((Only.refl [Y] w6).setCell (by simp) _) (fun q hq cur => by rw [List.mem_singleton.1 hq, HY6.out]; simp), HB6.out.trans hB12⟩
            case rest =>
              have HLS := Lib.hid hcut
              clear hcut
              go_wp2_with fail
              go_roundw
              case rel => exact ⟨j + 1, by omega, by go_num, HLS.out⟩
              case measure => simp [intOf]; omega
          · obtain rfl : j = nb := by omega
            have hol := HOL.out
            rw [List.take_of_length_le (by rw [HNB.out]; omega)] at hol
            have HOL2 := Lib.hid hol
            have HDR := Lib.hid (HDC.out.below HBR.out)
            obtain ⟨⟨cs, vr, ps, h1, h2, h3, h4, h5, h6, h7, h8⟩, h9⟩ := HDR.out
            obtain ⟨ao2, cap2, rfl, hcp1, hcp2⟩ := row_shape49 h7
            have hdY : Y ≠ d := by
              intro e
              have h := HY.out
              rw [e, h1] at h
              simp at h
            have hlr : (s.l.length : Int) < s.room := by
              have hg := HGO.out
              simp only [goes, Bool.and_eq_true, decide_eq_true_eq] at hg
              exact hg.2.2.2
            have HD1 := Lib.hid h1; have HD5 := Lib.hid h5; have HD7 := Lib.hid h7
            have HH := Lib.hid (And.intro h2 (And.intro h3 (And.intro h4 (And.intro h6 h8))))
            have HON : Hid (Ones ps) := Lib.hid h8.one
            have HOX : Hid (Ones [⟨⟨mf, mt, mk, ns, bs⟩, .slice a1 nn c1, .slice vo j vc⟩]) := Lib.hid (fun x hx => by obtain rfl := List.mem_singleton.1 hx; exact ⟨rfl, rfl⟩)
            have hk0 : ∀ w', Only [d] wr w' → w'.cell? ⟨Y, 0, none⟩ = some (.int .i64 mf) := fun w' ho => by rw [cell_heap (ho.keeps HY.out (by simpa using hdY))]; rfl
            have hk1 : ∀ w', Only [d] wr w' → w'.cell? ⟨Y, 1, none⟩ = some (.int .i64 mt) := fun w' ho => by rw [cell_heap (ho.keeps HY.out (by simpa using hdY))]; rfl
            have hk2 : ∀ w', Only [d] wr w' → w'.cell? ⟨Y, 2, none⟩ = some (.int .i64 mk) := fun w' ho => by rw [cell_heap (ho.keeps HY.out (by simpa using hdY))]; rfl
            have hk3 : ∀ w', Only [d] wr w' → w'.cell? ⟨Y, 3, none⟩ = some (.slice a1 nn c1) := fun w' ho => by rw [cell_heap (ho.keeps HY.out (by simpa using hdY))]; rfl
            have hk4 : ∀ w', Only [d] wr w' → w'.cell? ⟨Y, 4, none⟩ = some (.slice vo j vc) := fun w' ho => by rw [cell_heap (ho.keeps HY.out (by simpa using hdY))]; rfl
            clear h1 h2 h3 h4 h5 h6 h7 h8 hol
            generalize hnl : s.l.length = n at *
            have HNL := Lib.hid hnl
            clear hnl
            go_upto_region 8 with (fail)
            clear hX4r hX4
            go_cut [] (fun wx => ∃ na nq w13, wx = w13.setCell ⟨d, 2, none⟩ (.slice na (n + 1) nq) ∧ w13.ownsRow wr.heap.size 49 5 (.slice na (n + 1) nq) (n + 1) (row5 (ps ++ [⟨⟨mf, mt, mk, ns, bs⟩, .slice a1 nn c1, .slice vo j vc⟩])) ∧ Below wr.heap.size wr w13)
            case first =>
              have HW0 : Hid (Below wr.heap.size wr wr.drew) := Lib.hid (below_drew (Below.refl _ _) 1)
              refine wp_region_held_drew (S := fun w' => Only [d] wr w') (by kernel_rfl) ((Only.refl [d] wr).drew) (fun hHeld => ?_)
              refine wpAnyH_take (i := 0) (oi := { dst := some 73, op := Op.move (Operand.tmp 0), type := 39, pos := _, after := #[], guard := none }) (v := ?_) rfl (by kernel_rfl) (by kernel_rfl) (by kernel_rfl) (fun _ _ _ h => h) (Or.inl ⟨by rfl, ?_⟩) (by exact hHeld) ?_
              rotate_left
              · (intro w hSw; (try dsimp only at hSw); go_simp <;> with_reducible rfl)
              try simp only [Act.put, List.setIfInBounds_toArray, List.set_cons_zero, List.set_cons_succ]
              refine wpAnyH_take (i := 2) (oi := { dst := some 75, op := Op.move (Operand.tmp 0), type := 39, pos := _, after := #[], guard := none }) (v := ?_) rfl (by kernel_rfl) (by kernel_rfl) (by kernel_rfl) (fun _ _ _ h => h) (Or.inl ⟨by rfl, ?_⟩) (by exact hHeld) ?_
              rotate_left
              · (intro w hSw; (try dsimp only at hSw); go_simp <;> with_reducible rfl)
              try simp only [Act.put, List.setIfInBounds_toArray, List.set_cons_zero, List.set_cons_succ]
              refine wpAnyH_take (i := 3) (oi := { dst := some 76, op := Op.nilCheck (Operand.tmp 75), type := 0, pos := _, after := #[{ on := 2, ground := Ground.data }], guard := none }) (v := ?_) rfl (by kernel_rfl) (by kernel_rfl) (by kernel_rfl) (fun _ _ _ h => h) (Or.inl ⟨by rfl, ?_⟩) (by exact hHeld) ?_
              rotate_left
              · (intro w hSw; (try dsimp only at hSw); go_simp <;> with_reducible rfl)
              try simp only [Act.put, List.setIfInBounds_toArray, List.set_cons_zero, List.set_cons_succ]
              refine wpAnyH_take (i := 4) (oi := { dst := some 77, op := Op.fieldAddr 44 (Operand.tmp 76) 2, type := 0, pos := _, after := #[{ on := 3, ground := Ground.data }], guard := none }) (v := ?_) rfl (by kernel_rfl) (by kernel_rfl) (by kernel_rfl) (fun _ _ _ h => h) (Or.inl ⟨by rfl, ?_⟩) (by exact hHeld) ?_
              rotate_left
              · (intro w hSw; (try dsimp only at hSw); go_simp <;> with_reducible rfl)
              try simp only [Act.put, List.setIfInBounds_toArray, List.set_cons_zero, List.set_cons_succ]
              refine wpAnyH_take (i := 7) (oi := { dst := some 80, op := Op.load 49 (Operand.tmp 5), type := 49, pos := _, after := #[], guard := none }) (v := ?_) rfl (by kernel_rfl) (by kernel_rfl) (by kernel_rfl) (fun _ _ _ h => h) (Or.inl ⟨by rfl, ?_⟩) (by exact hHeld) ?_
              rotate_left
              · (intro w hSw; (try dsimp only at hSw); go_simp <;> with_reducible rfl)
              try simp only [Act.put, List.setIfInBounds_toArray, List.set_cons_zero, List.set_cons_succ]
              generalize wr.drew = v0 at *
              refine wpAnyH_ready (rs := [1, 5, 8]) (by kernel_rfl) (by simp) ?_
              refine AllReadyH.cons (o := { dst := some 74, op := Op.buildSlice 40 0 #[], type := 40, pos := _, after := #[], guard := none }) rfl (fun K hK => ?_) (AllReadyH.cons (o := { dst := some 78, op := Op.load 40 (Operand.tmp 77), type := 40, pos := _, after := #[{ on := 4, ground := Ground.data }], guard := none }) rfl (fun K hK => ?_) (AllReadyH.cons (o := { dst := some 81, op := Op.buildSlice 40 1 #[(0, Operand.tmp 80)], type := 40, pos := _, after := #[{ on := 7, ground := Ground.data }], guard := none }) rfl (fun K hK => ?_) AllReadyH.nil))
              · go_simp
                have hw1 : Below wr.heap.size wr (v0.alloc (.cells #[] 49)) := HW0.out.alloc HW0.out.size _
                refine hK.out _ _ (Only.ofBelow hw1 [d]) (fun hHeld => ?_)
                clear hK K
                try simp only [Act.put, List.setIfInBounds_toArray, List.set_cons_zero, List.set_cons_succ]
                have hn1 := heap_new v0 (.cells #[] 49)
                generalize (v0.alloc (.cells #[] 49)) = v1 at *
                have HW1 := Lib.hid hw1
                have HE1 := Lib.hid hn1
                clear hw1 hn1 
                refine wpAnyH_ready (rs := [5, 8]) (by kernel_rfl) (by simp) ?_
                refine AllReadyH.cons (o := { dst := some 78, op := Op.load 40 (Operand.tmp 77), type := 40, pos := _, after := #[{ on := 4, ground := Ground.data }], guard := none }) rfl (fun K hK => ?_) (AllReadyH.cons (o := { dst := some 81, op := Op.buildSlice 40 1 #[(0, Operand.tmp 80)], type := 40, pos := _, after := #[{ on := 7, ground := Ground.data }], guard := none }) rfl (fun K hK => ?_) AllReadyH.nil)
                · have hd2 : v1.cell? ⟨d, 2, none⟩ = some (.slice ao2 n cap2) := by rw [cell_heap (heap_below HW1.out (lt_of_heap HD1.out) HD1.out)]; exact HD5.out
                  go_simp
                  clear hd2
                  refine hK.out _ _ hHeld (fun hHeld => ?_)
                  clear hK K
                  try simp only [Act.put, List.setIfInBounds_toArray, List.set_cons_zero, List.set_cons_succ]
                  refine wpAnyH_ready (rs := [6, 8]) (by kernel_rfl) (by simp) ?_
                  refine AllReadyH.cons (o := { dst := some 79, op := Op.call { callee := Callee.builtin Builtin.append, args := #[Operand.tmp 74, Operand.tmp 78], argTypes := #[40, 40] }, type := 40, pos := _, after := #[{ on := 1, ground := Ground.data }, { on := 5, ground := Ground.data }], guard := none }) rfl (fun K hK => ?_) (AllReadyH.cons (o := { dst := some 81, op := Op.buildSlice 40 1 #[(0, Operand.tmp 80)], type := 40, pos := _, after := #[{ on := 7, ground := Ground.data }], guard := none }) rfl (fun K hK => ?_) AllReadyH.nil)
                  · refine step_append_row (by rfl) (.tmp 74) (.tmp 78) (by rfl) wr.heap.size (.slice (some ⟨v0.heap.size, 0, none⟩) 0 0) [] 0 n (by rfl) (own_nilR HE1.out HW0.out.size) ao2 n cap2 ps (by rfl) ((isR_own HD7.out).below HW1.out) HON.out (by omega) (by omega) HW1.out.size ?_
                    intro a5 c5 v2 ho2 hb2 hg2
                    rw [List.nil_append] at ho2
                    have hw2 := HW1.out.trans hb2
                    refine hK.out _ _ (Only.ofBelow hw2 [d]) (fun hHeld => ?_)
                    clear hK K
                    try simp only [Act.put, List.setIfInBounds_toArray, List.set_cons_zero, List.set_cons_succ]
                    have HW2 := Lib.hid hw2
                    have HO2 := Lib.hid ho2
                    clear ho2 hg2 hb2 hw2
                    refine wpAnyH_ready (rs := [8]) (by kernel_rfl) (by simp) ?_
                    refine AllReadyH.cons (o := { dst := some 81, op := Op.buildSlice 40 1 #[(0, Operand.tmp 80)], type := 40, pos := _, after := #[{ on := 7, ground := Ground.data }], guard := none }) rfl (fun K hK => ?_) AllReadyH.nil
                    go_simp
                    have hw3 : Below wr.heap.size wr (v2.alloc (.cells #[.int .i64 mf, .int .i64 mt, .int .i64 mk, .slice a1 nn c1, .slice vo j vc] 49)) := HW2.out.alloc HW2.out.size _
                    refine hK.out _ _ (Only.ofBelow hw3 [d]) (fun hHeld => ?_)
                    clear hK K
                    try simp only [Act.put, List.setIfInBounds_toArray, List.set_cons_zero, List.set_cons_succ]
                    have hn3 := heap_new v2 (.cells #[.int .i64 mf, .int .i64 mt, .int .i64 mk, .slice a1 nn c1, .slice vo j vc] 49)
                    have ho3 := rows_below HO2.out ((Below.refl _ _).alloc (Nat.le_refl _) (.cells #[.int .i64 mf, .int .i64 mt, .int .i64 mk, .slice a1 nn c1, .slice vo j vc] 49))
                    generalize (v2.alloc (.cells #[.int .i64 mf, .int .i64 mt, .int .i64 mk, .slice a1 nn c1, .slice vo j vc] 49)) = v3 at *
                    have HW3 := Lib.hid hw3
                    have HB3 := Lib.hid hn3
                    have HO3 := Lib.hid ho3
                    clear hw3 hn3 ho3
                    refine wpAnyH_ready (rs := [9]) (by kernel_rfl) (by simp) ?_
                    refine AllReadyH.cons (o := { dst := some 82, op := Op.call { callee := Callee.builtin Builtin.append, args := #[Operand.tmp 79, Operand.tmp 81], argTypes := #[40, 40] }, type := 40, pos := _, after := #[{ on := 6, ground := Ground.data }, { on := 8, ground := Ground.data }, { on := 6, ground := Ground.chain }], guard := none }) rfl (fun K hK => ?_) AllReadyH.nil
                    refine step_append_row (by rfl) (.tmp 79) (.tmp 81) (by rfl) wr.heap.size (.slice a5 n c5) ps n (n + 1) (by rfl) HO3.out _ 1 1 [⟨⟨mf, mt, mk, ns, bs⟩, .slice a1 nn c1, .slice vo j vc⟩] (by rfl) ?_ HOX.out (by omega) (by omega) HW3.out.size ?_
                    · exact isR_one (x := ⟨⟨mf, mt, mk, ns, bs⟩, .slice a1 nn c1, .slice vo j vc⟩) HB3.out 1
                    intro a13 c13 w13 ho13 hb13 hg13
                    have hw13 := HW3.out.trans hb13
                    refine hK.out _ _ (Only.ofBelow hw13 [d]) (fun hHeld => ?_)
                    clear hK K
                    try simp only [Act.put, List.setIfInBounds_toArray, List.set_cons_zero, List.set_cons_succ]
                    have HW13 := Lib.hid hw13
                    have HO13 := Lib.hid ho13
                    clear ho13 hb13 hg13 hw13
                    refine wpAnyH_ready (rs := [10]) (by kernel_rfl) (by simp) ?_
                    refine AllReadyH.cons (o := { dst := some 83, op := Op.nilCheck (Operand.tmp 73), type := 0, pos := _, after := #[{ on := 0, ground := Ground.data }, { on := 0, ground := Ground.phase }, { on := 1, ground := Ground.phase }, { on := 2, ground := Ground.phase }, { on := 3, ground := Ground.phase }, { on := 4, ground := Ground.phase }, { on := 5, ground := Ground.phase }, { on := 6, ground := Ground.phase }, { on := 7, ground := Ground.phase }, { on := 8, ground := Ground.phase }, { on := 9, ground := Ground.phase }], guard := none }) rfl (fun K hK => ?_) AllReadyH.nil
                    go_simp
                    refine hK.out _ _ hHeld (fun hHeld => ?_)
                    clear hK K
                    try simp only [Act.put, List.setIfInBounds_toArray, List.set_cons_zero, List.set_cons_succ]
                    refine wpAnyH_ready (rs := [11]) (by kernel_rfl) (by simp) ?_
                    refine AllReadyH.cons (o := { dst := some 84, op := Op.fieldAddr 44 (Operand.tmp 83) 2, type := 0, pos := _, after := #[{ on := 10, ground := Ground.data }, { on := 0, ground := Ground.phase }, { on := 1, ground := Ground.phase }, { on := 2, ground := Ground.phase }, { on := 3, ground := Ground.phase }, { on := 4, ground := Ground.phase }, { on := 5, ground := Ground.phase }, { on := 6, ground := Ground.phase }, { on := 7, ground := Ground.phase }, { on := 8, ground := Ground.phase }, { on := 9, ground := Ground.phase }], guard := none }) rfl (fun K hK => ?_) AllReadyH.nil
                    go_simp
                    refine hK.out _ _ hHeld (fun hHeld => ?_)
                    clear hK K
                    try simp only [Act.put, List.setIfInBounds_toArray, List.set_cons_zero, List.set_cons_succ]
                    refine wpAnyH_ready (rs := [12]) (by kernel_rfl) (by simp) ?_
                    refine AllReadyH.cons (o := { dst := none, op := Op.store 40 (Operand.tmp 84) (Operand.tmp 82), type := 0, pos := _, after := #[{ on := 11, ground := Ground.data }, { on := 9, ground := Ground.data }, { on := 9, ground := Ground.chain }, { on := 0, ground := Ground.phase }, { on := 1, ground := Ground.phase }, { on := 2, ground := Ground.phase }, { on := 3, ground := Ground.phase }, { on := 4, ground := Ground.phase }, { on := 5, ground := Ground.phase }, { on := 6, ground := Ground.phase }, { on := 7, ground := Ground.phase }, { on := 8, ground := Ground.phase }, { on := 9, ground := Ground.phase }], guard := none }) rfl (fun K hK => ?_) AllReadyH.nil
                    have hd2 : w13.cell? ⟨d, 2, none⟩ = some (.slice ao2 n cap2) := by rw [cell_heap (heap_below HW13.out (lt_of_heap HD1.out) HD1.out)]; exact HD5.out
                    have hf2 := free_heap (heap_below HW13.out (lt_of_heap HD1.out) HD1.out) 2
                    go_simp
                    clear hd2 hf2
                    refine hK.out _ _ (hHeld.setCell (by simp) _) (fun hHeld => ?_)
                    clear hK K
                    try simp only [Act.put, List.setIfInBounds_toArray, List.set_cons_zero, List.set_cons_succ]
                    refine wpAnyH_done (by kernel_rfl) ?_ _
                    go_wp2_with fail
                    go_meet
                    exact ⟨a13, c13, w13, rfl, HO13.out, HW13.out⟩
                  · go_simp
                    have hw2 : Below wr.heap.size wr (v1.alloc (.cells #[.int .i64 mf, .int .i64 mt, .int .i64 mk, .slice a1 nn c1, .slice vo j vc] 49)) := HW1.out.alloc HW1.out.size _
                    refine hK.out _ _ (Only.ofBelow hw2 [d]) (fun hHeld => ?_)
                    clear hK K
                    try simp only [Act.put, List.setIfInBounds_toArray, List.set_cons_zero, List.set_cons_succ]
                    have hn2 := heap_new v1 (.cells #[.int .i64 mf, .int .i64 mt, .int .i64 mk, .slice a1 nn c1, .slice vo j vc] 49)
                    have he2 := heap_old HE1.out (.cells #[.int .i64 mf, .int .i64 mt, .int .i64 mk, .slice a1 nn c1, .slice vo j vc] 49)
                    have HQ : Hid (v0.heap.size < v1.heap.size) := Lib.hid (lt_of_heap HE1.out)
                    generalize (v1.alloc (.cells #[.int .i64 mf, .int .i64 mt, .int .i64 mk, .slice a1 nn c1, .slice vo j vc] 49)) = v2 at *
                    have HW2 := Lib.hid hw2
                    have HB2 := Lib.hid hn2
                    have HE2 := Lib.hid he2
                    clear hw2 hn2 he2
                    refine wpAnyH_ready (rs := [6]) (by kernel_rfl) (by simp) ?_
                    refine AllReadyH.cons (o := { dst := some 79, op := Op.call { callee := Callee.builtin Builtin.append, args := #[Operand.tmp 74, Operand.tmp 78], argTypes := #[40, 40] }, type := 40, pos := _, after := #[{ on := 1, ground := Ground.data }, { on := 5, ground := Ground.data }], guard := none }) rfl (fun K hK => ?_) AllReadyH.nil
                    refine step_append_row (by rfl) (.tmp 74) (.tmp 78) (by rfl) wr.heap.size (.slice (some ⟨v0.heap.size, 0, none⟩) 0 0) [] 0 n (by rfl) (own_nilR HE2.out HW0.out.size) ao2 n cap2 ps (by rfl) ((isR_own HD7.out).below HW2.out) HON.out (by omega) (by omega) HW2.out.size ?_
                    intro a5 c5 v3 ho3 hb3 hg3
                    rw [List.nil_append] at ho3
                    have hw3 := HW2.out.trans hb3
                    refine hK.out _ _ (Only.ofBelow hw3 [d]) (fun hHeld => ?_)
                    clear hK K
                    try simp only [Act.put, List.setIfInBounds_toArray, List.set_cons_zero, List.set_cons_succ]
                    have HW3 := Lib.hid hw3
                    have HO3 := Lib.hid ho3
                    have HB3 := Lib.hid (grown_keep hg3 HB2.out (by have := HQ.out; simp only; omega))
                    clear ho3 hg3 hb3 hw3
                    refine wpAnyH_ready (rs := [9]) (by kernel_rfl) (by simp) ?_
                    refine AllReadyH.cons (o := { dst := some 82, op := Op.call { callee := Callee.builtin Builtin.append, args := #[Operand.tmp 79, Operand.tmp 81], argTypes := #[40, 40] }, type := 40, pos := _, after := #[{ on := 6, ground := Ground.data }, { on := 8, ground := Ground.data }, { on := 6, ground := Ground.chain }], guard := none }) rfl (fun K hK => ?_) AllReadyH.nil
                    refine step_append_row (by rfl) (.tmp 79) (.tmp 81) (by rfl) wr.heap.size (.slice a5 n c5) ps n (n + 1) (by rfl) HO3.out _ 1 1 [⟨⟨mf, mt, mk, ns, bs⟩, .slice a1 nn c1, .slice vo j vc⟩] (by rfl) ?_ HOX.out (by omega) (by omega) HW3.out.size ?_
                    · exact isR_one (x := ⟨⟨mf, mt, mk, ns, bs⟩, .slice a1 nn c1, .slice vo j vc⟩) HB3.out 1
                    intro a13 c13 w13 ho13 hb13 hg13
                    have hw13 := HW3.out.trans hb13
                    refine hK.out _ _ (Only.ofBelow hw13 [d]) (fun hHeld => ?_)
                    clear hK K
                    try simp only [Act.put, List.setIfInBounds_toArray, List.set_cons_zero, List.set_cons_succ]
                    have HW13 := Lib.hid hw13
                    have HO13 := Lib.hid ho13
                    clear ho13 hb13 hg13 hw13
                    refine wpAnyH_ready (rs := [10]) (by kernel_rfl) (by simp) ?_
                    refine AllReadyH.cons (o := { dst := some 83, op := Op.nilCheck (Operand.tmp 73), type := 0, pos := _, after := #[{ on := 0, ground := Ground.data }, { on := 0, ground := Ground.phase }, { on := 1, ground := Ground.phase }, { on := 2, ground := Ground.phase }, { on := 3, ground := Ground.phase }, { on := 4, ground := Ground.phase }, { on := 5, ground := Ground.phase }, { on := 6, ground := Ground.phase }, { on := 7, ground := Ground.phase }, { on := 8, ground := Ground.phase }, { on := 9, ground := Ground.phase }], guard := none }) rfl (fun K hK => ?_) AllReadyH.nil
                    go_simp
                    refine hK.out _ _ hHeld (fun hHeld => ?_)
                    clear hK K
                    try simp only [Act.put, List.setIfInBounds_toArray, List.set_cons_zero, List.set_cons_succ]
                    refine wpAnyH_ready (rs := [11]) (by kernel_rfl) (by simp) ?_
                    refine AllReadyH.cons (o := { dst := some 84, op := Op.fieldAddr 44 (Operand.tmp 83) 2, type := 0, pos := _, after := #[{ on := 10, ground := Ground.data }, { on := 0, ground := Ground.phase }, { on := 1, ground := Ground.phase }, { on := 2, ground := Ground.phase }, { on := 3, ground := Ground.phase }, { on := 4, ground := Ground.phase }, { on := 5, ground := Ground.phase }, { on := 6, ground := Ground.phase }, { on := 7, ground := Ground.phase }, { on := 8, ground := Ground.phase }, { on := 9, ground := Ground.phase }], guard := none }) rfl (fun K hK => ?_) AllReadyH.nil
                    go_simp
                    refine hK.out _ _ hHeld (fun hHeld => ?_)
                    clear hK K
                    try simp only [Act.put, List.setIfInBounds_toArray, List.set_cons_zero, List.set_cons_succ]
                    refine wpAnyH_ready (rs := [12]) (by kernel_rfl) (by simp) ?_
                    refine AllReadyH.cons (o := { dst := none, op := Op.store 40 (Operand.tmp 84) (Operand.tmp 82), type := 0, pos := _, after := #[{ on := 11, ground := Ground.data }, { on := 9, ground := Ground.data }, { on := 9, ground := Ground.chain }, { on := 0, ground := Ground.phase }, { on := 1, ground := Ground.phase }, { on := 2, ground := Ground.phase }, { on := 3, ground := Ground.phase }, { on := 4, ground := Ground.phase }, { on := 5, ground := Ground.phase }, { on := 6, ground := Ground.phase }, { on := 7, ground := Ground.phase }, { on := 8, ground := Ground.phase }, { on := 9, ground := Ground.phase }], guard := none }) rfl (fun K hK => ?_) AllReadyH.nil
                    have hd2 : w13.cell? ⟨d, 2, none⟩ = some (.slice ao2 n cap2) := by rw [cell_heap (heap_below HW13.out (lt_of_heap HD1.out) HD1.out)]; exact HD5.out
                    have hf2 := free_heap (heap_below HW13.out (lt_of_heap HD1.out) HD1.out) 2
                    go_simp
                    clear hd2 hf2
                    refine hK.out _ _ (hHeld.setCell (by simp) _) (fun hHeld => ?_)
                    clear hK K
                    try simp only [Act.put, List.setIfInBounds_toArray, List.set_cons_zero, List.set_cons_succ]
                    refine wpAnyH_done (by kernel_rfl) ?_ _
                    go_wp2_with fail
                    go_meet
                    exact ⟨a13, c13, w13, rfl, HO13.out, HW13.out⟩
                · go_simp
                  have hw2 : Below wr.heap.size wr (v1.alloc (.cells #[.int .i64 mf, .int .i64 mt, .int .i64 mk, .slice a1 nn c1, .slice vo j vc] 49)) := HW1.out.alloc HW1.out.size _
                  refine hK.out _ _ (Only.ofBelow hw2 [d]) (fun hHeld => ?_)
                  clear hK K
                  try simp only [Act.put, List.setIfInBounds_toArray, List.set_cons_zero, List.set_cons_succ]
                  have hn2 := heap_new v1 (.cells #[.int .i64 mf, .int .i64 mt, .int .i64 mk, .slice a1 nn c1, .slice vo j vc] 49)
                  have he2 := heap_old HE1.out (.cells #[.int .i64 mf, .int .i64 mt, .int .i64 mk, .slice a1 nn c1, .slice vo j vc] 49)
                  have HQ : Hid (v0.heap.size < v1.heap.size) := Lib.hid (lt_of_heap HE1.out)
                  generalize (v1.alloc (.cells #[.int .i64 mf, .int .i64 mt, .int .i64 mk, .slice a1 nn c1, .slice vo j vc] 49)) = v2 at *
                  have HW2 := Lib.hid hw2
                  have HB2 := Lib.hid hn2
                  have HE2 := Lib.hid he2
                  clear hw2 hn2 he2
                  refine wpAnyH_ready (rs := [5]) (by kernel_rfl) (by simp) ?_
                  refine AllReadyH.cons (o := { dst := some 78, op := Op.load 40 (Operand.tmp 77), type := 40, pos := _, after := #[{ on := 4, ground := Ground.data }], guard := none }) rfl (fun K hK => ?_) AllReadyH.nil
                  have hd2 : v2.cell? ⟨d, 2, none⟩ = some (.slice ao2 n cap2) := by rw [cell_heap (heap_below HW2.out (lt_of_heap HD1.out) HD1.out)]; exact HD5.out
                  go_simp
                  clear hd2
                  refine hK.out _ _ hHeld (fun hHeld => ?_)
                  clear hK K
                  try simp only [Act.put, List.setIfInBounds_toArray, List.set_cons_zero, List.set_cons_succ]
                  refine wpAnyH_ready (rs := [6]) (by kernel_rfl) (by simp) ?_
                  refine AllReadyH.cons (o := { dst := some 79, op := Op.call { callee := Callee.builtin Builtin.append, args := #[Operand.tmp 74, Operand.tmp 78], argTypes := #[40, 40] }, type := 40, pos := _, after := #[{ on := 1, ground := Ground.data }, { on := 5, ground := Ground.data }], guard := none }) rfl (fun K hK => ?_) AllReadyH.nil
                  refine step_append_row (by rfl) (.tmp 74) (.tmp 78) (by rfl) wr.heap.size (.slice (some ⟨v0.heap.size, 0, none⟩) 0 0) [] 0 n (by rfl) (own_nilR HE2.out HW0.out.size) ao2 n cap2 ps (by rfl) ((isR_own HD7.out).below HW2.out) HON.out (by omega) (by omega) HW2.out.size ?_
                  intro a5 c5 v3 ho3 hb3 hg3
                  rw [List.nil_append] at ho3
                  have hw3 := HW2.out.trans hb3
                  refine hK.out _ _ (Only.ofBelow hw3 [d]) (fun hHeld => ?_)
                  clear hK K
                  try simp only [Act.put, List.setIfInBounds_toArray, List.set_cons_zero, List.set_cons_succ]
                  have HW3 := Lib.hid hw3
                  have HO3 := Lib.hid ho3
                  have HB3 := Lib.hid (grown_keep hg3 HB2.out (by have := HQ.out; simp only; omega))
                  clear ho3 hg3 hb3 hw3
                  refine wpAnyH_ready (rs := [9]) (by kernel_rfl) (by simp) ?_
                  refine AllReadyH.cons (o := { dst := some 82, op := Op.call { callee := Callee.builtin Builtin.append, args := #[Operand.tmp 79, Operand.tmp 81], argTypes := #[40, 40] }, type := 40, pos := _, after := #[{ on := 6, ground := Ground.data }, { on := 8, ground := Ground.data }, { on := 6, ground := Ground.chain }], guard := none }) rfl (fun K hK => ?_) AllReadyH.nil
                  refine step_append_row (by rfl) (.tmp 79) (.tmp 81) (by rfl) wr.heap.size (.slice a5 n c5) ps n (n + 1) (by rfl) HO3.out _ 1 1 [⟨⟨mf, mt, mk, ns, bs⟩, .slice a1 nn c1, .slice vo j vc⟩] (by rfl) ?_ HOX.out (by omega) (by omega) HW3.out.size ?_
                  · exact isR_one (x := ⟨⟨mf, mt, mk, ns, bs⟩, .slice a1 nn c1, .slice vo j vc⟩) HB3.out 1
                  intro a13 c13 w13 ho13 hb13 hg13
                  have hw13 := HW3.out.trans hb13
                  refine hK.out _ _ (Only.ofBelow hw13 [d]) (fun hHeld => ?_)
                  clear hK K
                  try simp only [Act.put, List.setIfInBounds_toArray, List.set_cons_zero, List.set_cons_succ]
                  have HW13 := Lib.hid hw13
                  have HO13 := Lib.hid ho13
                  clear ho13 hb13 hg13 hw13
                  refine wpAnyH_ready (rs := [10]) (by kernel_rfl) (by simp) ?_
                  refine AllReadyH.cons (o := { dst := some 83, op := Op.nilCheck (Operand.tmp 73), type := 0, pos := _, after := #[{ on := 0, ground := Ground.data }, { on := 0, ground := Ground.phase }, { on := 1, ground := Ground.phase }, { on := 2, ground := Ground.phase }, { on := 3, ground := Ground.phase }, { on := 4, ground := Ground.phase }, { on := 5, ground := Ground.phase }, { on := 6, ground := Ground.phase }, { on := 7, ground := Ground.phase }, { on := 8, ground := Ground.phase }, { on := 9, ground := Ground.phase }], guard := none }) rfl (fun K hK => ?_) AllReadyH.nil
                  go_simp
                  refine hK.out _ _ hHeld (fun hHeld => ?_)
                  clear hK K
                  try simp only [Act.put, List.setIfInBounds_toArray, List.set_cons_zero, List.set_cons_succ]
                  refine wpAnyH_ready (rs := [11]) (by kernel_rfl) (by simp) ?_
                  refine AllReadyH.cons (o := { dst := some 84, op := Op.fieldAddr 44 (Operand.tmp 83) 2, type := 0, pos := _, after := #[{ on := 10, ground := Ground.data }, { on := 0, ground := Ground.phase }, { on := 1, ground := Ground.phase }, { on := 2, ground := Ground.phase }, { on := 3, ground := Ground.phase }, { on := 4, ground := Ground.phase }, { on := 5, ground := Ground.phase }, { on := 6, ground := Ground.phase }, { on := 7, ground := Ground.phase }, { on := 8, ground := Ground.phase }, { on := 9, ground := Ground.phase }], guard := none }) rfl (fun K hK => ?_) AllReadyH.nil
                  go_simp
                  refine hK.out _ _ hHeld (fun hHeld => ?_)
                  clear hK K
                  try simp only [Act.put, List.setIfInBounds_toArray, List.set_cons_zero, List.set_cons_succ]
                  refine wpAnyH_ready (rs := [12]) (by kernel_rfl) (by simp) ?_
                  refine AllReadyH.cons (o := { dst := none, op := Op.store 40 (Operand.tmp 84) (Operand.tmp 82), type := 0, pos := _, after := #[{ on := 11, ground := Ground.data }, { on := 9, ground := Ground.data }, { on := 9, ground := Ground.chain }, { on := 0, ground := Ground.phase }, { on := 1, ground := Ground.phase }, { on := 2, ground := Ground.phase }, { on := 3, ground := Ground.phase }, { on := 4, ground := Ground.phase }, { on := 5, ground := Ground.phase }, { on := 6, ground := Ground.phase }, { on := 7, ground := Ground.phase }, { on := 8, ground := Ground.phase }, { on := 9, ground := Ground.phase }], guard := none }) rfl (fun K hK => ?_) AllReadyH.nil
                  have hd2 : w13.cell? ⟨d, 2, none⟩ = some (.slice ao2 n cap2) := by rw [cell_heap (heap_below HW13.out (lt_of_heap HD1.out) HD1.out)]; exact HD5.out
                  have hf2 := free_heap (heap_below HW13.out (lt_of_heap HD1.out) HD1.out) 2
                  go_simp
                  clear hd2 hf2
                  refine hK.out _ _ (hHeld.setCell (by simp) _) (fun hHeld => ?_)
                  clear hK K
                  try simp only [Act.put, List.setIfInBounds_toArray, List.set_cons_zero, List.set_cons_succ]
                  refine wpAnyH_done (by kernel_rfl) ?_ _
                  go_wp2_with fail
                  go_meet
                  exact ⟨a13, c13, w13, rfl, HO13.out, HW13.out⟩
              · have hd2 : v0.cell? ⟨d, 2, none⟩ = some (.slice ao2 n cap2) := by rw [cell_heap (heap_below HW0.out (lt_of_heap HD1.out) HD1.out)]; exact HD5.out
                go_simp
                clear hd2
                refine hK.out _ _ hHeld (fun hHeld => ?_)
                clear hK K
                try simp only [Act.put, List.setIfInBounds_toArray, List.set_cons_zero, List.set_cons_succ]
                refine wpAnyH_ready (rs := [1, 8]) (by kernel_rfl) (by simp) ?_
                refine AllReadyH.cons (o := { dst := some 74, op := Op.buildSlice 40 0 #[], type := 40, pos := _, after := #[], guard := none }) rfl (fun K hK => ?_) (AllReadyH.cons (o := { dst := some 81, op := Op.buildSlice 40 1 #[(0, Operand.tmp 80)], type := 40, pos := _, after := #[{ on := 7, ground := Ground.data }], guard := none }) rfl (fun K hK => ?_) AllReadyH.nil)
                · go_simp
                  have hw1 : Below wr.heap.size wr (v0.alloc (.cells #[] 49)) := HW0.out.alloc HW0.out.size _
                  refine hK.out _ _ (Only.ofBelow hw1 [d]) (fun hHeld => ?_)
                  clear hK K
                  try simp only [Act.put, List.setIfInBounds_toArray, List.set_cons_zero, List.set_cons_succ]
                  have hn1 := heap_new v0 (.cells #[] 49)
                  generalize (v0.alloc (.cells #[] 49)) = v1 at *
                  have HW1 := Lib.hid hw1
                  have HE1 := Lib.hid hn1
                  clear hw1 hn1 
                  refine wpAnyH_ready (rs := [6, 8]) (by kernel_rfl) (by simp) ?_
                  refine AllReadyH.cons (o := { dst := some 79, op := Op.call { callee := Callee.builtin Builtin.append, args := #[Operand.tmp 74, Operand.tmp 78], argTypes := #[40, 40] }, type := 40, pos := _, after := #[{ on := 1, ground := Ground.data }, { on := 5, ground := Ground.data }], guard := none }) rfl (fun K hK => ?_) (AllReadyH.cons (o := { dst := some 81, op := Op.buildSlice 40 1 #[(0, Operand.tmp 80)], type := 40, pos := _, after := #[{ on := 7, ground := Ground.data }], guard := none }) rfl (fun K hK => ?_) AllReadyH.nil)
                  · refine step_append_row (by rfl) (.tmp 74) (.tmp 78) (by rfl) wr.heap.size (.slice (some ⟨v0.heap.size, 0, none⟩) 0 0) [] 0 n (by rfl) (own_nilR HE1.out HW0.out.size) ao2 n cap2 ps (by rfl) ((isR_own HD7.out).below HW1.out) HON.out (by omega) (by omega) HW1.out.size ?_
                    intro a5 c5 v2 ho2 hb2 hg2
                    rw [List.nil_append] at ho2
                    have hw2 := HW1.out.trans hb2
                    refine hK.out _ _ (Only.ofBelow hw2 [d]) (fun hHeld => ?_)
                    clear hK K
                    try simp only [Act.put, List.setIfInBounds_toArray, List.set_cons_zero, List.set_cons_succ]
                    have HW2 := Lib.hid hw2
                    have HO2 := Lib.hid ho2
                    clear ho2 hg2 hb2 hw2
                    refine wpAnyH_ready (rs := [8]) (by kernel_rfl) (by simp) ?_
                    refine AllReadyH.cons (o := { dst := some 81, op := Op.buildSlice 40 1 #[(0, Operand.tmp 80)], type := 40, pos := _, after := #[{ on := 7, ground := Ground.data }], guard := none }) rfl (fun K hK => ?_) AllReadyH.nil
                    go_simp
                    have hw3 : Below wr.heap.size wr (v2.alloc (.cells #[.int .i64 mf, .int .i64 mt, .int .i64 mk, .slice a1 nn c1, .slice vo j vc] 49)) := HW2.out.alloc HW2.out.size _
                    refine hK.out _ _ (Only.ofBelow hw3 [d]) (fun hHeld => ?_)
                    clear hK K
                    try simp only [Act.put, List.setIfInBounds_toArray, List.set_cons_zero, List.set_cons_succ]
                    have hn3 := heap_new v2 (.cells #[.int .i64 mf, .int .i64 mt, .int .i64 mk, .slice a1 nn c1, .slice vo j vc] 49)
                    have ho3 := rows_below HO2.out ((Below.refl _ _).alloc (Nat.le_refl _) (.cells #[.int .i64 mf, .int .i64 mt, .int .i64 mk, .slice a1 nn c1, .slice vo j vc] 49))
                    generalize (v2.alloc (.cells #[.int .i64 mf, .int .i64 mt, .int .i64 mk, .slice a1 nn c1, .slice vo j vc] 49)) = v3 at *
                    have HW3 := Lib.hid hw3
                    have HB3 := Lib.hid hn3
                    have HO3 := Lib.hid ho3
                    clear hw3 hn3 ho3
                    refine wpAnyH_ready (rs := [9]) (by kernel_rfl) (by simp) ?_
                    refine AllReadyH.cons (o := { dst := some 82, op := Op.call { callee := Callee.builtin Builtin.append, args := #[Operand.tmp 79, Operand.tmp 81], argTypes := #[40, 40] }, type := 40, pos := _, after := #[{ on := 6, ground := Ground.data }, { on := 8, ground := Ground.data }, { on := 6, ground := Ground.chain }], guard := none }) rfl (fun K hK => ?_) AllReadyH.nil
                    refine step_append_row (by rfl) (.tmp 79) (.tmp 81) (by rfl) wr.heap.size (.slice a5 n c5) ps n (n + 1) (by rfl) HO3.out _ 1 1 [⟨⟨mf, mt, mk, ns, bs⟩, .slice a1 nn c1, .slice vo j vc⟩] (by rfl) ?_ HOX.out (by omega) (by omega) HW3.out.size ?_
                    · exact isR_one (x := ⟨⟨mf, mt, mk, ns, bs⟩, .slice a1 nn c1, .slice vo j vc⟩) HB3.out 1
                    intro a13 c13 w13 ho13 hb13 hg13
                    have hw13 := HW3.out.trans hb13
                    refine hK.out _ _ (Only.ofBelow hw13 [d]) (fun hHeld => ?_)
                    clear hK K
                    try simp only [Act.put, List.setIfInBounds_toArray, List.set_cons_zero, List.set_cons_succ]
                    have HW13 := Lib.hid hw13
                    have HO13 := Lib.hid ho13
                    clear ho13 hb13 hg13 hw13
                    refine wpAnyH_ready (rs := [10]) (by kernel_rfl) (by simp) ?_
                    refine AllReadyH.cons (o := { dst := some 83, op := Op.nilCheck (Operand.tmp 73), type := 0, pos := _, after := #[{ on := 0, ground := Ground.data }, { on := 0, ground := Ground.phase }, { on := 1, ground := Ground.phase }, { on := 2, ground := Ground.phase }, { on := 3, ground := Ground.phase }, { on := 4, ground := Ground.phase }, { on := 5, ground := Ground.phase }, { on := 6, ground := Ground.phase }, { on := 7, ground := Ground.phase }, { on := 8, ground := Ground.phase }, { on := 9, ground := Ground.phase }], guard := none }) rfl (fun K hK => ?_) AllReadyH.nil
                    go_simp
                    refine hK.out _ _ hHeld (fun hHeld => ?_)
                    clear hK K
                    try simp only [Act.put, List.setIfInBounds_toArray, List.set_cons_zero, List.set_cons_succ]
                    refine wpAnyH_ready (rs := [11]) (by kernel_rfl) (by simp) ?_
                    refine AllReadyH.cons (o := { dst := some 84, op := Op.fieldAddr 44 (Operand.tmp 83) 2, type := 0, pos := _, after := #[{ on := 10, ground := Ground.data }, { on := 0, ground := Ground.phase }, { on := 1, ground := Ground.phase }, { on := 2, ground := Ground.phase }, { on := 3, ground := Ground.phase }, { on := 4, ground := Ground.phase }, { on := 5, ground := Ground.phase }, { on := 6, ground := Ground.phase }, { on := 7, ground := Ground.phase }, { on := 8, ground := Ground.phase }, { on := 9, ground := Ground.phase }], guard := none }) rfl (fun K hK => ?_) AllReadyH.nil
                    go_simp
                    refine hK.out _ _ hHeld (fun hHeld => ?_)
                    clear hK K
                    try simp only [Act.put, List.setIfInBounds_toArray, List.set_cons_zero, List.set_cons_succ]
                    refine wpAnyH_ready (rs := [12]) (by kernel_rfl) (by simp) ?_
                    refine AllReadyH.cons (o := { dst := none, op := Op.store 40 (Operand.tmp 84) (Operand.tmp 82), type := 0, pos := _, after := #[{ on := 11, ground := Ground.data }, { on := 9, ground := Ground.data }, { on := 9, ground := Ground.chain }, { on := 0, ground := Ground.phase }, { on := 1, ground := Ground.phase }, { on := 2, ground := Ground.phase }, { on := 3, ground := Ground.phase }, { on := 4, ground := Ground.phase }, { on := 5, ground := Ground.phase }, { on := 6, ground := Ground.phase }, { on := 7, ground := Ground.phase }, { on := 8, ground := Ground.phase }, { on := 9, ground := Ground.phase }], guard := none }) rfl (fun K hK => ?_) AllReadyH.nil
                    have hd2 : w13.cell? ⟨d, 2, none⟩ = some (.slice ao2 n cap2) := by rw [cell_heap (heap_below HW13.out (lt_of_heap HD1.out) HD1.out)]; exact HD5.out
                    have hf2 := free_heap (heap_below HW13.out (lt_of_heap HD1.out) HD1.out) 2
                    go_simp
                    clear hd2 hf2
                    refine hK.out _ _ (hHeld.setCell (by simp) _) (fun hHeld => ?_)
                    clear hK K
                    try simp only [Act.put, List.setIfInBounds_toArray, List.set_cons_zero, List.set_cons_succ]
                    refine wpAnyH_done (by kernel_rfl) ?_ _
                    go_wp2_with fail
                    go_meet
                    exact ⟨a13, c13, w13, rfl, HO13.out, HW13.out⟩
                  · go_simp
                    have hw2 : Below wr.heap.size wr (v1.alloc (.cells #[.int .i64 mf, .int .i64 mt, .int .i64 mk, .slice a1 nn c1, .slice vo j vc] 49)) := HW1.out.alloc HW1.out.size _
                    refine hK.out _ _ (Only.ofBelow hw2 [d]) (fun hHeld => ?_)
                    clear hK K
                    try simp only [Act.put, List.setIfInBounds_toArray, List.set_cons_zero, List.set_cons_succ]
                    have hn2 := heap_new v1 (.cells #[.int .i64 mf, .int .i64 mt, .int .i64 mk, .slice a1 nn c1, .slice vo j vc] 49)
                    have he2 := heap_old HE1.out (.cells #[.int .i64 mf, .int .i64 mt, .int .i64 mk, .slice a1 nn c1, .slice vo j vc] 49)
                    have HQ : Hid (v0.heap.size < v1.heap.size) := Lib.hid (lt_of_heap HE1.out)
                    generalize (v1.alloc (.cells #[.int .i64 mf, .int .i64 mt, .int .i64 mk, .slice a1 nn c1, .slice vo j vc] 49)) = v2 at *
                    have HW2 := Lib.hid hw2
                    have HB2 := Lib.hid hn2
                    have HE2 := Lib.hid he2
                    clear hw2 hn2 he2
                    refine wpAnyH_ready (rs := [6]) (by kernel_rfl) (by simp) ?_
                    refine AllReadyH.cons (o := { dst := some 79, op := Op.call { callee := Callee.builtin Builtin.append, args := #[Operand.tmp 74, Operand.tmp 78], argTypes := #[40, 40] }, type := 40, pos := _, after := #[{ on := 1, ground := Ground.data }, { on := 5, ground := Ground.data }], guard := none }) rfl (fun K hK => ?_) AllReadyH.nil
                    refine step_append_row (by rfl) (.tmp 74) (.tmp 78) (by rfl) wr.heap.size (.slice (some ⟨v0.heap.size, 0, none⟩) 0 0) [] 0 n (by rfl) (own_nilR HE2.out HW0.out.size) ao2 n cap2 ps (by rfl) ((isR_own HD7.out).below HW2.out) HON.out (by omega) (by omega) HW2.out.size ?_
                    intro a5 c5 v3 ho3 hb3 hg3
                    rw [List.nil_append] at ho3
                    have hw3 := HW2.out.trans hb3
                    refine hK.out _ _ (Only.ofBelow hw3 [d]) (fun hHeld => ?_)
                    clear hK K
                    try simp only [Act.put, List.setIfInBounds_toArray, List.set_cons_zero, List.set_cons_succ]
                    have HW3 := Lib.hid hw3
                    have HO3 := Lib.hid ho3
                    have HB3 := Lib.hid (grown_keep hg3 HB2.out (by have := HQ.out; simp only; omega))
                    clear ho3 hg3 hb3 hw3
                    refine wpAnyH_ready (rs := [9]) (by kernel_rfl) (by simp) ?_
                    refine AllReadyH.cons (o := { dst := some 82, op := Op.call { callee := Callee.builtin Builtin.append, args := #[Operand.tmp 79, Operand.tmp 81], argTypes := #[40, 40] }, type := 40, pos := _, after := #[{ on := 6, ground := Ground.data }, { on := 8, ground := Ground.data }, { on := 6, ground := Ground.chain }], guard := none }) rfl (fun K hK => ?_) AllReadyH.nil
                    refine step_append_row (by rfl) (.tmp 79) (.tmp 81) (by rfl) wr.heap.size (.slice a5 n c5) ps n (n + 1) (by rfl) HO3.out _ 1 1 [⟨⟨mf, mt, mk, ns, bs⟩, .slice a1 nn c1, .slice vo j vc⟩] (by rfl) ?_ HOX.out (by omega) (by omega) HW3.out.size ?_
                    · exact isR_one (x := ⟨⟨mf, mt, mk, ns, bs⟩, .slice a1 nn c1, .slice vo j vc⟩) HB3.out 1
                    intro a13 c13 w13 ho13 hb13 hg13
                    have hw13 := HW3.out.trans hb13
                    refine hK.out _ _ (Only.ofBelow hw13 [d]) (fun hHeld => ?_)
                    clear hK K
                    try simp only [Act.put, List.setIfInBounds_toArray, List.set_cons_zero, List.set_cons_succ]
                    have HW13 := Lib.hid hw13
                    have HO13 := Lib.hid ho13
                    clear ho13 hb13 hg13 hw13
                    refine wpAnyH_ready (rs := [10]) (by kernel_rfl) (by simp) ?_
                    refine AllReadyH.cons (o := { dst := some 83, op := Op.nilCheck (Operand.tmp 73), type := 0, pos := _, after := #[{ on := 0, ground := Ground.data }, { on := 0, ground := Ground.phase }, { on := 1, ground := Ground.phase }, { on := 2, ground := Ground.phase }, { on := 3, ground := Ground.phase }, { on := 4, ground := Ground.phase }, { on := 5, ground := Ground.phase }, { on := 6, ground := Ground.phase }, { on := 7, ground := Ground.phase }, { on := 8, ground := Ground.phase }, { on := 9, ground := Ground.phase }], guard := none }) rfl (fun K hK => ?_) AllReadyH.nil
                    go_simp
                    refine hK.out _ _ hHeld (fun hHeld => ?_)
                    clear hK K
                    try simp only [Act.put, List.setIfInBounds_toArray, List.set_cons_zero, List.set_cons_succ]
                    refine wpAnyH_ready (rs := [11]) (by kernel_rfl) (by simp) ?_
                    refine AllReadyH.cons (o := { dst := some 84, op := Op.fieldAddr 44 (Operand.tmp 83) 2, type := 0, pos := _, after := #[{ on := 10, ground := Ground.data }, { on := 0, ground := Ground.phase }, { on := 1, ground := Ground.phase }, { on := 2, ground := Ground.phase }, { on := 3, ground := Ground.phase }, { on := 4, ground := Ground.phase }, { on := 5, ground := Ground.phase }, { on := 6, ground := Ground.phase }, { on := 7, ground := Ground.phase }, { on := 8, ground := Ground.phase }, { on := 9, ground := Ground.phase }], guard := none }) rfl (fun K hK => ?_) AllReadyH.nil
                    go_simp
                    refine hK.out _ _ hHeld (fun hHeld => ?_)
                    clear hK K
                    try simp only [Act.put, List.setIfInBounds_toArray, List.set_cons_zero, List.set_cons_succ]
                    refine wpAnyH_ready (rs := [12]) (by kernel_rfl) (by simp) ?_
                    refine AllReadyH.cons (o := { dst := none, op := Op.store 40 (Operand.tmp 84) (Operand.tmp 82), type := 0, pos := _, after := #[{ on := 11, ground := Ground.data }, { on := 9, ground := Ground.data }, { on := 9, ground := Ground.chain }, { on := 0, ground := Ground.phase }, { on := 1, ground := Ground.phase }, { on := 2, ground := Ground.phase }, { on := 3, ground := Ground.phase }, { on := 4, ground := Ground.phase }, { on := 5, ground := Ground.phase }, { on := 6, ground := Ground.phase }, { on := 7, ground := Ground.phase }, { on := 8, ground := Ground.phase }, { on := 9, ground := Ground.phase }], guard := none }) rfl (fun K hK => ?_) AllReadyH.nil
                    have hd2 : w13.cell? ⟨d, 2, none⟩ = some (.slice ao2 n cap2) := by rw [cell_heap (heap_below HW13.out (lt_of_heap HD1.out) HD1.out)]; exact HD5.out
                    have hf2 := free_heap (heap_below HW13.out (lt_of_heap HD1.out) HD1.out) 2
                    go_simp
                    clear hd2 hf2
                    refine hK.out _ _ (hHeld.setCell (by simp) _) (fun hHeld => ?_)
                    clear hK K
                    try simp only [Act.put, List.setIfInBounds_toArray, List.set_cons_zero, List.set_cons_succ]
                    refine wpAnyH_done (by kernel_rfl) ?_ _
                    go_wp2_with fail
                    go_meet
                    exact ⟨a13, c13, w13, rfl, HO13.out, HW13.out⟩
                · go_simp
                  have hw1 : Below wr.heap.size wr (v0.alloc (.cells #[.int .i64 mf, .int .i64 mt, .int .i64 mk, .slice a1 nn c1, .slice vo j vc] 49)) := HW0.out.alloc HW0.out.size _
                  refine hK.out _ _ (Only.ofBelow hw1 [d]) (fun hHeld => ?_)
                  clear hK K
                  try simp only [Act.put, List.setIfInBounds_toArray, List.set_cons_zero, List.set_cons_succ]
                  have hn1 := heap_new v0 (.cells #[.int .i64 mf, .int .i64 mt, .int .i64 mk, .slice a1 nn c1, .slice vo j vc] 49)
                  generalize (v0.alloc (.cells #[.int .i64 mf, .int .i64 mt, .int .i64 mk, .slice a1 nn c1, .slice vo j vc] 49)) = v1 at *
                  have HW1 := Lib.hid hw1
                  have HB1 := Lib.hid hn1
                  clear hw1 hn1 
                  refine wpAnyH_ready (rs := [1]) (by kernel_rfl) (by simp) ?_
                  refine AllReadyH.cons (o := { dst := some 74, op := Op.buildSlice 40 0 #[], type := 40, pos := _, after := #[], guard := none }) rfl (fun K hK => ?_) AllReadyH.nil
                  go_simp
                  have hw2 : Below wr.heap.size wr (v1.alloc (.cells #[] 49)) := HW1.out.alloc HW1.out.size _
                  refine hK.out _ _ (Only.ofBelow hw2 [d]) (fun hHeld => ?_)
                  clear hK K
                  try simp only [Act.put, List.setIfInBounds_toArray, List.set_cons_zero, List.set_cons_succ]
                  have hn2 := heap_new v1 (.cells #[] 49)
                  have hb2 := heap_old HB1.out (.cells #[] 49)
                  have HQ : Hid (v0.heap.size < v1.heap.size) := Lib.hid (lt_of_heap HB1.out)
                  generalize (v1.alloc (.cells #[] 49)) = v2 at *
                  have HW2 := Lib.hid hw2
                  have HE2 := Lib.hid hn2
                  have HB2 := Lib.hid hb2
                  clear hw2 hn2 hb2
                  refine wpAnyH_ready (rs := [6]) (by kernel_rfl) (by simp) ?_
                  refine AllReadyH.cons (o := { dst := some 79, op := Op.call { callee := Callee.builtin Builtin.append, args := #[Operand.tmp 74, Operand.tmp 78], argTypes := #[40, 40] }, type := 40, pos := _, after := #[{ on := 1, ground := Ground.data }, { on := 5, ground := Ground.data }], guard := none }) rfl (fun K hK => ?_) AllReadyH.nil
                  refine step_append_row (by rfl) (.tmp 74) (.tmp 78) (by rfl) wr.heap.size (.slice (some ⟨v1.heap.size, 0, none⟩) 0 0) [] 0 n (by rfl) (own_nilR HE2.out HW1.out.size) ao2 n cap2 ps (by rfl) ((isR_own HD7.out).below HW2.out) HON.out (by omega) (by omega) HW2.out.size ?_
                  intro a5 c5 v3 ho3 hb3 hg3
                  rw [List.nil_append] at ho3
                  have hw3 := HW2.out.trans hb3
                  refine hK.out _ _ (Only.ofBelow hw3 [d]) (fun hHeld => ?_)
                  clear hK K
                  try simp only [Act.put, List.setIfInBounds_toArray, List.set_cons_zero, List.set_cons_succ]
                  have HW3 := Lib.hid hw3
                  have HO3 := Lib.hid ho3
                  have HB3 := Lib.hid (grown_keep hg3 HB2.out (by have := HQ.out; simp only; omega))
                  clear ho3 hg3 hb3 hw3
                  refine wpAnyH_ready (rs := [9]) (by kernel_rfl) (by simp) ?_
                  refine AllReadyH.cons (o := { dst := some 82, op := Op.call { callee := Callee.builtin Builtin.append, args := #[Operand.tmp 79, Operand.tmp 81], argTypes := #[40, 40] }, type := 40, pos := _, after := #[{ on := 6, ground := Ground.data }, { on := 8, ground := Ground.data }, { on := 6, ground := Ground.chain }], guard := none }) rfl (fun K hK => ?_) AllReadyH.nil
                  refine step_append_row (by rfl) (.tmp 79) (.tmp 81) (by rfl) wr.heap.size (.slice a5 n c5) ps n (n + 1) (by rfl) HO3.out _ 1 1 [⟨⟨mf, mt, mk, ns, bs⟩, .slice a1 nn c1, .slice vo j vc⟩] (by rfl) ?_ HOX.out (by omega) (by omega) HW3.out.size ?_
                  · exact isR_one (x := ⟨⟨mf, mt, mk, ns, bs⟩, .slice a1 nn c1, .slice vo j vc⟩) HB3.out 1
                  intro a13 c13 w13 ho13 hb13 hg13
                  have hw13 := HW3.out.trans hb13
                  refine hK.out _ _ (Only.ofBelow hw13 [d]) (fun hHeld => ?_)
                  clear hK K
                  try simp only [Act.put, List.setIfInBounds_toArray, List.set_cons_zero, List.set_cons_succ]
                  have HW13 := Lib.hid hw13
                  have HO13 := Lib.hid ho13
                  clear ho13 hb13 hg13 hw13
                  refine wpAnyH_ready (rs := [10]) (by kernel_rfl) (by simp) ?_
                  refine AllReadyH.cons (o := { dst := some 83, op := Op.nilCheck (Operand.tmp 73), type := 0, pos := _, after := #[{ on := 0, ground := Ground.data }, { on := 0, ground := Ground.phase }, { on := 1, ground := Ground.phase }, { on := 2, ground := Ground.phase }, { on := 3, ground := Ground.phase }, { on := 4, ground := Ground.phase }, { on := 5, ground := Ground.phase }, { on := 6, ground := Ground.phase }, { on := 7, ground := Ground.phase }, { on := 8, ground := Ground.phase }, { on := 9, ground := Ground.phase }], guard := none }) rfl (fun K hK => ?_) AllReadyH.nil
                  go_simp
                  refine hK.out _ _ hHeld (fun hHeld => ?_)
                  clear hK K
                  try simp only [Act.put, List.setIfInBounds_toArray, List.set_cons_zero, List.set_cons_succ]
                  refine wpAnyH_ready (rs := [11]) (by kernel_rfl) (by simp) ?_
                  refine AllReadyH.cons (o := { dst := some 84, op := Op.fieldAddr 44 (Operand.tmp 83) 2, type := 0, pos := _, after := #[{ on := 10, ground := Ground.data }, { on := 0, ground := Ground.phase }, { on := 1, ground := Ground.phase }, { on := 2, ground := Ground.phase }, { on := 3, ground := Ground.phase }, { on := 4, ground := Ground.phase }, { on := 5, ground := Ground.phase }, { on := 6, ground := Ground.phase }, { on := 7, ground := Ground.phase }, { on := 8, ground := Ground.phase }, { on := 9, ground := Ground.phase }], guard := none }) rfl (fun K hK => ?_) AllReadyH.nil
                  go_simp
                  refine hK.out _ _ hHeld (fun hHeld => ?_)
                  clear hK K
                  try simp only [Act.put, List.setIfInBounds_toArray, List.set_cons_zero, List.set_cons_succ]
                  refine wpAnyH_ready (rs := [12]) (by kernel_rfl) (by simp) ?_
                  refine AllReadyH.cons (o := { dst := none, op := Op.store 40 (Operand.tmp 84) (Operand.tmp 82), type := 0, pos := _, after := #[{ on := 11, ground := Ground.data }, { on := 9, ground := Ground.data }, { on := 9, ground := Ground.chain }, { on := 0, ground := Ground.phase }, { on := 1, ground := Ground.phase }, { on := 2, ground := Ground.phase }, { on := 3, ground := Ground.phase }, { on := 4, ground := Ground.phase }, { on := 5, ground := Ground.phase }, { on := 6, ground := Ground.phase }, { on := 7, ground := Ground.phase }, { on := 8, ground := Ground.phase }, { on := 9, ground := Ground.phase }], guard := none }) rfl (fun K hK => ?_) AllReadyH.nil
                  have hd2 : w13.cell? ⟨d, 2, none⟩ = some (.slice ao2 n cap2) := by rw [cell_heap (heap_below HW13.out (lt_of_heap HD1.out) HD1.out)]; exact HD5.out
                  have hf2 := free_heap (heap_below HW13.out (lt_of_heap HD1.out) HD1.out) 2
                  go_simp
                  clear hd2 hf2
                  refine hK.out _ _ (hHeld.setCell (by simp) _) (fun hHeld => ?_)
                  clear hK K
                  try simp only [Act.put, List.setIfInBounds_toArray, List.set_cons_zero, List.set_cons_succ]
                  refine wpAnyH_done (by kernel_rfl) ?_ _
                  go_wp2_with fail
                  go_meet
                  exact ⟨a13, c13, w13, rfl, HO13.out, HW13.out⟩
              · go_simp
                have hw1 : Below wr.heap.size wr (v0.alloc (.cells #[.int .i64 mf, .int .i64 mt, .int .i64 mk, .slice a1 nn c1, .slice vo j vc] 49)) := HW0.out.alloc HW0.out.size _
                refine hK.out _ _ (Only.ofBelow hw1 [d]) (fun hHeld => ?_)
                clear hK K
                try simp only [Act.put, List.setIfInBounds_toArray, List.set_cons_zero, List.set_cons_succ]
                have hn1 := heap_new v0 (.cells #[.int .i64 mf, .int .i64 mt, .int .i64 mk, .slice a1 nn c1, .slice vo j vc] 49)
                generalize (v0.alloc (.cells #[.int .i64 mf, .int .i64 mt, .int .i64 mk, .slice a1 nn c1, .slice vo j vc] 49)) = v1 at *
                have HW1 := Lib.hid hw1
                have HB1 := Lib.hid hn1
                clear hw1 hn1 
                refine wpAnyH_ready (rs := [1, 5]) (by kernel_rfl) (by simp) ?_
                refine AllReadyH.cons (o := { dst := some 74, op := Op.buildSlice 40 0 #[], type := 40, pos := _, after := #[], guard := none }) rfl (fun K hK => ?_) (AllReadyH.cons (o := { dst := some 78, op := Op.load 40 (Operand.tmp 77), type := 40, pos := _, after := #[{ on := 4, ground := Ground.data }], guard := none }) rfl (fun K hK => ?_) AllReadyH.nil)
                · go_simp
                  have hw2 : Below wr.heap.size wr (v1.alloc (.cells #[] 49)) := HW1.out.alloc HW1.out.size _
                  refine hK.out _ _ (Only.ofBelow hw2 [d]) (fun hHeld => ?_)
                  clear hK K
                  try simp only [Act.put, List.setIfInBounds_toArray, List.set_cons_zero, List.set_cons_succ]
                  have hn2 := heap_new v1 (.cells #[] 49)
                  have hb2 := heap_old HB1.out (.cells #[] 49)
                  have HQ : Hid (v0.heap.size < v1.heap.size) := Lib.hid (lt_of_heap HB1.out)
                  generalize (v1.alloc (.cells #[] 49)) = v2 at *
                  have HW2 := Lib.hid hw2
                  have HE2 := Lib.hid hn2
                  have HB2 := Lib.hid hb2
                  clear hw2 hn2 hb2
                  refine wpAnyH_ready (rs := [5]) (by kernel_rfl) (by simp) ?_
                  refine AllReadyH.cons (o := { dst := some 78, op := Op.load 40 (Operand.tmp 77), type := 40, pos := _, after := #[{ on := 4, ground := Ground.data }], guard := none }) rfl (fun K hK => ?_) AllReadyH.nil
                  have hd2 : v2.cell? ⟨d, 2, none⟩ = some (.slice ao2 n cap2) := by rw [cell_heap (heap_below HW2.out (lt_of_heap HD1.out) HD1.out)]; exact HD5.out
                  go_simp
                  clear hd2
                  refine hK.out _ _ hHeld (fun hHeld => ?_)
                  clear hK K
                  try simp only [Act.put, List.setIfInBounds_toArray, List.set_cons_zero, List.set_cons_succ]
                  refine wpAnyH_ready (rs := [6]) (by kernel_rfl) (by simp) ?_
                  refine AllReadyH.cons (o := { dst := some 79, op := Op.call { callee := Callee.builtin Builtin.append, args := #[Operand.tmp 74, Operand.tmp 78], argTypes := #[40, 40] }, type := 40, pos := _, after := #[{ on := 1, ground := Ground.data }, { on := 5, ground := Ground.data }], guard := none }) rfl (fun K hK => ?_) AllReadyH.nil
                  refine step_append_row (by rfl) (.tmp 74) (.tmp 78) (by rfl) wr.heap.size (.slice (some ⟨v1.heap.size, 0, none⟩) 0 0) [] 0 n (by rfl) (own_nilR HE2.out HW1.out.size) ao2 n cap2 ps (by rfl) ((isR_own HD7.out).below HW2.out) HON.out (by omega) (by omega) HW2.out.size ?_
                  intro a5 c5 v3 ho3 hb3 hg3
                  rw [List.nil_append] at ho3
                  have hw3 := HW2.out.trans hb3
                  refine hK.out _ _ (Only.ofBelow hw3 [d]) (fun hHeld => ?_)
                  clear hK K
                  try simp only [Act.put, List.setIfInBounds_toArray, List.set_cons_zero, List.set_cons_succ]
                  have HW3 := Lib.hid hw3
                  have HO3 := Lib.hid ho3
                  have HB3 := Lib.hid (grown_keep hg3 HB2.out (by have := HQ.out; simp only; omega))
                  clear ho3 hg3 hb3 hw3
                  refine wpAnyH_ready (rs := [9]) (by kernel_rfl) (by simp) ?_
                  refine AllReadyH.cons (o := { dst := some 82, op := Op.call { callee := Callee.builtin Builtin.append, args := #[Operand.tmp 79, Operand.tmp 81], argTypes := #[40, 40] }, type := 40, pos := _, after := #[{ on := 6, ground := Ground.data }, { on := 8, ground := Ground.data }, { on := 6, ground := Ground.chain }], guard := none }) rfl (fun K hK => ?_) AllReadyH.nil
                  refine step_append_row (by rfl) (.tmp 79) (.tmp 81) (by rfl) wr.heap.size (.slice a5 n c5) ps n (n + 1) (by rfl) HO3.out _ 1 1 [⟨⟨mf, mt, mk, ns, bs⟩, .slice a1 nn c1, .slice vo j vc⟩] (by rfl) ?_ HOX.out (by omega) (by omega) HW3.out.size ?_
                  · exact isR_one (x := ⟨⟨mf, mt, mk, ns, bs⟩, .slice a1 nn c1, .slice vo j vc⟩) HB3.out 1
                  intro a13 c13 w13 ho13 hb13 hg13
                  have hw13 := HW3.out.trans hb13
                  refine hK.out _ _ (Only.ofBelow hw13 [d]) (fun hHeld => ?_)
                  clear hK K
                  try simp only [Act.put, List.setIfInBounds_toArray, List.set_cons_zero, List.set_cons_succ]
                  have HW13 := Lib.hid hw13
                  have HO13 := Lib.hid ho13
                  clear ho13 hb13 hg13 hw13
                  refine wpAnyH_ready (rs := [10]) (by kernel_rfl) (by simp) ?_
                  refine AllReadyH.cons (o := { dst := some 83, op := Op.nilCheck (Operand.tmp 73), type := 0, pos := _, after := #[{ on := 0, ground := Ground.data }, { on := 0, ground := Ground.phase }, { on := 1, ground := Ground.phase }, { on := 2, ground := Ground.phase }, { on := 3, ground := Ground.phase }, { on := 4, ground := Ground.phase }, { on := 5, ground := Ground.phase }, { on := 6, ground := Ground.phase }, { on := 7, ground := Ground.phase }, { on := 8, ground := Ground.phase }, { on := 9, ground := Ground.phase }], guard := none }) rfl (fun K hK => ?_) AllReadyH.nil
                  go_simp
                  refine hK.out _ _ hHeld (fun hHeld => ?_)
                  clear hK K
                  try simp only [Act.put, List.setIfInBounds_toArray, List.set_cons_zero, List.set_cons_succ]
                  refine wpAnyH_ready (rs := [11]) (by kernel_rfl) (by simp) ?_
                  refine AllReadyH.cons (o := { dst := some 84, op := Op.fieldAddr 44 (Operand.tmp 83) 2, type := 0, pos := _, after := #[{ on := 10, ground := Ground.data }, { on := 0, ground := Ground.phase }, { on := 1, ground := Ground.phase }, { on := 2, ground := Ground.phase }, { on := 3, ground := Ground.phase }, { on := 4, ground := Ground.phase }, { on := 5, ground := Ground.phase }, { on := 6, ground := Ground.phase }, { on := 7, ground := Ground.phase }, { on := 8, ground := Ground.phase }, { on := 9, ground := Ground.phase }], guard := none }) rfl (fun K hK => ?_) AllReadyH.nil
                  go_simp
                  refine hK.out _ _ hHeld (fun hHeld => ?_)
                  clear hK K
                  try simp only [Act.put, List.setIfInBounds_toArray, List.set_cons_zero, List.set_cons_succ]
                  refine wpAnyH_ready (rs := [12]) (by kernel_rfl) (by simp) ?_
                  refine AllReadyH.cons (o := { dst := none, op := Op.store 40 (Operand.tmp 84) (Operand.tmp 82), type := 0, pos := _, after := #[{ on := 11, ground := Ground.data }, { on := 9, ground := Ground.data }, { on := 9, ground := Ground.chain }, { on := 0, ground := Ground.phase }, { on := 1, ground := Ground.phase }, { on := 2, ground := Ground.phase }, { on := 3, ground := Ground.phase }, { on := 4, ground := Ground.phase }, { on := 5, ground := Ground.phase }, { on := 6, ground := Ground.phase }, { on := 7, ground := Ground.phase }, { on := 8, ground := Ground.phase }, { on := 9, ground := Ground.phase }], guard := none }) rfl (fun K hK => ?_) AllReadyH.nil
                  have hd2 : w13.cell? ⟨d, 2, none⟩ = some (.slice ao2 n cap2) := by rw [cell_heap (heap_below HW13.out (lt_of_heap HD1.out) HD1.out)]; exact HD5.out
                  have hf2 := free_heap (heap_below HW13.out (lt_of_heap HD1.out) HD1.out) 2
                  go_simp
                  clear hd2 hf2
                  refine hK.out _ _ (hHeld.setCell (by simp) _) (fun hHeld => ?_)
                  clear hK K
                  try simp only [Act.put, List.setIfInBounds_toArray, List.set_cons_zero, List.set_cons_succ]
                  refine wpAnyH_done (by kernel_rfl) ?_ _
                  go_wp2_with fail
                  go_meet
                  exact ⟨a13, c13, w13, rfl, HO13.out, HW13.out⟩
                · have hd2 : v1.cell? ⟨d, 2, none⟩ = some (.slice ao2 n cap2) := by rw [cell_heap (heap_below HW1.out (lt_of_heap HD1.out) HD1.out)]; exact HD5.out
                  go_simp
                  clear hd2
                  refine hK.out _ _ hHeld (fun hHeld => ?_)
                  clear hK K
                  try simp only [Act.put, List.setIfInBounds_toArray, List.set_cons_zero, List.set_cons_succ]
                  refine wpAnyH_ready (rs := [1]) (by kernel_rfl) (by simp) ?_
                  refine AllReadyH.cons (o := { dst := some 74, op := Op.buildSlice 40 0 #[], type := 40, pos := _, after := #[], guard := none }) rfl (fun K hK => ?_) AllReadyH.nil
                  go_simp
                  have hw2 : Below wr.heap.size wr (v1.alloc (.cells #[] 49)) := HW1.out.alloc HW1.out.size _
                  refine hK.out _ _ (Only.ofBelow hw2 [d]) (fun hHeld => ?_)
                  clear hK K
                  try simp only [Act.put, List.setIfInBounds_toArray, List.set_cons_zero, List.set_cons_succ]
                  have hn2 := heap_new v1 (.cells #[] 49)
                  have hb2 := heap_old HB1.out (.cells #[] 49)
                  have HQ : Hid (v0.heap.size < v1.heap.size) := Lib.hid (lt_of_heap HB1.out)
                  generalize (v1.alloc (.cells #[] 49)) = v2 at *
                  have HW2 := Lib.hid hw2
                  have HE2 := Lib.hid hn2
                  have HB2 := Lib.hid hb2
                  clear hw2 hn2 hb2
                  refine wpAnyH_ready (rs := [6]) (by kernel_rfl) (by simp) ?_
                  refine AllReadyH.cons (o := { dst := some 79, op := Op.call { callee := Callee.builtin Builtin.append, args := #[Operand.tmp 74, Operand.tmp 78], argTypes := #[40, 40] }, type := 40, pos := _, after := #[{ on := 1, ground := Ground.data }, { on := 5, ground := Ground.data }], guard := none }) rfl (fun K hK => ?_) AllReadyH.nil
                  refine step_append_row (by rfl) (.tmp 74) (.tmp 78) (by rfl) wr.heap.size (.slice (some ⟨v1.heap.size, 0, none⟩) 0 0) [] 0 n (by rfl) (own_nilR HE2.out HW1.out.size) ao2 n cap2 ps (by rfl) ((isR_own HD7.out).below HW2.out) HON.out (by omega) (by omega) HW2.out.size ?_
                  intro a5 c5 v3 ho3 hb3 hg3
                  rw [List.nil_append] at ho3
                  have hw3 := HW2.out.trans hb3
                  refine hK.out _ _ (Only.ofBelow hw3 [d]) (fun hHeld => ?_)
                  clear hK K
                  try simp only [Act.put, List.setIfInBounds_toArray, List.set_cons_zero, List.set_cons_succ]
                  have HW3 := Lib.hid hw3
                  have HO3 := Lib.hid ho3
                  have HB3 := Lib.hid (grown_keep hg3 HB2.out (by have := HQ.out; simp only; omega))
                  clear ho3 hg3 hb3 hw3
                  refine wpAnyH_ready (rs := [9]) (by kernel_rfl) (by simp) ?_
                  refine AllReadyH.cons (o := { dst := some 82, op := Op.call { callee := Callee.builtin Builtin.append, args := #[Operand.tmp 79, Operand.tmp 81], argTypes := #[40, 40] }, type := 40, pos := _, after := #[{ on := 6, ground := Ground.data }, { on := 8, ground := Ground.data }, { on := 6, ground := Ground.chain }], guard := none }) rfl (fun K hK => ?_) AllReadyH.nil
                  refine step_append_row (by rfl) (.tmp 79) (.tmp 81) (by rfl) wr.heap.size (.slice a5 n c5) ps n (n + 1) (by rfl) HO3.out _ 1 1 [⟨⟨mf, mt, mk, ns, bs⟩, .slice a1 nn c1, .slice vo j vc⟩] (by rfl) ?_ HOX.out (by omega) (by omega) HW3.out.size ?_
                  · exact isR_one (x := ⟨⟨mf, mt, mk, ns, bs⟩, .slice a1 nn c1, .slice vo j vc⟩) HB3.out 1
                  intro a13 c13 w13 ho13 hb13 hg13
                  have hw13 := HW3.out.trans hb13
                  refine hK.out _ _ (Only.ofBelow hw13 [d]) (fun hHeld => ?_)
                  clear hK K
                  try simp only [Act.put, List.setIfInBounds_toArray, List.set_cons_zero, List.set_cons_succ]
                  have HW13 := Lib.hid hw13
                  have HO13 := Lib.hid ho13
                  clear ho13 hb13 hg13 hw13
                  refine wpAnyH_ready (rs := [10]) (by kernel_rfl) (by simp) ?_
                  refine AllReadyH.cons (o := { dst := some 83, op := Op.nilCheck (Operand.tmp 73), type := 0, pos := _, after := #[{ on := 0, ground := Ground.data }, { on := 0, ground := Ground.phase }, { on := 1, ground := Ground.phase }, { on := 2, ground := Ground.phase }, { on := 3, ground := Ground.phase }, { on := 4, ground := Ground.phase }, { on := 5, ground := Ground.phase }, { on := 6, ground := Ground.phase }, { on := 7, ground := Ground.phase }, { on := 8, ground := Ground.phase }, { on := 9, ground := Ground.phase }], guard := none }) rfl (fun K hK => ?_) AllReadyH.nil
                  go_simp
                  refine hK.out _ _ hHeld (fun hHeld => ?_)
                  clear hK K
                  try simp only [Act.put, List.setIfInBounds_toArray, List.set_cons_zero, List.set_cons_succ]
                  refine wpAnyH_ready (rs := [11]) (by kernel_rfl) (by simp) ?_
                  refine AllReadyH.cons (o := { dst := some 84, op := Op.fieldAddr 44 (Operand.tmp 83) 2, type := 0, pos := _, after := #[{ on := 10, ground := Ground.data }, { on := 0, ground := Ground.phase }, { on := 1, ground := Ground.phase }, { on := 2, ground := Ground.phase }, { on := 3, ground := Ground.phase }, { on := 4, ground := Ground.phase }, { on := 5, ground := Ground.phase }, { on := 6, ground := Ground.phase }, { on := 7, ground := Ground.phase }, { on := 8, ground := Ground.phase }, { on := 9, ground := Ground.phase }], guard := none }) rfl (fun K hK => ?_) AllReadyH.nil
                  go_simp
                  refine hK.out _ _ hHeld (fun hHeld => ?_)
                  clear hK K
                  try simp only [Act.put, List.setIfInBounds_toArray, List.set_cons_zero, List.set_cons_succ]
                  refine wpAnyH_ready (rs := [12]) (by kernel_rfl) (by simp) ?_
                  refine AllReadyH.cons (o := { dst := none, op := Op.store 40 (Operand.tmp 84) (Operand.tmp 82), type := 0, pos := _, after := #[{ on := 11, ground := Ground.data }, { on := 9, ground := Ground.data }, { on := 9, ground := Ground.chain }, { on := 0, ground := Ground.phase }, { on := 1, ground := Ground.phase }, { on := 2, ground := Ground.phase }, { on := 3, ground := Ground.phase }, { on := 4, ground := Ground.phase }, { on := 5, ground := Ground.phase }, { on := 6, ground := Ground.phase }, { on := 7, ground := Ground.phase }, { on := 8, ground := Ground.phase }, { on := 9, ground := Ground.phase }], guard := none }) rfl (fun K hK => ?_) AllReadyH.nil
                  have hd2 : w13.cell? ⟨d, 2, none⟩ = some (.slice ao2 n cap2) := by rw [cell_heap (heap_below HW13.out (lt_of_heap HD1.out) HD1.out)]; exact HD5.out
                  have hf2 := free_heap (heap_below HW13.out (lt_of_heap HD1.out) HD1.out) 2
                  go_simp
                  clear hd2 hf2
                  refine hK.out _ _ (hHeld.setCell (by simp) _) (fun hHeld => ?_)
                  clear hK K
                  try simp only [Act.put, List.setIfInBounds_toArray, List.set_cons_zero, List.set_cons_succ]
                  refine wpAnyH_done (by kernel_rfl) ?_ _
                  go_wp2_with fail
                  go_meet
                  exact ⟨a13, c13, w13, rfl, HO13.out, HW13.out⟩
            case rest =>
              obtain ⟨na, nq, w13, rfl, ho13, hb13⟩ := hcut
              have ow : Only [d] w13 (w13.setCell ⟨d, 2, none⟩ (.slice na (n + 1) nq)) := (Only.refl _ _).setCell (by simp) _
              have k13 := heap_below hb13 (lt_of_heap HD1.out) HD1.out
              have HK14 := Lib.hid (heap_set k13 2 (.slice na (n + 1) nq))
              have HR14 := Lib.hid (rows_types ho13 ow (fun j hj cur => by rw [List.mem_singleton.1 hj, k13]; simp))
              have hnr : NoRow w13 [d] := by
                intro j hj cur
                rw [List.mem_singleton.1 hj, k13]; simp
              have hwr : Below w.heap.size w wr := HWC.out.trans (HBR.out.mono HWC.out.size)
              have HH14 := Lib.hid ((HH.out.2.2.2.2.only (Only.ofBelow hb13 []) (fun j hj => by cases hj)).only ow hnr)
              have HM14 := Lib.hid (((OwnM.mk (m := ⟨mf, mt, mk, ns, bs⟩) HOI.out HOL2.out).below hb13).only ow hnr)
              have HO14 : Hid (Only [d] w (w13.setCell ⟨d, 2, none⟩ (.slice na (n + 1) nq))) := Lib.hid ((Only.ofBelow (hwr.trans (hb13.mono hwr.size)) [d]).trans ow)
              have HSZ : Hid (base ≤ V.heap.size ∧ V.heap.size ≤ wr.heap.size) := Lib.hid ⟨by have := HWC.out.size; have := HXX.out; omega, HBR.out.size⟩
              clear ho13 k13 hnr ow hb13 hwr hk0 hk1 hk2 hk3 hk4
              generalize (w13.setCell ⟨d, 2, none⟩ (.slice na (n + 1) nq)) = w14 at *
              go_wp2_with fail
              go_ret
              obtain ⟨k2, k3, k4, k6, k8⟩ := HH.out
              rw [HGO.out, HS1.out, if_pos (by trivial)]
              refine ⟨rfl, ⟨⟨_, .slice na (n + 1) nq, ps ++ [⟨⟨mf, mt, mk, ns, bs⟩, .slice a1 nn c1, .slice vo j vc⟩], HK14.out, by simpa using k2, ?_, ?_, ?_, fun x y hx hy => ?_, ?_, ?_⟩, h9⟩, HO14.out⟩
              · rw [Array.getElem?_setIfInBounds_ne (by omega)]; exact k3
              · rw [Array.getElem?_setIfInBounds_ne (by omega)]; exact k4
              · rw [Array.getElem?_setIfInBounds_self_of_lt (by omega)]
              · rw [Array.getElem?_setIfInBounds_ne (by omega)]; exact k6 x y hx hy
              · show World.ownsRow _ base 49 5 _ (s.l ++ [_]).length _
                rw [List.length_append, HNL.out]
                exact rows_mono HR14.out (by have := HSZ.out; omega)
              · have hh := HH14.out
                refine ⟨?_, fun x h => ?_, fun x h => ?_⟩
                · rw [List.map_append, hh.ms]; rfl
                · rcases List.mem_append.1 h with h | h
                  · exact hh.own x h
                  · rw [List.mem_singleton.1 h]
                    exact HM14.out.mono HSZ.out.1
                · rcases List.mem_append.1 h with h | h
                  · exact hh.one x h
                  · rw [List.mem_singleton.1 h]; exact ⟨rfl, rfl⟩
end
end Go.Proofs.Ytmehgkbhpfcmpaa.G
