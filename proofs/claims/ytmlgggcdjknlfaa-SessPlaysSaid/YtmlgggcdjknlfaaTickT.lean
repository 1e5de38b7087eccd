/-
  Time goes by.
-/
import Derived.Test.YtmlgggcdjknlfaaTickD
import Derived.Deep.RegionHeld3
namespace Go.Proofs.Ytmlgggcdjknlfaa
open Go.RowKit

theorem cell_set_other {w : World} {p q : Addr} {v : Value} (hc : w.cell? p = some v) (u : Value) (hne : p.block ≠ q.block) : (w.setCell q u).cell? p = some v :=
  ((Only.refl [q.block] w).setCell (p := q) (by simp) u).cell hc (by simpa using hne)
def tickS (s : Ss) : Ss := { s with now := s.now + 1, l := keepers (s.now + 1) s.l }
set_option maxHeartbeats 2000000 in
theorem tick_any (base a : Nat) (g : Option Nat) (s : Ss) (w : World) (h : IsSess w base a g s) (hl : s.l.length ≤ 1000000) (hn0 : 0 ≤ s.now) (hn : s.now ≤ 2199023255552) :
    Calls Try.prog 12 #[.pointer (some ⟨a, 0, none⟩)] w fun e w' => ∃ v, e = .returned v ∧ OwnI w' w.heap.size 2 v (overIds (s.now + 1) s.l) ∧ IsSess w' base a g (tickS s) ∧ Only (a :: g.toList) w w' := by
  obtain ⟨⟨v, k1, k2, k3⟩, hge, hne⟩ := h
  obtain ⟨ao, cap, rfl, _, _⟩ := row_shape k2
  have haw := lt_of_heap k1
  have hA1 : (w.alloc (.cells #[.pointer (some ⟨a, 0, none⟩)] 24)).heap[a]? = _ := heap_old k1 _
  have hc1 : (w.alloc (.cells #[.pointer (some ⟨a, 0, none⟩)] 24)).cell? ⟨a, 1, none⟩ = some (.int .i64 s.now) := by rw [cell_heap hA1]; rfl
  have hfr := free_heap hA1 1
  have K1 := Lib.hid k1; clear k1
  have K2 := Lib.hid k2; clear k2
  have K3 := Lib.hid k3; clear k3
  have HA1 := Lib.hid hA1; clear hA1
  go_enter Try.func12, Try.ntmps12
  go_wp2_with fail
  generalize hW : ((w.setCell ⟨a, 1, none⟩ (.int .i64 (s.now + 1))).alloc (.cells #[.pointer (some ⟨a, 0, none⟩)] 24)).alloc (.cells #[.slice none 0 0] 22) = W0
  have hsz : (w.setCell ⟨a, 1, none⟩ (.int .i64 (s.now + 1))).heap.size = w.heap.size := by simp [World.setCell]
  have hsz1 : ((w.setCell ⟨a, 1, none⟩ (.int .i64 (s.now + 1))).alloc (.cells #[.pointer (some ⟨a, 0, none⟩)] 24)).heap.size = w.heap.size + 1 := by simp [hsz]
  have hsz2 : W0.heap.size = w.heap.size + 2 := by rw [← hW]; simp [hsz]
  have ho0 : Only [a] w W0 := by rw [← hW]; exact ((((Only.refl _ w).setCell (by simp) _).alloc _).alloc _)
  have ha0 : W0.heap[a]? = some (.cells #[.int .i64 s.room, .int .i64 (s.now + 1), .int .i64 s.next, .slice ao s.l.length cap] 52 (0, 0)) := by
    rw [← hW]; exact heap_old (heap_old (heap_set K1.out 1 _) _) _
  have hb0 : W0.heap[w.heap.size]? = some (.cells #[.pointer (some ⟨a, 0, none⟩)] 24 (0, 0)) := by
    rw [← hW]
    refine heap_old ?_ _
    have := heap_new (w.setCell ⟨a, 1, none⟩ (.int .i64 (s.now + 1))) (.cells #[.pointer (some ⟨a, 0, none⟩)] 24)
    rwa [hsz] at this
  have ht0 : W0.heap[w.heap.size + 1]? = some (.cells #[.slice none 0 0] 22 (0, 0)) := by
    have := heap_new ((w.setCell ⟨a, 1, none⟩ (.int .i64 (s.now + 1))).alloc (.cells #[.pointer (some ⟨a, 0, none⟩)] 24)) (.cells #[.slice none 0 0] 22)
    rwa [hsz1, hW] at this
  have hr0 : W0.ownsRow base 54 3 (.slice ao s.l.length cap) s.l.length (row3 s.l) := rows_only K2.out ho0 (fun b hb hm => hne (by simp at hm; rw [← K3.out, hb, hm]))
  have hgl : ∀ k, (Value.slice ao s.l.length cap).ownBlock = some k → k < w.heap.size + 1 ∧ k ≠ a ∧ k ≠ w.heap.size := fun k hk => by
    have := (World.ownsRow.lt K2.out k hk).2
    exact ⟨by omega, fun e => hne (by rw [← K3.out, hk, e]), by omega⟩
  have HD := Lib.hid (drop_over base _ s.l (s.now + 1) a w.heap.size (w.heap.size + 1) W0.drew hr0 hgl (by omega) (by omega) ((cell_heap hb0 0).trans rfl) ((cell_heap ha0 1).trans rfl) ⟨_, ht0, OwnI.nil _ _ _⟩ hl)
  have HS : Hid (W0.drew.cell? ⟨w.heap.size, 0, none⟩ = some (.pointer (some ⟨a, 0, none⟩)) ∧ W0.drew.cell? ⟨a, 3, none⟩ = some (.slice ao s.l.length cap)) := Lib.hid ⟨(cell_heap hb0 0).trans rfl, (cell_heap ha0 3).trans rfl⟩
  have HK1 : Hid (∀ w1, Near (Value.slice ao s.l.length cap).ownBlock.toList (w.heap.size + 1) W0.drew w1 → (w1.cell? ⟨w.heap.size, 0, none⟩ = some (.pointer (some ⟨a, 0, none⟩)) ∧ w1.cell? ⟨a, 3, none⟩ = some (.slice ao s.l.length cap)) ∧ w1.heap[a]? = some (.cells #[.int .i64 s.room, .int .i64 (s.now + 1), .int .i64 s.next, .slice ao s.l.length cap] 52 (0, 0))) := Lib.hid (fun w1 hn1 => by
    have h1 := (hn1.block a (by omega) (fun hm => (hgl a (by simpa using hm)).2.1 rfl)).trans ha0
    have h2 := (hn1.block w.heap.size (by omega) (fun hm => (hgl _ (by simpa using hm)).2.2 rfl)).trans hb0
    exact ⟨⟨(cell_heap h2 0).trans rfl, (cell_heap h1 3).trans rfl⟩, h1⟩)
  clear hW hsz hsz1 ha0 hb0 ht0 hr0
  clear hc1 hfr
  have hs3 := HS.out.2
  refine wp_region_held_drew (S := fun w' => w'.cell? ⟨w.heap.size, 0, none⟩ = some (.pointer (some ⟨a, 0, none⟩))) (by kernel_rfl) HS.out.1 (fun hHeld => ?_)
  refine wpAnyH_take (i := 0) (oi := { dst := some 11, op := Op.load 24 (Operand.tmp 1), type := 24, pos := _, after := #[], guard := none }) (v := ?_) rfl (by kernel_rfl) (by kernel_rfl) (by kernel_rfl) (fun _ _ _ h => h) (Or.inl ⟨by rfl, ?_⟩) (by exact hHeld) ?_
  rotate_left
  · (intro w hSw; (try dsimp only at hSw); go_simp <;> with_reducible rfl)
  try simp only [Act.put, List.setIfInBounds_toArray, List.set_cons_zero, List.set_cons_succ]
  refine wpAnyH_take (i := 1) (oi := { dst := some 12, op := Op.load 24 (Operand.tmp 1), type := 24, pos := _, after := #[], guard := none }) (v := ?_) rfl (by kernel_rfl) (by kernel_rfl) (by kernel_rfl) (fun _ _ _ h => h) (Or.inl ⟨by rfl, ?_⟩) (by exact hHeld) ?_
  rotate_left
  · (intro w hSw; (try dsimp only at hSw); go_simp <;> with_reducible rfl)
  try simp only [Act.put, List.setIfInBounds_toArray, List.set_cons_zero, List.set_cons_succ]
  refine wpAnyH_take (i := 2) (oi := { dst := some 13, op := Op.nilCheck (Operand.tmp 12), type := 0, pos := _, after := #[{ on := 1, ground := Ground.data }], guard := none }) (v := ?_) rfl (by kernel_rfl) (by kernel_rfl) (by kernel_rfl) (fun _ _ _ h => h) (Or.inl ⟨by rfl, ?_⟩) (by exact hHeld) ?_
  rotate_left
  · (intro w hSw; (try dsimp only at hSw); go_simp <;> with_reducible rfl)
  try simp only [Act.put, List.setIfInBounds_toArray, List.set_cons_zero, List.set_cons_succ]
  refine wpAnyH_take (i := 3) (oi := { dst := some 14, op := Op.fieldAddr 52 (Operand.tmp 13) 3, type := 0, pos := _, after := #[{ on := 2, ground := Ground.data }], guard := none }) (v := ?_) rfl (by kernel_rfl) (by kernel_rfl) (by kernel_rfl) (fun _ _ _ h => h) (Or.inl ⟨by rfl, ?_⟩) (by exact hHeld) ?_
  rotate_left
  · (intro w hSw; (try dsimp only at hSw); go_simp <;> with_reducible rfl)
  try simp only [Act.put, List.setIfInBounds_toArray, List.set_cons_zero, List.set_cons_succ]
  refine wpAnyH_take (i := 5) (oi := { dst := some 16, op := Op.makeFunc (Fn.func 29) #[] #[Operand.tmp 1, Operand.tmp 3], type := 56, pos := _, after := #[], guard := none }) (v := ?_) rfl (by kernel_rfl) (by kernel_rfl) (by kernel_rfl) (fun _ _ _ h => h) (Or.inl ⟨by rfl, ?_⟩) (by exact hHeld) ?_
  rotate_left
  · (intro w hSw; (try dsimp only at hSw); go_simp <;> with_reducible rfl)
  try simp only [Act.put, List.setIfInBounds_toArray, List.set_cons_zero, List.set_cons_succ]
  refine wpAnyH_ready (rs := [4]) (by kernel_rfl) (by simp) ?_
  refine AllReadyH.cons (o := { dst := some 15, op := Op.load 50 (Operand.tmp 14), type := 50, pos := _, after := #[{ on := 3, ground := Ground.data }], guard := none }) rfl (fun K hK => ?_) AllReadyH.nil
  go_simp
  refine hK.out _ _ HS.out.1 (fun hHeld => ?_)
  clear hK K
  try simp only [Act.put, List.setIfInBounds_toArray, List.set_cons_zero, List.set_cons_succ]
  refine wpAnyH_ready (rs := [6]) (by kernel_rfl) (by simp) ?_
  refine AllReadyH.cons (o := { dst := some 17, op := Op.call { callee := Callee.value (Operand.func 28), args := #[Operand.tmp 15, Operand.tmp 16], argTypes := #[50, 56] }, type := 50, pos := _, after := #[{ on := 4, ground := Ground.data }, { on := 5, ground := Ground.data }], guard := none }) rfl (fun K hK => ?_) AllReadyH.nil
  go_simp
  go_wp2_with fail
  refine HD.out.mono ?_
  rintro e w1 ⟨v2, rfl, hown, hob, htold, hnr⟩
  obtain ⟨ao2, cap2, rfl, _, _⟩ := row_shape hown
  have HS1 := Lib.hid (HK1.out _ hnr)
  have HOWN := Lib.hid hown; clear hown
  have HTOLD := Lib.hid htold; clear htold
  have HNR := Lib.hid hnr; clear hnr
  have hc3 := HS1.out.1.2
  have hf3 := free_heap HS1.out.2 3
  refine hK.out _ _ HS1.out.1.1 (fun hHeld => ?_)
  clear hK K
  try simp only [Act.put, List.setIfInBounds_toArray, List.set_cons_zero, List.set_cons_succ]
  refine wpAnyH_take (i := 7) (oi := { dst := some 18, op := Op.nilCheck (Operand.tmp 11), type := 0, pos := _, after := #[{ on := 0, ground := Ground.data }, { on := 0, ground := Ground.phase }, { on := 1, ground := Ground.phase }, { on := 2, ground := Ground.phase }, { on := 3, ground := Ground.phase }, { on := 4, ground := Ground.phase }, { on := 5, ground := Ground.phase }, { on := 6, ground := Ground.phase }], guard := none }) (v := ?_) rfl (by kernel_rfl) (by kernel_rfl) (by kernel_rfl) (fun _ _ _ h => h) (Or.inl ⟨by rfl, ?_⟩) (by exact hHeld) ?_
  rotate_left
  · (intro w hSw; (try dsimp only at hSw); go_simp <;> with_reducible rfl)
  try simp only [Act.put, List.setIfInBounds_toArray, List.set_cons_zero, List.set_cons_succ]
  refine wpAnyH_take (i := 8) (oi := { dst := some 19, op := Op.fieldAddr 52 (Operand.tmp 18) 3, type := 0, pos := _, after := #[{ on := 7, ground := Ground.data }, { on := 0, ground := Ground.phase }, { on := 1, ground := Ground.phase }, { on := 2, ground := Ground.phase }, { on := 3, ground := Ground.phase }, { on := 4, ground := Ground.phase }, { on := 5, ground := Ground.phase }, { on := 6, ground := Ground.phase }], guard := none }) (v := ?_) rfl (by kernel_rfl) (by kernel_rfl) (by kernel_rfl) (fun _ _ _ h => h) (Or.inl ⟨by rfl, ?_⟩) (by exact hHeld) ?_
  rotate_left
  · (intro w hSw; (try dsimp only at hSw); go_simp <;> with_reducible rfl)
  try simp only [Act.put, List.setIfInBounds_toArray, List.set_cons_zero, List.set_cons_succ]
  refine wpAnyH_ready (rs := [9]) (by kernel_rfl) (by simp) ?_
  refine AllReadyH.cons (o := { dst := none, op := Op.store 50 (Operand.tmp 19) (Operand.tmp 17), type := 0, pos := _, after := #[{ on := 8, ground := Ground.data }, { on := 6, ground := Ground.data }, { on := 6, ground := Ground.chain }, { on := 0, ground := Ground.phase }, { on := 1, ground := Ground.phase }, { on := 2, ground := Ground.phase }, { on := 3, ground := Ground.phase }, { on := 4, ground := Ground.phase }, { on := 5, ground := Ground.phase }, { on := 6, ground := Ground.phase }], guard := none }) rfl (fun K hK => ?_) AllReadyH.nil
  go_simp
  refine hK.out _ _ (cell_set_other HS1.out.1.1 _ (by show w.heap.size ≠ a; omega)) (fun hHeld => ?_)
  clear hK K
  try simp only [Act.put, List.setIfInBounds_toArray, List.set_cons_zero, List.set_cons_succ]
  refine wpAnyH_done (by kernel_rfl) ?_ _
  obtain ⟨vt, t1, t2⟩ := HTOLD.out
  obtain ⟨aot, ct, rfl, _⟩ := OwnI.isI t2
  have hS : Only [a] w1 (w1.setCell ⟨a, 3, none⟩ (.slice ao2 (keepers (s.now + 1) s.l).length cap2)) := (Only.refl _ _).setCell (by simp) _
  have ht1 := hS.keeps t1 (by simp; omega)
  have htc := (cell_heap ht1 0).trans rfl
  have hob2 : (Value.slice ao2 (keepers (s.now + 1) s.l).length cap2).ownBlock = g := hob.trans K3.out
  have HF : Hid (OwnI (w1.setCell ⟨a, 3, none⟩ (.slice ao2 (keepers (s.now + 1) s.l).length cap2)) w.heap.size 2 (.slice aot (overIds (s.now + 1) s.l).length ct) (overIds (s.now + 1) s.l) ∧ IsSess (w1.setCell ⟨a, 3, none⟩ (.slice ao2 (keepers (s.now + 1) s.l).length cap2)) base a g (tickS s) ∧ Only (a :: g.toList) w (w1.setCell ⟨a, 3, none⟩ (.slice ao2 (keepers (s.now + 1) s.l).length cap2))) := Lib.hid (by
    refine ⟨OwnI.mono (rows_only t2 hS (fun b hb hm => by have := (OwnI.lt t2 b hb).1; simp at hm; omega)) (by omega), ⟨⟨_, heap_set HS1.out.2 3 _, rows_only HOWN.out hS (fun b hb hm => hne (by rw [hob2] at hb; simp at hm; rw [hb, hm])), hob2⟩, hge, hne⟩, ?_⟩
    have hnr := HNR.out
    rw [K3.out] at hnr
    have h1 : Only (a :: g.toList) w w1 := by
      refine ⟨hnr.os.trans ho0.os, hnr.tape.trans ho0.tape, hnr.output.trans ho0.output, Nat.le_trans ho0.size hnr.size, fun k hk hs => ?_⟩
      simp only [List.mem_cons, not_or] at hs
      exact (hnr.block k (by omega) hs.2).trans (ho0.block k hk (by simpa using hs.1))
    exact h1.setCell (by simp) _)
  clear ht1 hS hob hob2 t1 t2 hc3 hf3
  go_wp2_with fail
  go_ret
  exact ⟨_, rfl, HF.out⟩
end Go.Proofs.Ytmlgggcdjknlfaa
