/-
  Sessions are opened and touched.
-/
import Derived.Test.YtmlgggcdjknlfaaSes
import Derived.Deep.RegionHeld3
import Derived.Deep.RegionLaw
namespace Go.Proofs.Ytmlgggcdjknlfaa
open Go.RowKit

theorem info54 : (Try.prog.info? 54).map (fun i => (i.zero, i.size, i.bytes)) = some (some (.agg #[.int .i64 0, .int .i64 0, .int .i64 0]), 3, 24) := by kernel_rfl

/-- APPEND of one session -/
theorem wpList_append_se {w : World} {ops : Array Oper} {rest : List Oper} {o : Oper} {a : Act} {Q : Exit → Act → World → Prop} (hgd : o.guard = none) (s x : Operand)
    (ho : o.op = .call { callee := .builtin .append, args := #[s, x], argTypes := #[50, 50] })
    (base : Nat) (v : Value) (l : List Se) (hs : a.eval s = v) (hown : w.ownsRow base 54 3 v l.length (row3 l))
    (H : Nat) (u : Se) (hx : a.eval x = .slice (some ⟨H, 0, none⟩) 1 1) (hcell : ∀ j y, (cells3 u)[j]? = some y → w.cell? ⟨H, 0 + j, none⟩ = some y)
    (hbytes : l.length + 1 ≤ 4398046511104) (hbase : base ≤ w.heap.size)
    (h : ∀ g cap w', w'.ownsRow base 54 3 (.slice (some ⟨g, 0, none⟩) (l ++ [u]).length cap) (l ++ [u]).length (row3 (l ++ [u])) → w.grownBy w' v.ownBlock → (v.ownBlock = some g ∨ g = w.heap.size) → wpList Try.prog ops Q rest (a.put o.dst (.slice (some ⟨g, 0, none⟩) (l.length + 1) cap)) w') : wpList Try.prog ops Q (o :: rest) a w := by
  obtain ⟨i0, hi0, hz0, hz1, hz2⟩ := info_parts info54
  refine wpList_append_lies w hgd s x 50 ho base 54 i0 _ 3 24 Try.underlying50 hi0 hz0 hz1 hz2 rfl (by decide) v l.length (row3 l) hs hown ⟨H, 0, none⟩ 1 1 (cells3 u) hx rfl ?_ ?_ (by decide) (by unfold maxLen; omega) (by omega) hbase w.heap.size rfl ?_
  · intro j y hj
    rw [Addr.add_lit]
    exact hcell j y hj
  · intro y hy
    simp [cells3] at hy
    rcases hy with rfl | rfl | rfl <;> rfl
  · intro g cap w' g1 g2 g3 _
    refine h g cap w' ?_ g2 g3
    rw [row3_append, List.length_append, show row3 [u] = cells3 u by simp [row3]]
    exact g1

/-- the same, at a step of a region that draws its order -/
theorem step_append_se {w : World} {ops : Array Oper} {o : Oper} {a : Act} {K : Act → World → Prop} {Q : Exit → Act → World → Prop} {E : Prop} (hgd : o.guard = none) (s x : Operand)
    (ho : o.op = .call { callee := .builtin .append, args := #[s, x], argTypes := #[50, 50] })
    (base : Nat) (v : Value) (l : List Se) (hs : a.eval s = v) (hown : w.ownsRow base 54 3 v l.length (row3 l))
    (H : Nat) (u : Se) (hx : a.eval x = .slice (some ⟨H, 0, none⟩) 1 1) (hcell : ∀ j y, (cells3 u)[j]? = some y → w.cell? ⟨H, 0 + j, none⟩ = some y)
    (hbytes : l.length + 1 ≤ 4398046511104) (hbase : base ≤ w.heap.size)
    (h : ∀ g cap w', w'.ownsRow base 54 3 (.slice (some ⟨g, 0, none⟩) (l ++ [u]).length cap) (l ++ [u]).length (row3 (l ++ [u])) → w.grownBy w' v.ownBlock → (v.ownBlock = some g ∨ g = w.heap.size) → g < w'.heap.size → K (a.put o.dst (.slice (some ⟨g, 0, none⟩) (l.length + 1) cap)) w') :
    if Region.wanted o (yielded ops a.tmps) = true then Oper.wp Try.prog o a w K Q else E := by
  obtain ⟨i0, hi0, hz0, hz1, hz2⟩ := info_parts info54
  refine step_append_lies w hgd s x 50 ho base 54 i0 _ 3 24 Try.underlying50 hi0 hz0 hz1 hz2 rfl (by decide) v l.length (row3 l) hs hown ⟨H, 0, none⟩ 1 1 (cells3 u) hx rfl ?_ ?_ (by decide) (by unfold maxLen; omega) (by omega) hbase w.heap.size rfl ?_
  · intro j y hj
    rw [Addr.add_lit]
    exact hcell j y hj
  · intro y hy
    simp [cells3] at hy
    rcases hy with rfl | rfl | rfl <;> rfl
  · intro g cap w' g1 g2 g3 g4
    refine h g cap w' ?_ g2 g3 g4
    rw [row3_append, List.length_append, show row3 [u] = cells3 u by simp [row3]]
    exact g1
/-- a session is opened -/
def openS (s : Ss) (span : Int) : Ss := { s with next := s.next + 1, l := s.l ++ [⟨s.next, span, s.now + span⟩] }

set_option maxHeartbeats 1000000 in
theorem open_arg (a : Nat) (span : Int) (w : World) (h : span < 1 ∨ 10000 < span) (h3 : -9223372036854775808 ≤ span) (h4 : span ≤ 9223372036854775807) :
    Calls Try.prog 11 #[.pointer (some ⟨a, 0, none⟩), .int .i64 span] w fun e w' => e = .returned (.tuple #[.int .i64 0, .int .i64 1]) ∧ w = w' := by
  by_cases h2 : span < 1
  · clear h
    go_enter Try.func11, Try.ntmps11
    go_wp2_with fail
    go_ret2
    exact ⟨rfl, rfl⟩
  · have h5 : 10000 < span := by omega
    clear h
    go_enter Try.func11, Try.ntmps11
    go_wp2_with fail
    go_ret2
    exact ⟨rfl, rfl⟩
set_option maxHeartbeats 1000000 in
theorem open_full (base a : Nat) (g : Option Nat) (s : Ss) (span : Int) (w : World) (h : IsSess w base a g s) (h1 : 1 ≤ span) (h2 : span ≤ 10000) (hf : s.room ≤ (s.l.length : Int)) :
    Calls Try.prog 11 #[.pointer (some ⟨a, 0, none⟩), .int .i64 span] w fun e w' => e = .returned (.tuple #[.int .i64 0, .int .i64 9]) ∧ ∃ d, w' = w.drewN d := by
  obtain ⟨⟨v, k1, k2, k3⟩, _, _⟩ := h
  obtain ⟨ao, cap, rfl, _, _⟩ := row_shape k2
  have hc0 : w.cell? ⟨a, 0, none⟩ = some (.int .i64 s.room) := by rw [cell_heap k1]; rfl
  have hc3 : w.cell? ⟨a, 3, none⟩ = some (.slice ao s.l.length cap) := by rw [cell_heap k1]; rfl
  clear k1 k2 k3
  have d0 : decide (s.room ≤ (s.l.length : Int)) = true := decide_eq_true hf
  generalize s.l.length = n at *
  generalize s.room = r at *
  go_enter Try.func11, Try.ntmps11
  go_wp2_with fail
  go_quiet (fail)
  go_wp2_with fail
  go_ret2
  exact ⟨rfl, _, rfl⟩

theorem only_heap {S : List Nat} {w w0 w' : World} (h : Only S w w0) (hh : w'.heap = w0.heap) (ho : w'.os = w0.os) (ht : w'.tape = w0.tape) (hp : w'.output = w0.output) : Only S w w' :=
  ⟨ho.trans h.os, ht.trans h.tape, hp.trans h.output, by rw [hh]; exact h.size, fun k hk hs => by rw [hh]; exact h.block k hk hs⟩
/-- what stands when a session has been opened -/
theorem open_fin {w W1 w1 : World} {base a : Nat} {g : Option Nat} {s : Ss} {span : Int} {v : Value} (k1 : w.heap[a]? = some (.cells #[.int .i64 s.room, .int .i64 s.now, .int .i64 s.next, v] 52 (0, 0))) (k3 : v.ownBlock = g) (hge : base ≤ a) (hne : g ≠ some a)
    (z : Int) (o : Obj) (hW : W1.heap = ((w.setCell ⟨a, 2, none⟩ (.int .i64 z)).alloc o).heap) (ho : W1.os = w.os) (ht : W1.tape = w.tape) (hp : W1.output = w.output) (hz : z = s.next + 1)
    (hgr : W1.grownBy w1 v.ownBlock) (g2 cap2 : Nat) (hown : w1.ownsRow base 54 3 (.slice (some ⟨g2, 0, none⟩) (s.l ++ [(⟨s.next, span, s.now + span⟩ : Se)]).length cap2) (s.l ++ [(⟨s.next, span, s.now + span⟩ : Se)]).length (row3 (s.l ++ [(⟨s.next, span, s.now + span⟩ : Se)])))
    (hat : v.ownBlock = some g2 ∨ g2 = W1.heap.size) (hA1 : w1.heap[a]? = some (.cells #[.int .i64 s.room, .int .i64 s.now, .int .i64 (s.next + 1), v] 52 (0, 0))) :
    IsSess (w1.setCell ⟨a, 3, none⟩ (.slice (some ⟨g2, 0, none⟩) (s.l.length + 1) cap2)) base a (some g2) (openS s span) ∧ Only (a :: g.toList) w (w1.setCell ⟨a, 3, none⟩ (.slice (some ⟨g2, 0, none⟩) (s.l.length + 1) cap2)) ∧ (some g2 = g ∨ ∃ k, some g2 = some k ∧ w.heap.size ≤ k) := by
  have haw := lt_of_heap k1
  have hsz : W1.heap.size = w.heap.size + 1 := by rw [hW]; simp [World.setCell]
  have hga : g2 ≠ a := by
    rcases hat with h | h
    · intro e; subst e; exact hne (k3 ▸ h)
    · omega
  have h1 : Only (a :: g.toList) w W1 := only_heap (((Only.refl _ w).setCell (p := ⟨a, 2, none⟩) (by simp) _).alloc o) hW ho ht hp
  have h2 : Only (a :: g.toList) w w1 := h1.grown hgr (fun k hk => by rw [← k3, hk]; simp)
  refine ⟨⟨⟨_, heap_set hA1 3 _, ?_, rfl⟩, hge, by simpa using hga⟩, h2.setCell (by simp) _, ?_⟩
  · have := rows_only hown ((Only.refl [a] w1).setCell (p := ⟨a, 3, none⟩) (by simp) (.slice (some ⟨g2, 0, none⟩) (s.l.length + 1) cap2)) (fun b hb => by simp only [Value.ownBlock, Option.some.injEq] at hb; subst hb; simpa using hga)
    simpa [openS] using this
  · rcases hat with h | h
    · exact .inl (h.symm.trans k3)
    · exact .inr ⟨g2, rfl, by omega⟩

set_option maxHeartbeats 1000000 in
theorem open_ok (base a : Nat) (g : Option Nat) (s : Ss) (span : Int) (w : World) (h : IsSess w base a g s) (h1 : 1 ≤ span) (h2 : span ≤ 10000) (hf : (s.l.length : Int) < s.room) (hr : s.room ≤ 64) (hn0 : 0 ≤ s.now) (hn : s.now ≤ 2199023255552) (hx0 : 0 ≤ s.next) (hx : s.next ≤ 2199023255552) :
    Calls Try.prog 11 #[.pointer (some ⟨a, 0, none⟩), .int .i64 span] w fun e w' => ∃ g', e = .returned (.tuple #[.int .i64 s.next, .int .i64 0]) ∧ IsSess w' base a g' (openS s span) ∧ Only (a :: g.toList) w w' ∧ (g' = g ∨ ∃ k, g' = some k ∧ w.heap.size ≤ k) := by
  obtain ⟨⟨v, k1, k2, k3⟩, hge, hne⟩ := h
  obtain ⟨ao, cap, rfl, _, _⟩ := row_shape k2
  have hc0 : w.cell? ⟨a, 0, none⟩ = some (.int .i64 s.room) := by rw [cell_heap k1]; rfl
  have hc1 : w.cell? ⟨a, 1, none⟩ = some (.int .i64 s.now) := by rw [cell_heap k1]; rfl
  have hc2 : w.cell? ⟨a, 2, none⟩ = some (.int .i64 s.next) := by rw [cell_heap k1]; rfl
  have hc3 : w.cell? ⟨a, 3, none⟩ = some (.slice ao s.l.length cap) := by rw [cell_heap k1]; rfl
  have hfr := free_heap k1 2
  have hfr3 := free_heap k1 3
  have K1 := Lib.hid k1; clear k1
  have K2 := Lib.hid k2; clear k2
  have K3 := Lib.hid k3; clear k3
  have d0 : decide (s.room ≤ (s.l.length : Int)) = false := decide_eq_false (by omega)
  go_enter Try.func11, Try.ntmps11
  go_wp2_with fail
  go_quiet (fail)
  go_wp2_with fail
  have haw := lt_of_heap K1.out
  have HW : Hid (∀ Wx : World, Wx.heap = ((w.setCell ⟨a, 2, none⟩ (.int .i64 (s.next + 1))).alloc (.cells #[.int .i64 s.next, .int .i64 span, .int .i64 (s.now + span)] 54)).heap →
      Wx.ownsRow base 54 3 (.slice ao s.l.length cap) s.l.length (row3 s.l) ∧ Wx.heap[a]? = some (.cells #[.int .i64 s.room, .int .i64 s.now, .int .i64 (s.next + 1), .slice ao s.l.length cap] 52 (0, 0)) ∧
      (∀ j y, (cells3 ⟨s.next, span, s.now + span⟩)[j]? = some y → Wx.cell? ⟨w.heap.size, 0 + j, none⟩ = some y) ∧ Wx.heap.size = w.heap.size + 1) := Lib.hid (by
    intro Wx hWx
    have hset : Only [a] w (w.setCell ⟨a, 2, none⟩ (.int .i64 (s.next + 1))) := (Only.refl _ _).setCell (by simp) _
    have hsz : (w.setCell ⟨a, 2, none⟩ (.int .i64 (s.next + 1))).heap.size = w.heap.size := by simp [World.setCell]
    refine ⟨rows_heap (rows_only (rows_only K2.out hset (fun b hb => by simp; intro e; subst e; exact hne (K3.out ▸ hb))) ((Only.refl [] _).alloc _) (by simp)) hWx, ?_, ?_, ?_⟩
    · rw [hWx]
      exact heap_old (heap_set K1.out 2 _) _
    · intro j y hj
      have := World.cell?_of_block (w := (w.setCell ⟨a, 2, none⟩ (.int .i64 (s.next + 1))).alloc (.cells #[.int .i64 s.next, .int .i64 span, .int .i64 (s.now + span)] 54)) (w' := Wx) (a := ⟨w.heap.size, 0 + j, none⟩) (by rw [hWx])
      rw [this, ← hsz, World.cell?_alloc_mark, Nat.zero_add]
      simpa [cells3] using hj
    · rw [hWx, ← hsz]; simp)
  have hlen : s.l.length + 1 ≤ 4398046511104 := by omega
  have w4 : IntKind.i64.wrap (s.now + span) = s.now + span := IntWalk.i64_in _ (by omega)
  go_region_law (refine step_append_se (by rfl) (.tmp 40) (.tmp 50) (by rfl) base _ s.l (by rfl) (by exact (HW.out _ rfl).1) w.heap.size ⟨s.next, span, s.now + span⟩ (by rfl) (by exact (HW.out _ rfl).2.2.1) hlen (by exact Nat.le_trans hge (Nat.le_of_lt (lt_of_heap (HW.out _ rfl).2.1))) ?_; intro g2 cap2 w1 hown1 hgr1 hat1 hlt1; have hA1 : w1.heap[a]? = some (.cells #[.int .i64 s.room, .int .i64 s.now, .int .i64 (s.next + 1), .slice ao s.l.length cap] 52 (0, 0)) := (hgr1.block a (lt_of_heap (HW.out _ rfl).2.1) (fun e => hne (K3.out ▸ e.symm))).trans (HW.out _ rfl).2.1; have hc13 : w1.cell? ⟨a, 3, none⟩ = some (.slice ao s.l.length cap) := (cell_heap hA1 3).trans rfl; have hf13 := free_heap hA1 3)
  all_goals
    have hfin := open_fin K1.out K3.out hge hne (s.next + 1) (.cells #[.int .i64 s.next, .int .i64 span, .int .i64 (s.now + span)] 54) (by rfl) (by rfl) (by rfl) (by rfl) (by rfl) hgr1 g2 cap2 hown1 hat1 hA1
    have HF := Lib.hid hfin
    clear hfin hown1 hgr1 hat1 hlt1 hA1 hc13 hf13 HW
    go_wp2_with fail
    go_ret2
    exact ⟨_, rfl, HF.out⟩
end Go.Proofs.Ytmlgggcdjknlfaa
