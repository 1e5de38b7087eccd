/-
  The document's sessions are opened, and closed.
-/
import Derived.Test.YtmlgggcdjknlfaaRefK
import Derived.Deep.RegionLaw
namespace Go.Proofs.Ytmlgggcdjknlfaa
open Go.RowKit

/-- a slice of sessions that reads as l -/
structure Src (w : World) (ao : Option Addr) (m : Nat) (l : List Se) : Prop where
  len : l.length = m
  at_ : (ao = none ∧ m = 0) ∨ ∃ b off, ao = some ⟨b, off, none⟩ ∧ ∀ j u, (row3 l)[j]? = some u → w.cell? ⟨b, off + j, none⟩ = some u
theorem Src.below {w w' : World} {ao : Option Addr} {m : Nat} {l : List Se} (h : Src w ao m l) (hb : Below w.heap.size w w') : Src w' ao m l := by
  refine ⟨h.len, ?_⟩
  rcases h.at_ with h0 | ⟨b, off, h1, h2⟩
  · exact .inl h0
  · exact .inr ⟨b, off, h1, fun j u hj => cell_later hb (h2 j u hj)⟩
theorem row3_ones (l : List Se) : ∀ u ∈ row3 l, u.oneCell' = true := by
  intro u hu
  simp only [row3, List.mem_flatMap] at hu
  obtain ⟨s, _, hu⟩ := hu
  simp only [cells3, List.mem_cons, List.not_mem_nil, or_false] at hu
  rcases hu with rfl | rfl | rfl <;> rfl
/-- APPEND of a slice of sessions to a row of the call's own, at a step of a region that draws its order -/
theorem step_append_rows {w : World} {ops : Array Oper} {o : Oper} {a : Act} {K : Act → World → Prop} {Q : Exit → Act → World → Prop} {E : Prop} (hgd : o.guard = none) (s x : Operand)
    (ho : o.op = .call { callee := .builtin .append, args := #[s, x], argTypes := #[45, 45] })
    (base : Nat) (v : Value) (l1 : List Se) (n : Nat) (hn : l1.length = n) (hs : a.eval s = v) (hown : w.ownsRow base 64 3 v n (row3 l1))
    (ao : Option Addr) (m c : Nat) (l2 : List Se) (hx : a.eval x = .slice ao m c) (hc : ao = none → c = 0) (hsrc : Src w ao m l2) (hbytes : n + m ≤ 2000000) (hbase : base ≤ w.heap.size)
    (h : ∀ ao' cap' w', w'.ownsRow base 64 3 (.slice ao' (n + m) cap') (n + m) (row3 (l1 ++ l2)) → Below base w w' → w.grownBy w' v.ownBlock → K (a.put o.dst (.slice ao' (n + m) cap')) w') :
    if Region.wanted o (yielded ops a.tmps) = true then Oper.wp Try.prog o a w K Q else E := by
  have hw : Region.wanted o (yielded ops a.tmps) = true := by simp [Region.wanted, hgd]
  rw [if_pos hw]
  obtain ⟨i0, hi0, hz0, hz1, hz2⟩ := info_parts info64
  have hbl : ∀ w', w.grownBy w' v.ownBlock → Below base w w' := fun w' hg => (Below.refl base w).grown hg hbase (fun k hk => (rows_block hown hk).1)
  rcases hsrc.at_ with ⟨rfl, rfl⟩ | ⟨b, off, rfl, hcell⟩
  · obtain rfl : c = 0 := hc rfl
    obtain rfl : l2 = [] := List.length_eq_zero_iff.1 hsrc.len
    have hrun := run_append_owned_none (P := Try.prog) (w := w) base 45 o.type 64 i0 3 Try.underlying45 hi0 v n (row3 l1) hown
    obtain ⟨a1, c1, rfl, _, _⟩ := rrow_shape hown
    unfold Oper.wp
    simp [execOp, ho, resolve, invoke, builtin, hs, hx, hrun, Result.andThen]
    exact h a1 c1 w (by simpa using hown) (Below.refl _ _) (World.grownBy.refl _ _)
  · obtain ⟨v', w', hr, h2, h3, _, _⟩ := run_append_own_at (P := Try.prog) w base 45 o.type 64 i0 _ 3 24 Try.underlying45 hi0 hz0 hz1 hz2 rfl (by decide) v n (row3 l1) hown ⟨b, off, none⟩ m c (row3 l2) (by rw [row3_len, hsrc.len]) (fun j u hj => by rw [Addr.add_lit]; exact hcell j u hj) (row3_ones l2) (by unfold maxLen; omega) (by omega) hbase
    rw [← row3_append] at h2
    obtain ⟨a1, c1, rfl, _, _⟩ := rrow_shape h2
    unfold Oper.wp
    simp [execOp, ho, resolve, invoke, builtin, hs, hx, hr, Result.andThen]
    exact h a1 c1 w' h2 (hbl w' h3) h3
theorem own_made (W : World) (H base : Nat) (hH : W.heap.size = H) (hb : base ≤ H) : (W.alloc (.cells #[] 64)).ownsRow base 64 3 (.slice (some ⟨H, 0, none⟩) 0 0) 0 (row3 []) := by
  subst hH
  exact World.ownsRow_made W #[] 0 hb (Nat.zero_le _) (by simp)
theorem IsRef.src {w : World} {base a : Nat} {g : Option Nat} {s : Ss} (h : IsRef w base a g s) : ∃ ao cap, w.cell? ⟨a, 3, none⟩ = some (.slice ao s.l.length cap) ∧ s.l.length ≤ cap ∧ (ao = none → cap = 0) ∧ Src w ao s.l.length s.l ∧
    (0 < s.l.length → ∃ b, ao = some ⟨b, 0, none⟩ ∧ ∀ j u, (row3 s.l)[j]? = some u → w.cell? ⟨b, j, none⟩ = some u) := by
  obtain ⟨⟨v, h1, h2, h3⟩, _, _⟩ := h
  have hc : w.cell? ⟨a, 3, none⟩ = some v := by rw [cell_heap h1]; rfl
  have hcell : ∀ b n cap, w.ownsRow base 64 3 (.slice (some ⟨b, 0, none⟩) n cap) n (row3 s.l) → ∀ j u, (row3 s.l)[j]? = some u → w.cell? ⟨b, j, none⟩ = some u := by
    intro b n cap h j u hj
    rw [World.ownsRow.cellAt h j (by have := (List.getElem?_eq_some_iff.1 hj).1; have := h.1; omega)]
    exact hj
  rcases h2.2 with ⟨rfl, h0⟩ | ⟨b, cap, cur, rfl, _, _, hn, _⟩
  · exact ⟨none, 0, by rw [hc, h0], by omega, fun _ => rfl, ⟨rfl, .inl ⟨rfl, h0⟩⟩, fun h => by omega⟩
  · refine ⟨_, cap, hc, hn, (fun h => by cases h), ⟨rfl, .inr ⟨b, 0, rfl, fun j u hj => by rw [Nat.zero_add]; exact hcell b _ cap h2 j u hj⟩⟩, fun _ => ⟨b, rfl, hcell b _ cap h2⟩⟩

set_option maxHeartbeats 1000000 in
theorem ropen_arg (a : Nat) (span : Int) (w : World) (h : span < 1 ∨ 10000 < span) (h3 : -9223372036854775808 ≤ span) (h4 : span ≤ 9223372036854775807) :
    Calls Try.prog 20 #[.pointer (some ⟨a, 0, none⟩), .int .i64 span] w fun e w' => e = .returned (.tuple #[.int .i64 0, .int .i64 1]) ∧ w = w' := by
  by_cases h2 : span < 1
  · clear h
    go_enter Try.func20, Try.ntmps20
    go_wp2_with fail
    go_ret2
    exact ⟨rfl, rfl⟩
  · have h5 : 10000 < span := by omega
    clear h
    go_enter Try.func20, Try.ntmps20
    go_wp2_with fail
    go_ret2
    exact ⟨rfl, rfl⟩
set_option maxHeartbeats 1000000 in
theorem ropen_full (base a : Nat) (g : Option Nat) (s : Ss) (span : Int) (w : World) (h : IsRef w base a g s) (h1 : 1 ≤ span) (h2 : span ≤ 10000) (hf : s.room ≤ (s.l.length : Int)) :
    Calls Try.prog 20 #[.pointer (some ⟨a, 0, none⟩), .int .i64 span] w fun e w' => e = .returned (.tuple #[.int .i64 0, .int .i64 9]) ∧ ∃ d, w' = w.drewN d := by
  obtain ⟨⟨v, k1, k2, k3⟩, _, _⟩ := h
  obtain ⟨ao, cap, rfl, _, _⟩ := rrow_shape k2
  have hc0 : w.cell? ⟨a, 0, none⟩ = some (.int .i64 s.room) := by rw [cell_heap k1]; rfl
  have hc3 : w.cell? ⟨a, 3, none⟩ = some (.slice ao s.l.length cap) := by rw [cell_heap k1]; rfl
  clear k1 k2 k3
  have d0 : decide (s.room ≤ (s.l.length : Int)) = true := decide_eq_true hf
  generalize s.l.length = n at *
  generalize s.room = r at *
  go_enter Try.func20, Try.ntmps20
  go_wp2_with fail
  go_quiet (fail)
  go_wp2_with fail
  go_ret2
  exact ⟨rfl, _, rfl⟩


theorem row3_single (u : Se) : row3 [u] = cells3 u := by simp [row3]
theorem kept_cells {X w7 : World} {E hS : Nat} {u : Se} (hg : X.grownBy w7 (some E)) (h : X.heap[hS]? = some (.cells #[.int .i64 u.id, .int .i64 u.span, .int .i64 u.till] 64 (0, 0))) (hne : hS ≠ E) : ∀ j y, (row3 [u])[j]? = some y → w7.cell? ⟨hS, 0 + j, none⟩ = some y := by
  intro j y hj
  have h7 : w7.heap[hS]? = some (.cells #[.int .i64 u.id, .int .i64 u.span, .int .i64 u.till] 64 (0, 0)) := by
    rw [hg.block hS (lt_of_heap h) (by simpa using hne)]; exact h
  rw [row3_single] at hj
  rw [Nat.zero_add, cell_heap h7]
  simpa [cells3] using hj
/-- the new row, and the new session, laid in either order -/
theorem two_new (W : World) (n : Nat) (x y z : Int) (ao : Option Addr) (l : List Se) (hsrc : Src W ao n l) :
    Hid (∀ X : World, X.heap = (W.alloc (.cells #[] 64)).heap → X.os = W.os → X.tape = W.tape → X.output = W.output → X.ownsRow W.heap.size 64 3 (.slice (some ⟨W.heap.size, 0, none⟩) 0 0) 0 (row3 []) ∧ Src X ao n l ∧ Below W.heap.size W X ∧ True) ∧
    Hid (∀ X : World, X.heap = ((W.alloc (.cells #[] 64)).alloc (.cells #[.int .i64 x, .int .i64 y, .int .i64 z] 64)).heap → X.os = W.os → X.tape = W.tape → X.output = W.output → X.ownsRow W.heap.size 64 3 (.slice (some ⟨W.heap.size, 0, none⟩) 0 0) 0 (row3 []) ∧ Src X ao n l ∧ Below W.heap.size W X ∧
      ∀ w7, X.grownBy w7 (some W.heap.size) → ∀ j u, (row3 [⟨x, y, z⟩])[j]? = some u → w7.cell? ⟨W.heap.size + 1, 0 + j, none⟩ = some u) ∧
    Hid (∀ X : World, X.heap = ((W.alloc (.cells #[.int .i64 x, .int .i64 y, .int .i64 z] 64)).alloc (.cells #[] 64)).heap → X.os = W.os → X.tape = W.tape → X.output = W.output → X.ownsRow W.heap.size 64 3 (.slice (some ⟨W.heap.size + 1, 0, none⟩) 0 0) 0 (row3 []) ∧ Src X ao n l ∧ Below W.heap.size W X ∧
      ∀ w7, X.grownBy w7 (some (W.heap.size + 1)) → ∀ j u, (row3 [⟨x, y, z⟩])[j]? = some u → w7.cell? ⟨W.heap.size, 0 + j, none⟩ = some u) := by
  have hbel : ∀ (X Y : World), Below W.heap.size W Y → X.heap = Y.heap → X.os = W.os → X.tape = W.tape → X.output = W.output → Below W.heap.size W X := fun X Y hY hh ho ht hp => ⟨ho, ht, hp, by rw [hh]; exact hY.size, fun k hk => by rw [hh]; exact hY.block k hk⟩
  have b1 : Below W.heap.size W (W.alloc (.cells #[] 64)) := (Below.refl _ _).alloc (Nat.le_refl _) _
  have b2 : Below W.heap.size W ((W.alloc (.cells #[] 64)).alloc (.cells #[.int .i64 x, .int .i64 y, .int .i64 z] 64)) := b1.alloc (by simp) _
  have b3 : Below W.heap.size W ((W.alloc (.cells #[.int .i64 x, .int .i64 y, .int .i64 z] 64)).alloc (.cells #[] 64)) := ((Below.refl _ _).alloc (Nat.le_refl _) _).alloc (by simp) _
  refine ⟨Lib.hid fun X hh ho ht hp => ?_, Lib.hid fun X hh ho ht hp => ?_, Lib.hid fun X hh ho ht hp => ?_⟩
  · have hb := hbel X _ b1 hh ho ht hp
    exact ⟨rows_heap (own_made W _ _ rfl (Nat.le_refl _)) hh, hsrc.below hb, hb, trivial⟩
  · have hb := hbel X _ b2 hh ho ht hp
    refine ⟨rows_heap (rows_only (own_made W _ _ rfl (Nat.le_refl _)) ((Only.refl [] _).alloc _) (by simp)) hh, hsrc.below hb, hb, fun w7 hg => kept_cells hg ?_ (by omega)⟩
    have h := heap_new (W.alloc (.cells #[] 64)) (.cells #[.int .i64 x, .int .i64 y, .int .i64 z] 64)
    have hs : (W.alloc (.cells #[] 64)).heap.size = W.heap.size + 1 := by simp
    rw [hs] at h
    rw [hh]; exact h
  · have hb := hbel X _ b3 hh ho ht hp
    refine ⟨rows_heap (own_made _ _ _ (by simp) (Nat.le_succ _)) hh, hsrc.below hb, hb, fun w7 hg => kept_cells hg ?_ (by omega)⟩
    rw [hh]; exact heap_old (heap_new _ _) _
theorem new_cells (X : World) (u : Se) : ∀ j y, (row3 [u])[j]? = some y → (X.alloc (.cells #[.int .i64 u.id, .int .i64 u.span, .int .i64 u.till] 64)).cell? ⟨X.heap.size, 0 + j, none⟩ = some y := by
  intro j y hj
  rw [row3_single] at hj
  rw [Nat.zero_add, World.cell?_alloc_mark]
  simpa [cells3] using hj
set_option maxHeartbeats 8000000 in
set_option maxRecDepth 100000 in
theorem ropen_ok (base a : Nat) (g : Option Nat) (s : Ss) (span : Int) (w : World) (h : IsRef w base a g s) (h1 : 1 ≤ span) (h2 : span ≤ 10000) (hf : (s.l.length : Int) < s.room) (hr : s.room ≤ 64) (hn0 : 0 ≤ s.now) (hn : s.now ≤ 2199023255552) (hx0 : 0 ≤ s.next) (hx : s.next ≤ 2199023255552) (hbs : base ≤ w.heap.size) :
    Calls Try.prog 20 #[.pointer (some ⟨a, 0, none⟩), .int .i64 span] w fun e w' => ∃ g', e = .returned (.tuple #[.int .i64 s.next, .int .i64 0]) ∧ IsRef w' base a g' (openS s span) ∧ Only [a] w w' ∧ (∀ j, g' = some j → w.heap.size ≤ j) := by
  have hlt := h.lt
  have hge := h.ge
  have hgb := h.glt
  have HW : Hid (∀ d, IsRef ((w.drewN d).setCell ⟨a, 2, none⟩ (.int .i64 (s.next + 1))) base a g { s with next := s.next + 1 } ∧ Only [a] w ((w.drewN d).setCell ⟨a, 2, none⟩ (.int .i64 (s.next + 1))) ∧ ((w.drewN d).setCell ⟨a, 2, none⟩ (.int .i64 (s.next + 1))).heap.size = w.heap.size) := Lib.hid (fun d => by
    have ho : Only [a] w ((w.drewN d).setCell ⟨a, 2, none⟩ (.int .i64 (s.next + 1))) := ((Only.refl _ w).drewN d).setCell (by simp) _
    obtain ⟨⟨v, k1, k2, k3⟩, k4, k5⟩ := h
    have k1' : (w.drewN d).heap[a]? = some (.cells #[.int .i64 s.room, .int .i64 s.now, .int .i64 s.next, v] 47 (0, 0)) := k1
    exact ⟨⟨⟨v, heap_set k1' 2 _, rows_only k2 ho (fun j hj => by simp; intro e; subst e; exact k5 (k3 ▸ hj)), k3⟩, k4, k5⟩, ho, by simp [World.setCell]⟩)
  obtain ⟨⟨v, k1, k2, k3⟩, _, hne⟩ := h
  obtain ⟨ao, cap, rfl, _, _⟩ := rrow_shape k2
  have hc0 : w.cell? ⟨a, 0, none⟩ = some (.int .i64 s.room) := by rw [cell_heap k1]; rfl
  have hc2 : w.cell? ⟨a, 2, none⟩ = some (.int .i64 s.next) := by rw [cell_heap k1]; rfl
  have hc3 : w.cell? ⟨a, 3, none⟩ = some (.slice ao s.l.length cap) := by rw [cell_heap k1]; rfl
  have hfr := free_heap k1 2
  clear k1 k2 k3
  have d0 : decide (s.room ≤ (s.l.length : Int)) = false := decide_eq_false (by omega)
  unfold openS
  obtain ⟨room, now, next, l⟩ := s
  simp only at *
  go_enter Try.func20, Try.ntmps20
  go_wp2_with fail
  go_quiet (fail)
  clear hc3 d0
  go_wp2_with fail
  obtain ⟨hW1, hO1, hZ1⟩ := HW.out nq
  generalize (w.drewN nq).setCell ⟨a, 2, none⟩ (.int .i64 (next + 1)) = W at *
  have HWR := Lib.hid hW1; have HO1 := Lib.hid hO1; have HZ1 := Lib.hid hZ1
  obtain ⟨ao2, cap2, hc3, hcap2, hcn, hsrc, _⟩ := hW1.src
  have hc1 : W.cell? ⟨a, 1, none⟩ = some (.int .i64 now) := by
    obtain ⟨⟨v, k1, _, _⟩, _, _⟩ := hW1
    rw [cell_heap k1]; rfl
  have hhA : ∃ vv, W.heap[a]? = some (.cells #[.int .i64 room, .int .i64 now, .int .i64 (next + 1), vv] 47 (0, 0)) := by
    obtain ⟨⟨v, k1, _, _⟩, _, _⟩ := hW1
    exact ⟨v, k1⟩
  have haW : a < W.heap.size := hW1.lt
  have HC1 := Lib.hid hc1; have HC3 := Lib.hid hc3; have HSRC := Lib.hid hsrc; have HHA := Lib.hid hhA
  have hsrc0 := hsrc
  clear hW1 hO1 hZ1 hsrc hhA hcap2 hc0 hc2 hfr HW
  have hl64 : l.length ≤ 100 := by omega
  generalize hnn : l.length = n at *
  have HNN := Lib.hid hnn; clear hnn
  have w4 : IntKind.i64.wrap (now + span) = now + span := IntWalk.i64_in _ (by omega)
  obtain ⟨HE1, HE2, HE3⟩ := two_new W n next span (now + span) ao2 l hsrc0
  go_region_law (first
    | (refine step_append_rows (by rfl) (.tmp 35) (.tmp 39) (by rfl) W.heap.size _ [] 0 rfl (by rfl) (by first | (refine (HE1.out _ ?_ ?_ ?_ ?_).1 <;> rfl) | (refine (HE2.out _ ?_ ?_ ?_ ?_).1 <;> rfl) | (refine (HE3.out _ ?_ ?_ ?_ ?_).1 <;> rfl)) ao2 n cap2 l (by rfl) hcn (by first | (refine (HE1.out _ ?_ ?_ ?_ ?_).2.1 <;> rfl) | (refine (HE2.out _ ?_ ?_ ?_ ?_).2.1 <;> rfl) | (refine (HE3.out _ ?_ ?_ ?_ ?_).2.1 <;> rfl)) (by omega) (by first | (refine (HE1.out _ ?_ ?_ ?_ ?_).2.2.1.size <;> rfl) | (refine (HE2.out _ ?_ ?_ ?_ ?_).2.2.1.size <;> rfl) | (refine (HE3.out _ ?_ ?_ ?_ ?_).2.2.1.size <;> rfl)) ?_; intro a7 c7 w7 hown7 hb7 hgr7; have hbw7 : Below W.heap.size W w7 := (by first | (refine (HE1.out _ ?_ ?_ ?_ ?_).2.2.1.trans hb7 <;> rfl) | (refine (HE2.out _ ?_ ?_ ?_ ?_).2.2.1.trans hb7 <;> rfl) | (refine (HE3.out _ ?_ ?_ ?_ ?_).2.2.1.trans hb7 <;> rfl)); have h17 := cell_later hbw7 HC1.out; have h37 := cell_later hbw7 HC3.out; rw [Nat.zero_add, List.nil_append] at hown7; have HO7 := Lib.hid hown7; have HB7 := Lib.hid hbw7; (try (have hS7 := (HE2.out ((W.alloc (.cells #[] 64)).alloc (.cells #[.int .i64 next, .int .i64 span, .int .i64 (now + span)] 64)).drew rfl rfl rfl rfl).2.2.2 w7 hgr7)); (try (have hS7 := (HE3.out ((W.alloc (.cells #[.int .i64 next, .int .i64 span, .int .i64 (now + span)] 64)).alloc (.cells #[] 64)).drew rfl rfl rfl rfl).2.2.2 w7 hgr7)); clear hown7 hgr7 hb7 hbw7)
    | (refine step_append_rows (by rfl) (.tmp 40) (.tmp 50) (by rfl) W.heap.size _ l n HNN.out (by rfl) (by first | exact HO7.out | exact rows_only HO7.out ((Only.refl [] _).alloc _) (by simp)) (some ⟨_, 0, none⟩) 1 1 [⟨next, span, now + span⟩] (by rfl) (fun h => by cases h) ⟨rfl, .inr ⟨_, 0, rfl, by first | exact new_cells w7 ⟨next, span, now + span⟩ | exact hS7⟩⟩ (by omega) (by first | exact HB7.out.size | (have := HB7.out.size; simp; omega)) ?_; intro a9 c9 w9 hown9 hb9 hgr9; have hbw9 : Below W.heap.size W w9 := (by first | exact HB7.out.trans hb9 | exact (HB7.out.alloc HB7.out.size _).trans hb9); have h39 := cell_later hbw9 HC3.out; have f39 : w9.frozen? ⟨a, 3, none⟩ = false := (by obtain ⟨vv, hvv⟩ := HHA.out; exact free_heap (heap_below hbw9 haW hvv) 3); have HO9 := Lib.hid hown9; have HB9 := Lib.hid hbw9; clear hown9 hb9 hgr9 hbw9))
  all_goals
    clear h17 h37
    go_wp2_with fail
    go_ret2
    have oS : Only [a] w9 (w9.setCell ⟨a, 3, none⟩ (.slice a9 (n + 1) c9)) := (Only.refl _ _).setCell (by simp) _
    have hzz := HZ1.out
    obtain ⟨vv, hvv⟩ := HHA.out
    have hA9 := heap_below HB9.out haW hvv
    have hg9 : ∀ j, (Value.slice a9 (n + 1) c9).ownBlock = some j → w.heap.size ≤ j := fun j hj => by have := (rows_block HO9.out hj).1; omega
    have hln : (l ++ [(⟨next, span, now + span⟩ : Se)]).length = n + 1 := by rw [List.length_append, HNN.out]; rfl
    refine ⟨rfl, (Value.slice a9 (n + 1) c9).ownBlock, ⟨⟨_, heap_set hA9 3 _, ?_, rfl⟩, hge, fun e => by have := hg9 a e; omega⟩, (HO1.out.trans (Only.ofBelow HB9.out [a])).trans oS, hg9⟩
    show World.ownsRow _ base 64 3 _ (l ++ [(⟨next, span, now + span⟩ : Se)]).length _
    rw [hln]
    exact rows_only (rows_mono HO9.out (by omega)) oS (fun j hj => by have := hg9 j hj; simp; omega)
end Go.Proofs.Ytmlgggcdjknlfaa
