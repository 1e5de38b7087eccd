/-
  Rows of results that grow by what came in. No condition.
-/
import Derived.Test.YtpikdeikcmdcmaaCutW
namespace Go.Proofs.Ytpikdeikcmdcmaa
open Go.RowKit
/-- a row of the call's own reads as results -/
theorem isRes_of_row {w : World} {base : Nat} {v : Value} {l : List (Re × Value)} (h : w.ownsRow base 35 11 v l.length (rowR l)) (hn : ∀ p ∈ l, NamesAt w p.2 p.1.names) : ∃ ao c, v = .slice ao l.length c ∧ IsRes w ao l.length l := by
  rcases h.2 with ⟨rfl, h2⟩ | ⟨g, cap, cur, rfl, hb, hh, _⟩
  · exact ⟨none, 0, by rw [h2], rfl, .inl h2, hn⟩
  · refine ⟨_, cap, rfl, rfl, .inr ⟨g, 0, rfl, fun j u hj => ?_⟩, hn⟩
    rw [Nat.zero_add, World.ownsRow.cellAt h j (by have := (List.getElem?_eq_some_iff.1 hj).1; have := h.1; omega)]
    exact hj
theorem rowR_ones {w : World} {l : List (Re × Value)} (h : ∀ p ∈ l, NamesAt w p.2 p.1.names) : ∀ u ∈ rowR l, u.oneCell' = true := by
  intro u hu
  simp only [rowR, List.mem_flatMap] at hu
  obtain ⟨p, hp, hu⟩ := hu
  obtain ⟨ao, n, c, e, _⟩ := h p hp
  rw [e] at hu
  exact cellsR_ones p.1 ao n c u hu
/-- APPEND of results: the operation alone -/
theorem wp_append_rowR {w : World} {o : Oper} {a : Act} {K : Act → World → Prop} {Q : Exit → Act → World → Prop} (s x : Operand)
    (ho : o.op = .call { callee := .builtin .append, args := #[s, x], argTypes := #[24, 24] })
    (base : Nat) (v : Value) (l : List (Re × Value)) (n : Nat) (hln : l.length = n) (hs : a.eval s = v) (hown : w.ownsRow base 35 11 v n (rowR l))
    (ao : Option Addr) (m c : Nat) (l2 : List (Re × Value)) (hx : a.eval x = .slice ao m c) (hc : ao = none → c = 0) (hsrc : IsRes w ao m l2) (hl : n + m ≤ 1000000) (hbase : base ≤ w.heap.size)
    (h : ∀ ao' c' w', w'.ownsRow base 35 11 (.slice ao' (n + m) c') (n + m) (rowR (l ++ l2)) → Below base w w' → w.grownBy w' v.ownBlock → K (a.put o.dst (.slice ao' (n + m) c')) w') : o.wp Try.prog a w K Q := by
  subst hln
  obtain ⟨i0, hi0, hz0, hz1, hz2⟩ := info_parts info35
  have hbl : ∀ w', w.grownBy w' v.ownBlock → Below base w w' := fun w' hg => (Below.refl base w).grown hg hbase (fun k hk => (rows_block hown hk).1)
  cases ao with
  | none =>
    obtain rfl : c = 0 := hc rfl
    have hm0 : m = 0 := by
      rcases hsrc.at_ with h0 | ⟨b, off, h1, _⟩
      · exact h0
      · cases h1
    subst hm0
    obtain rfl : l2 = [] := List.length_eq_zero_iff.1 hsrc.len
    have hrun := run_append_owned_none (P := Try.prog) (w := w) base 24 o.type 35 i0 11 Try.underlying24 hi0 v l.length (rowR l) hown
    obtain ⟨a1, c1, rfl, _⟩ := rows_shape hown
    unfold Oper.wp execOp
    simp only [ho, resolve, invoke, builtin, Sem.run_bind, Sem.run_pure, Result.andThen_ok, List.map_toArray, List.map_cons, List.map_nil, hs, hx, hrun]
    exact h a1 c1 w (by simpa using hown) (Below.refl _ _) (World.grownBy.refl _ _)
  | some ad =>
    refine wp_append_own w s x 24 ho base 35 i0 zeroR 11 120 Try.underlying24 hi0 hz0 hz1 hz2 rfl (by decide) v _ _ hs hown ad m c (rowR l2) hx (by rw [rowR_len, hsrc.len]) ?_ (rowR_ones hsrc.names) (by unfold maxLen; omega) (by omega) hbase ?_
    · intro j u hj
      rcases hsrc.at_ with h0 | ⟨b, off, h1, h2⟩
      · subst h0
        obtain rfl : l2 = [] := List.length_eq_zero_iff.1 hsrc.len
        simp [rowR] at hj
      · obtain rfl : ad = ⟨b, off, none⟩ := by simpa using h1
        rw [Addr.add_lit]; exact h2 j u hj
    · intro v' w' h2 h3 _
      obtain ⟨a1, c1, rfl, _⟩ := rows_shape h2
      exact h a1 c1 w' (by rw [rowR_append]; exact h2) (hbl w' h3) h3
/-- an empty row, made just now -/
theorem row_made (w : World) (H base : Nat) (hH : w.heap.size = H) (hb : base ≤ H) : (w.alloc (.cells #[] 35)).ownsRow base 35 11 (.slice (some ⟨H, 0, none⟩) 0 0) 0 (rowR []) := by
  subst hH
  exact World.ownsRow_made w #[] 0 hb (Nat.zero_le _) (by simp)
/-- one result in a block, as a slice -/
theorem isRes_one (w : World) (x : Re) (v : Value) (H : Nat) (hH : H = w.heap.size) (h : NamesAt w v x.names) : IsRes (w.alloc (.cells (cellsR x v).toArray 35)) (some ⟨H, 0, none⟩) 1 [(x, v)] := by
  subst hH
  refine ⟨rfl, .inr ⟨_, 0, rfl, fun j u hj => ?_⟩, ?_⟩
  · rw [Nat.zero_add, cell_heap (heap_new _ _)]
    simpa [rowR] using hj
  · intro p hp
    obtain rfl := List.mem_singleton.1 hp
    exact h.below ((Below.refl _ _).alloc (Nat.le_refl _) _)
theorem isRes_at {w : World} {x : Re} {v : Value} {H : Nat} (hh : w.heap[H]? = some (.cells (cellsR x v).toArray 35 (0, 0))) (h : NamesAt w v x.names) : IsRes w (some ⟨H, 0, none⟩) 1 [(x, v)] := by
  refine ⟨rfl, .inr ⟨_, 0, rfl, fun j u hj => ?_⟩, ?_⟩
  · rw [Nat.zero_add, cell_heap hh]
    simpa [rowR] using hj
  · intro p hp
    obtain rfl := List.mem_singleton.1 hp
    exact h
/-- one number of a result turned -/
def setV (x : Re) (z : Int) : Re := ⟨x.err, x.path, x.data, x.names, x.made, x.changed, z, x.kids, x.owner, x.length, x.count⟩
theorem rowR_set (l : List (Re × Value)) (i : Nat) (hi : i < l.length) (x : Re) (v : Value) (hx : l[i]? = some (x, v)) (z : Int) : rowR (l.set i (setV x z, v)) = (rowR l).set (i * 11 + 6) (.int .i64 z) := by
  induction l generalizing i with
  | nil => simp at hi
  | cons p l ih =>
    cases i with
    | zero =>
      simp only [List.getElem?_cons_zero, Option.some.injEq] at hx
      subst hx
      simp [rowR, cellsR, setV]
    | succ i =>
      have h1 := ih i (by simpa using hi) (by simpa using hx)
      have hl : (cellsR p.1 p.2).length = 11 := rfl
      simp only [rowR, List.set_cons_succ, List.flatMap_cons] at h1 ⊢
      rw [h1, List.set_append_right _ _ (by omega), hl, show (i + 1) * 11 + 6 - 11 = i * 11 + 6 from by omega]
end Go.Proofs.Ytpikdeikcmdcmaa
