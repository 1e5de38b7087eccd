/-
  Rows of the document's messages grow.
-/
import Derived.Test.YtmehgkbhpfcmpaaRM
namespace Go.Proofs.Ytmehgkbhpfcmpaa.G
open Go.RowKit Go.Proofs.Ytmehgkbhpfcmpaa
theorem info49 : (Try.prog.info? 49).map (fun i => (i.zero, i.size, i.bytes)) = some (some (.agg #[.int .i64 0, .int .i64 0, .int .i64 0, .slice none 0 0, .slice none 0 0]), 5, 72) := by kernel_rfl
/-- a slice of messages that can be read -/
structure IsR (w : World) (ao : Option Addr) (n c : Nat) (l : List Mv) : Prop where
  len : l.length = n
  nil : ao = none → n = 0 ∧ c = 0
  at_ : n = 0 ∨ ∃ b off, ao = some ⟨b, off, none⟩ ∧ ∀ t u, (row5 l)[t]? = some u → w.cell? ⟨b, off + t, none⟩ = some u
def Ones (l : List Mv) : Prop := ∀ x ∈ l, x.v.oneCell' = true ∧ x.u.oneCell' = true
theorem IsR.heapw {w w' : World} {ao : Option Addr} {n c : Nat} {l : List Mv} (h : IsR w ao n c l) (hw : w'.heap = w.heap) : IsR w' ao n c l := by
  refine ⟨h.len, h.nil, ?_⟩
  rcases h.at_ with h0 | ⟨b, off, h1, h2⟩
  · exact .inl h0
  · exact .inr ⟨b, off, h1, fun t u hu => (World.cell?_of_block (by rw [hw])).trans (h2 t u hu)⟩
theorem IsR.below {w w' : World} {ao : Option Addr} {n c : Nat} {l : List Mv} (h : IsR w ao n c l) (hb : Below w.heap.size w w') : IsR w' ao n c l := by
  refine ⟨h.len, h.nil, ?_⟩
  rcases h.at_ with h0 | ⟨b, off, h1, h2⟩
  · exact .inl h0
  · exact .inr ⟨b, off, h1, fun t u hu => cell_later hb (h2 t u hu)⟩
theorem isR_own {w : World} {base n : Nat} {ao : Option Addr} {c : Nat} {l : List Mv} (h : w.ownsRow base 49 5 (.slice ao n c) n (row5 l)) : IsR w ao n c l := by
  have hl : l.length = n := by have := h.1; rw [row5_len] at this; omega
  have h' := h
  rcases h.2 with ⟨h3, h0⟩ | ⟨g, cap, cur, hv, hb, hh, hn, hm, hs, ht⟩
  · cases h3
    exact ⟨hl, fun _ => ⟨rfl, rfl⟩, .inl rfl⟩
  · cases hv
    refine ⟨hl, (fun e => by cases e), .inr ⟨g, 0, rfl, fun t u hu => ?_⟩⟩
    have ht := (List.getElem?_eq_some_iff.1 hu).1
    rw [Nat.zero_add, World.ownsRow.cellAt h' t (by rw [row5_len, hl] at ht; exact ht)]
    exact hu
theorem isR_take {w : World} {ao : Option Addr} {n c : Nat} {l : List Mv} (h : IsR w ao n c l) {k : Nat} (hk : k ≤ n) : IsR w ao k c (l.take k) := by
  refine ⟨by rw [List.length_take, h.len]; omega, fun e => ⟨by have := (h.nil e).1; omega, (h.nil e).2⟩, ?_⟩
  rcases h.at_ with h0 | ⟨b, off, h1, h2⟩
  · exact .inl (by omega)
  · refine .inr ⟨b, off, h1, fun t u hu => ?_⟩
    rw [← row5_take] at hu
    rw [List.getElem?_take] at hu
    split at hu
    · exact h2 t u hu
    · cases hu
theorem isR_drop {w : World} {b off n c : Nat} {l : List Mv} (h : IsR w (some ⟨b, off, none⟩) n c l) {k : Nat} (hk : k ≤ n) (hc : n ≤ c) :
    ∃ off2, (if c = k then (some ⟨b, off, none⟩ : Option Addr) else some ⟨b, off + k * 5, none⟩) = some ⟨b, off2, none⟩ ∧ IsR w (some ⟨b, off2, none⟩) (n - k) (c - k) (l.drop k) := by
  by_cases hck : c = k
  · refine ⟨off, by rw [if_pos hck], by rw [List.length_drop, h.len], (fun e => by cases e), .inl (by omega)⟩
  · refine ⟨off + k * 5, by rw [if_neg hck], by rw [List.length_drop, h.len], (fun e => by cases e), ?_⟩
    by_cases h0 : n - k = 0
    · exact .inl h0
    rcases h.at_ with h0' | ⟨b', off', h1, h2⟩
    · omega
    · cases h1
      refine .inr ⟨b, off + k * 5, rfl, fun t u hu => ?_⟩
      rw [← row5_drop, List.getElem?_drop] at hu
      rw [show off + k * 5 + t = off + (k * 5 + t) from by omega]
      exact h2 _ u hu
theorem rows49_shape {w : World} {base n : Nat} {v : Value} {xs : List Value} (h : w.ownsRow base 49 5 v n xs) : ∃ ao cap, v = .slice ao n cap ∧ n ≤ cap ∧ cap ≤ 9223372036854775807 := row_shape49 h
theorem row_lt {w : World} {base n : Nat} {v : Value} {e : TypeId} {k : Nat} {xs : List Value} (h : w.ownsRow base e k v n xs) : ∀ b, v.ownBlock = some b → base ≤ b := fun b hb => (rows_block h hb).1
/-- APPEND of messages to messages of the call's own, at a step of a region that draws its order -/
theorem step_append_row {w : World} {ops : Array Oper} {o : Oper} {a : Act} {K : Act → World → Prop} {Q : Exit → Act → World → Prop} {E : Prop} (hgd : o.guard = none) (s x : Operand)
    (ho : o.op = .call { callee := .builtin .append, args := #[s, x], argTypes := #[40, 40] })
    (base : Nat) (v : Value) (l1 : List Mv) (n1 N : Nat) (hs : a.eval s = v) (hown : w.ownsRow base 49 5 v n1 (row5 l1))
    (ao : Option Addr) (m c : Nat) (l2 : List Mv) (hx : a.eval x = .slice ao m c) (hsrc : IsR w ao m c l2) (hone : Ones l2) (hN : n1 + m = N) (hbytes : N ≤ 2000000) (hbase : base ≤ w.heap.size)
    (h : ∀ ao' cap' w', w'.ownsRow base 49 5 (.slice ao' N cap') N (row5 (l1 ++ l2)) → Below base w w' → w.grownBy w' v.ownBlock → K (a.put o.dst (.slice ao' N cap')) w') :
    if Region.wanted o (yielded ops a.tmps) = true then Oper.wp Try.prog o a w K Q else E := by
  have hw : Region.wanted o (yielded ops a.tmps) = true := by simp [Region.wanted, hgd]
  rw [if_pos hw]
  obtain ⟨i0, hi0, hz0, hz1, hz2⟩ := info_parts info49
  have hbl : ∀ w', w.grownBy w' v.ownBlock → Below base w w' := fun w' hg => (Below.refl base w).grown hg hbase (fun k hk => row_lt hown k hk)
  have hl1 : l1.length = n1 := by have := hown.1; rw [row5_len] at this; omega
  cases ao with
  | none =>
    obtain ⟨rfl, rfl⟩ := hsrc.nil rfl
    obtain rfl : l2 = [] := List.length_eq_zero_iff.1 hsrc.len
    have hrun := run_append_owned_none (P := Try.prog) (w := w) base 40 o.type 49 i0 5 Try.underlying40 hi0 v _ _ hown
    obtain ⟨a1, c1, rfl, _, _⟩ := row_shape49 hown
    obtain rfl : n1 = N := by omega
    unfold Oper.wp
    simp [execOp, ho, resolve, invoke, builtin, hs, hx, hrun, Result.andThen]
    exact h a1 c1 w (by simpa using hown) (Below.refl _ _) (World.grownBy.refl _ _)
  | some ad =>
    obtain ⟨v', w', hr, h2, h3, _, _⟩ := run_append_own_at (P := Try.prog) w base 40 o.type 49 i0 _ 5 72 Try.underlying40 hi0 hz0 hz1 hz2 rfl (by decide) v _ _ hown ad m c (row5 l2) (by rw [row5_len, hsrc.len]) (fun j u hj => by
      rcases hsrc.at_ with h3 | ⟨b, off, h4, h5⟩
      · subst h3
        obtain rfl : l2 = [] := List.length_eq_zero_iff.1 hsrc.len
        simp [row5] at hj
      · obtain rfl : ad = ⟨b, off, none⟩ := by simpa using h4
        rw [Addr.add_lit]
        exact h5 j u hj) (row5_one l2 hone) (by unfold maxLen; omega) (by omega) hbase
    obtain ⟨a1, c1, rfl, _, _⟩ := row_shape49 h2
    subst hN
    unfold Oper.wp
    simp [execOp, ho, resolve, invoke, builtin, hs, hx, hr, Result.andThen]
    refine h a1 c1 w' ?_ (hbl w' h3) h3
    rw [row5_append]; exact h2
theorem own_newR (w : World) (B : Nat) (hB : B ≤ w.heap.size) (b : Nat) (hb : b = w.heap.size) : (w.alloc (.cells #[] 49)).ownsRow B 49 5 (.slice (some ⟨b, 0, none⟩) 0 0) 0 (row5 []) := by
  subst hb
  exact ⟨rfl, .inr ⟨w.heap.size, 0, _, rfl, hB, heap_new _ _, Nat.le_refl _, by unfold maxLen; omega, rfl, rfl⟩⟩
end Go.Proofs.Ytmehgkbhpfcmpaa.G
