/-
  APPEND of all elements of a slice of slices of bytes: for whatever program. No condition.
-/
import Derived.Test.YtdmbllokajolhaaKitBB
import Derived.Maps.AppendAt
namespace Go.Proofs.Ytdmbllokajolhaa
open Go.RowKit

/-- an operation whose guard holds is as one without a guard -/
theorem wpList_wanted {P : Program} {w : World} {ops : Array Oper} {rest : List Oper} {o : Oper} {a : Act} {Q : Exit → Act → World → Prop} (hw : Region.wanted o (yielded ops a.tmps) = true)
    (h : wpList P ops Q ({ o with guard := none } :: rest) a w) : wpList P ops Q (o :: rest) a w := by
  unfold wpList at h ⊢
  rw [if_pos hw]
  rw [if_pos (by simp [Region.wanted])] at h
  exact h
/-- a new, empty block -/
theorem OwnBB.empty (w : World) (base : Nat) (e : TypeId) (H : Nat) (hH : H = w.heap.size) (hb : base ≤ w.heap.size) : OwnBB (w.alloc (.cells #[] e)) base e (.slice (some ⟨H, 0, none⟩) 0 0) [] := by
  subst hH
  exact ⟨[], rfl, ⟨rfl, .inr ⟨w.heap.size, 0, _, rfl, hb, heap_alloc_new w _, Nat.le_refl _, by unfold maxLen; omega, rfl, rfl⟩⟩, fun i hi => by simp at hi⟩
/-- it reads as a slice of slices of bytes; a nil one has no room -/
theorem OwnBB.isBB2 {w : World} {base : Nat} {e : TypeId} {v : Value} {ls : List (List UInt8)} (h : OwnBB w base e v ls) (n : Nat) (hn : ls.length = n) : ∃ ao c, v = .slice ao n c ∧ IsBB w ao n ls ∧ n ≤ c ∧ (ao = none → c = 0) := by
  obtain ⟨ao, c, rfl, h1, h2⟩ := h.isBB n hn
  refine ⟨ao, c, rfl, h1, h2, fun e => ?_⟩
  subst e
  obtain ⟨vs, _, h5, _⟩ := h
  rcases h5.2 with ⟨h6, _⟩ | ⟨g, cap, cur, h6, _⟩
  · simp only [Value.slice.injEq] at h6
    exact h6.2.2
  · simp at h6
theorem wpList_append_elems {P : Program} {w : World} {ops : Array Oper} {rest : List Oper} {o : Oper} {a : Act} {Q : Exit → Act → World → Prop} (hgd : o.guard = none) (s x : Operand) (t : TypeId)
    (ho : o.op = .call { callee := .builtin .append, args := #[s, x], argTypes := #[t, t] })
    (base : Nat) (e : TypeId) (ht : P.underlying t = some (.slice e)) (hi : (P.info? e).map (fun i => (i.zero, i.size, i.bytes)) = some (some (.slice none 0 0), 1, 24))
    (v : Value) (ls : List (List UInt8)) (hs : a.eval s = v) (hown : OwnBB w base e v ls)
    (ao : Option Addr) (m c : Nat) (l2 : List (List UInt8)) (hx : a.eval x = .slice ao m c) (w0 : World) (hsrc : IsBB w0 ao m l2) (hb0 : Below w0.heap.size w0 w) (h0b : w0.heap.size ≤ base) (hnc : ao = none → c = 0)
    (hbytes : ls.length + m ≤ 4398046511104) (hbase : base ≤ w.heap.size)
    (h : ∀ v' w', OwnBB w' base e v' (ls ++ l2) → w.grownBy w' v.ownBlock → Below base w w' → wpList P ops Q rest (a.put o.dst v') w') : wpList P ops Q (o :: rest) a w := by
  obtain ⟨i0, hi0, hz0, hz1, hz2⟩ := info_parts hi
  have hown' := hown
  obtain ⟨vs, h1, h2, h3⟩ := hown
  have hb : ∀ w', w.grownBy w' v.ownBlock → Below base w w' := fun w' hg => (Below.refl base w).grown hg hbase (fun k hk => (h2.lt k hk).1)
  cases ao with
  | none =>
    have hm : m = 0 := by
      rcases hsrc.at_ with h4 | ⟨b, off, h4, _⟩
      · exact h4
      · cases h4
    obtain rfl := hnc rfl
    subst hm
    obtain rfl : l2 = [] := List.length_eq_zero_iff.1 hsrc.len
    exact wpList_append_own_none hgd s x t ho base e i0 1 ht hi0 v _ _ hs h2 hx (h v w (by simpa using hown') (World.grownBy.refl _ _) (Below.refl _ _))
  | some ad =>
    obtain ⟨us, hul, huc, hue⟩ : ∃ us : List Value, us.length = m ∧ (∀ j u, us[j]? = some u → w.cell? (ad.add j) = some u) ∧ ∀ i, i < m → ∃ a k cc, us.getD i undef = .slice a k cc ∧ IsB w0 a k cc (l2.getD i []) ∧ k ≤ 140737488351232 := by
      rcases hsrc.at_ with h4 | ⟨b, off, h4, h5⟩
      · subst h4
        exact ⟨[], rfl, fun j u hj => by simp at hj, fun i hi => by omega⟩
      · cases h4
        refine ⟨(List.range m).map fun i => (w0.cell? ⟨b, off + i, none⟩).getD undef, by simp, fun j u hj => ?_, fun i hi => ?_⟩
        · have hjm : j < m := by
            rcases Nat.lt_or_ge j m with h6 | h6
            · exact h6
            · rw [List.getElem?_eq_none (by simpa using h6)] at hj; cases hj
          obtain ⟨a, k, cc, q1, q2, q3⟩ := h5 j hjm
          rw [Addr.add_lit]
          simp [hjm, q1] at hj
          subst hj
          exact cell_later hb0 q1
        · obtain ⟨a, k, cc, q1, q2, q3⟩ := h5 i hi
          exact ⟨a, k, cc, by simp [hi, q1], q2, q3⟩
    refine wpList_append_own_at w hgd s x t ho base e i0 (.slice none 0 0) 1 24 ht hi0 hz0 hz1 hz2 rfl (by decide) v _ vs hs h2 ad m c us hx (by omega) huc ?_ (by unfold maxLen; omega) (by omega) hbase ?_
    · intro u hu
      obtain ⟨i, hi, rfl⟩ := List.getElem_of_mem hu
      obtain ⟨a, k, cc, q1, _, _⟩ := hue i (by omega)
      simp [hi] at q1
      rw [q1]; rfl
    · intro v' w' g1 g2 _ g4
      refine h _ _ ⟨vs ++ us, by simp [h1, hul, hsrc.len], by rw [List.length_append, hsrc.len]; exact g1, fun i hi => ?_⟩ g2 (hb w' g2)
      have hin : i < ls.length + m := by rw [List.length_append, hsrc.len] at hi; exact hi
      by_cases hlt : i < ls.length
      · obtain ⟨a', m', c', q0, q1, q2, q3⟩ := h3 i hlt
        refine ⟨a', m', c', by simpa [List.getElem?_append_left, hlt, h1] using q0, ?_, q2, ?_⟩
        · have := q1.grown g2 q3
          simpa [List.getElem?_append_left, hlt] using this
        · rcases q3 with q3 | q3
          · exact .inl q3
          · rcases q1.lt with q4 | q4
            · exact .inl q4
            · refine .inr fun p hp => ?_
              rcases g4 with g4 | g4
              · rw [g4]; exact q3 p hp
              · rw [g4]
                intro e
                have := q4 p hp
                rw [Option.some.injEq] at e
                omega
      · obtain ⟨a', m', c', q0, q1, q2⟩ := hue (i - ls.length) (by omega)
        have e1 : (vs ++ us).getD i undef = us.getD (i - ls.length) undef := by
          simp [List.getElem?_append_right, h1, show ls.length ≤ i by omega]
        have e2 : (ls ++ l2).getD i [] = l2.getD (i - ls.length) [] := by
          simp [List.getElem?_append_right, show ls.length ≤ i by omega]
        rw [e1, e2]
        have hne : m' = 0 ∨ ∀ p, a' = some p → v.ownBlock ≠ some p.block := by
          rcases q1.lt with q4 | q4
          · exact .inl q4
          · refine .inr fun p hp e => ?_
            have := q4 p hp
            have := (h2.lt _ e).1
            omega
        refine ⟨a', m', c', q0, (q1.below hb0).grown g2 hne, q2, ?_⟩
        rcases q1.lt with q4 | q4
        · exact .inl q4
        · refine .inr fun p hp => ?_
          have hp2 := q4 p hp
          rcases g4 with g4 | g4
          · rw [g4]
            intro e
            have := (h2.lt _ e).1
            omega
          · rw [g4]
            intro e
            have := hb0.size
            rw [Option.some.injEq] at e
            omega
end Go.Proofs.Ytdmbllokajolhaa
