/-
  Slices of slices of bytes that the call made itself: for whatever program. No condition.
-/
import Derived.Test.YtdmbllokajolhaaKit
import Derived.Deep.AppendLies
namespace Go.Proofs.Ytdmbllokajolhaa
open Go.RowKit

/-- behind writes to block row alone (and new blocks) a slice of bytes in another block reads as it did -/
theorem IsB.grown {w w' : World} {row : Option Nat} {ao : Option Addr} {n c : Nat} {l : List UInt8} (h : IsB w ao n c l) (hg : w.grownBy w' row) (hne : n = 0 ∨ ∀ p, ao = some p → row ≠ some p.block) : IsB w' ao n c l := by
  obtain ⟨h1, h2, h3⟩ := h
  refine ⟨h1, h2, ?_⟩
  rcases hne with h0 | hne
  · exact .inl h0
  rcases h3 with h3 | ⟨b, off, h4, h5⟩
  · exact .inl h3
  · refine .inr ⟨b, off, h4, fun i hi => ?_⟩
    have hc := h5 i hi
    exact (World.cell?_of_block (hg.block b (World.block_lt_of_cell? w _ hc) (fun e => hne _ h4 e.symm))).trans hc
theorem IsB.lt {w : World} {ao : Option Addr} {n c : Nat} {l : List UInt8} (h : IsB w ao n c l) : n = 0 ∨ ∀ p, ao = some p → p.block < w.heap.size := by
  rcases h.at_ with h3 | ⟨b, off, h4, h5⟩
  · exact .inl h3
  · by_cases h0 : n = 0
    · exact .inl h0
    · refine .inr fun p hp => ?_
      rw [h4] at hp
      cases hp
      exact World.block_lt_of_cell? w _ (h5 0 (by omega))

/-- one element of a row of slices of bytes, not in block g -/
def Elem (w : World) (g : Option Nat) (v : Value) (l : List UInt8) : Prop :=
  ∃ a m c, v = .slice a m c ∧ IsB w a m c l ∧ m ≤ 140737488351232 ∧ (m = 0 ∨ ∀ p, a = some p → g ≠ some p.block)

/-- a slice value that the call made itself (its block lies from base on), whose elements are slices of bytes that read as ls -/
def OwnBB (w : World) (base : Nat) (e : TypeId) (v : Value) (ls : List (List UInt8)) : Prop :=
  ∃ vs : List Value, vs.length = ls.length ∧ w.ownsRow base e 1 v ls.length vs ∧ ∀ i, i < ls.length → Elem w v.ownBlock (vs.getD i undef) (ls.getD i [])

theorem OwnBB.nil (w : World) (base : Nat) (e : TypeId) : OwnBB w base e (.slice none 0 0) [] := ⟨[], rfl, World.ownsRow_nil _ _ _ _, fun i hi => by simp at hi⟩
theorem Elem.below {w w' : World} {g : Option Nat} {v : Value} {l : List UInt8} (h : Elem w g v l) (hb : Below w.heap.size w w') : Elem w' g v l := by
  obtain ⟨a, m, c, h1, h2, h3, h4⟩ := h
  exact ⟨a, m, c, h1, h2.below hb, h3, h4⟩
theorem OwnBB.below {w w' : World} {base : Nat} {e : TypeId} {v : Value} {ls : List (List UInt8)} (h : OwnBB w base e v ls) (hb : Below w.heap.size w w') : OwnBB w' base e v ls := by
  obtain ⟨vs, h1, h2, h3⟩ := h
  refine ⟨vs, h1, ⟨h2.1, ?_⟩, fun i hi => (h3 i hi).below hb⟩
  rcases h2.2 with h4 | ⟨g, cap, cur, hv, hg, hh, r⟩
  · exact .inl h4
  · exact .inr ⟨g, cap, cur, hv, hg, by rw [hb.block g (Array.getElem?_eq_some_iff.1 hh).1]; exact hh, r⟩
theorem OwnBB.mono {w : World} {base base' : Nat} {e : TypeId} {v : Value} {ls : List (List UInt8)} (h : OwnBB w base e v ls) (hb : base' ≤ base) : OwnBB w base' e v ls := by
  obtain ⟨vs, h1, h2, h3⟩ := h
  exact ⟨vs, h1, ⟨h2.1, h2.2.imp id fun ⟨g, cap, cur, hv, hg, r⟩ => ⟨g, cap, cur, hv, Nat.le_trans hb hg, r⟩⟩, h3⟩
/-- it reads as a slice of slices of bytes -/
theorem OwnBB.isBB {w : World} {base : Nat} {e : TypeId} {v : Value} {ls : List (List UInt8)} (h : OwnBB w base e v ls) (n : Nat) (hn : ls.length = n) : ∃ ao c, v = .slice ao n c ∧ IsBB w ao n ls ∧ n ≤ c := by
  subst hn
  obtain ⟨vs, h1, h2, h3⟩ := h
  obtain ⟨_, h5⟩ := h2
  rcases h5 with ⟨rfl, h6⟩ | ⟨g, cap, cur, rfl, hg, hh, hn, hm, hs, ht⟩
  · exact ⟨none, 0, by rw [h6], ⟨rfl, .inl h6⟩, by omega⟩
  · refine ⟨_, cap, rfl, ⟨rfl, .inr ⟨g, 0, rfl, fun i hi => ?_⟩⟩, hn⟩
    obtain ⟨a, m, c, k1, k2, k3, _⟩ := h3 i hi
    refine ⟨a, m, c, ?_, k2, k3⟩
    have h7 : (cur.toList.take (ls.length * 1))[i]? = vs[i]? := by rw [ht]
    rw [List.getElem?_take, if_pos (by omega)] at h7
    rw [← k1]
    have h8 : i < vs.length := by omega
    simp only [World.cell?, hh, Nat.zero_add]
    rw [Array.getElem?_toList] at h7
    rw [h7]
    simp [h8]

theorem OwnBB.lt {w : World} {base : Nat} {e : TypeId} {v : Value} {ls : List (List UInt8)} (h : OwnBB w base e v ls) : ∀ k, v.ownBlock = some k → base ≤ k ∧ k < w.heap.size := by
  obtain ⟨vs, _, h2, _⟩ := h
  exact h2.lt
/-- what the call made later is an element that lies elsewhere -/
theorem OwnB.elem {w : World} {base : Nat} {e : TypeId} {v : Value} {l : List UInt8} (h : OwnB w base e v l) (g : Option Nat) (hg : ∀ k, g = some k → k < base) (hl : l.length ≤ 140737488351232) : Elem w g v l := by
  obtain ⟨ao, c, rfl, hb⟩ := h.isB
  refine ⟨ao, _, c, rfl, hb, hl, .inr fun p hp => ?_⟩
  subst hp
  intro e2
  have h1 := hg _ e2
  have h2 := (h.lt p.block rfl).1
  omega
/-- APPEND of one slice of bytes, that lies in a new block -/
theorem wpList_append_elem {P : Program} {w : World} {ops : Array Oper} {rest : List Oper} {o : Oper} {a : Act} {Q : Exit → Act → World → Prop} (hgd : o.guard = none) (s x : Operand) (t : TypeId)
    (ho : o.op = .call { callee := .builtin .append, args := #[s, x], argTypes := #[t, t] })
    (base : Nat) (e : TypeId) (ht : P.underlying t = some (.slice e)) (hi : (P.info? e).map (fun i => (i.zero, i.size, i.bytes)) = some (some (.slice none 0 0), 1, 24))
    (v : Value) (ls : List (List UInt8)) (hs : a.eval s = v) (hown : OwnBB w base e v ls)
    (H : Nat) (u : Value) (l : List UInt8) (hx : a.eval x = .slice (some ⟨H, 0, none⟩) 1 1) (hcell : w.cell? ⟨H, 0, none⟩ = some u) (hel : Elem w v.ownBlock u l)
    (hbytes : ls.length + 1 ≤ 4398046511104) (hbase : base ≤ w.heap.size)
    (h : ∀ v' w', OwnBB w' base e v' (ls ++ [l]) → w.grownBy w' v.ownBlock → Below base w w' → wpList P ops Q rest (a.put o.dst v') w') : wpList P ops Q (o :: rest) a w := by
  obtain ⟨i0, hi0, hz0, hz1, hz2⟩ := info_parts hi
  obtain ⟨vs, h1, h2, h3⟩ := hown
  obtain ⟨ua, um, uc, rfl, hub, hum, hune⟩ := hel
  have hb : ∀ w', w.grownBy w' v.ownBlock → Below base w w' := fun w' hg => (Below.refl base w).grown hg hbase (fun k hk => (h2.lt k hk).1)
  refine wpList_append_lies w hgd s x t ho base e i0 (.slice none 0 0) 1 24 ht hi0 hz0 hz1 hz2 rfl (by decide) v ls.length vs hs h2 ⟨H, 0, none⟩ 1 1 [.slice ua um uc] hx rfl ?_ ?_ (by decide) (by unfold maxLen; omega) (by omega) hbase w.heap.size rfl ?_
  · intro j y hj
    cases j with
    | zero =>
      simp at hj
      subst hj
      rw [Addr.add_lit]
      exact hcell
    | succ j => simp at hj
  · intro y hy
    simp at hy
    subst hy
    rfl
  · intro g cap w' g1 g2 g3 g4
    refine h _ _ ⟨vs ++ [.slice ua um uc], by simp [h1], by simpa using g1, fun i hi => ?_⟩ g2 (hb w' g2)
    have hold : ∀ (y : Value) (k : List UInt8), Elem w v.ownBlock y k → Elem w' (some g) y k := by
      rintro y k ⟨a', m', c', rfl, q1, q2, q3⟩
      refine ⟨a', m', c', rfl, q1.grown g2 q3, q2, ?_⟩
      rcases q3 with q3 | q3
      · exact .inl q3
      · rcases q1.lt with q4 | q4
        · exact .inl q4
        · refine .inr fun p hp => ?_
          rcases g3 with g3 | g3
          · rw [← g3]; exact q3 p hp
          · intro e
            have := q4 p hp
            cases e
            omega
    show Elem w' (some g) ((vs ++ [Value.slice ua um uc]).getD i undef) ((ls ++ [l]).getD i [])
    by_cases hlt : i < ls.length
    · have := hold _ _ (h3 i hlt)
      simpa [List.getElem?_append_left, hlt, h1] using this
    · obtain rfl : i = ls.length := by simp at hi; omega
      have := hold _ _ ⟨ua, um, uc, rfl, hub, hum, hune⟩
      rw [← h1]
      simpa [h1] using this
end Go.Proofs.Ytdmbllokajolhaa
