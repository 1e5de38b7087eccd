/-
  Slices of texts that read as a list of texts, and what keeps them: for whatever program. No condition.
-/
import Derived.WalkKit
import Derived.WalkSpells
import Derived.WalkLawsBesides
import Derived.Lib.Hide
import Derived.Laws.AppendOwnNone
namespace Go.Proofs.Ytaoligpckpabfaa
open Go.RowKit

/-- a text as a cell -/
def sv (x : ByteArray) : Value := .string x

/-- a slice of texts that reads as l -/
structure IsS (w : World) (ao : Option Addr) (n c : Nat) (l : List ByteArray) : Prop where
  len : l.length = n
  nil : ao = none → n = 0 ∧ c = 0
  at_ : n = 0 ∨ ∃ b off, ao = some ⟨b, off, none⟩ ∧ ∀ i, i < n → w.cell? ⟨b, off + i, none⟩ = some (.string (l.getD i ByteArray.empty))

theorem IsS.below {w w' : World} {ao : Option Addr} {n c : Nat} {l : List ByteArray} (h : IsS w ao n c l) (hb : Below w.heap.size w w') : IsS w' ao n c l := by
  obtain ⟨h1, h2, h3⟩ := h
  refine ⟨h1, h2, ?_⟩
  rcases h3 with h3 | ⟨b, off, h4, h5⟩
  · exact .inl h3
  · exact .inr ⟨b, off, h4, fun i hi => cell_later hb (h5 i hi)⟩

theorem IsS.alloc {w : World} {ao : Option Addr} {n c : Nat} {l : List ByteArray} (h : IsS w ao n c l) (o : Obj) : IsS (w.alloc o) ao n c l :=
  h.below ((Below.refl _ _).alloc (Nat.le_refl _) o)

theorem isS_nil (w : World) : IsS w none 0 0 [] := ⟨rfl, fun _ => ⟨rfl, rfl⟩, .inl rfl⟩

/-- new texts, laid out as a block -/
theorem isS_new (w : World) (l : List ByteArray) (vs : Array Value) (hv : vs = (l.map sv).toArray) (t : TypeId) (fr : Nat × Nat) (H : Nat) (hH : H = w.heap.size) (n : Nat) (hn : l.length = n) (c : Nat) :
    IsS (w.alloc (.cells vs t fr)) (some ⟨H, 0, none⟩) n c l := by
  subst hH hv hn
  refine ⟨rfl, (fun h => by cases h), .inr ⟨_, _, rfl, fun i hi => ?_⟩⟩
  rw [World.cell?_alloc_mark]
  simp [hi, sv]

/-- what the call owns reads as a slice of texts -/
theorem isS_own {w : World} {base : Nat} {e : TypeId} {v : Value} {n : Nat} {l : List ByteArray} (h : w.ownsRow base e 1 v n (l.map sv)) :
    ∃ ao c, v = .slice ao n c ∧ IsS w ao n c l := by
  obtain ⟨h1, h2⟩ := h
  have hl : l.length = n := by simpa using h1
  rcases h2 with ⟨rfl, rfl⟩ | ⟨g, cap, cur, rfl, hg, hh, hn, hm, hs, ht⟩
  · exact ⟨none, 0, rfl, hl, fun _ => ⟨rfl, rfl⟩, .inl rfl⟩
  · refine ⟨_, cap, rfl, hl, (fun h => by cases h), .inr ⟨g, 0, rfl, fun i hi => ?_⟩⟩
    have : cur.toList[i]? = some (sv (l.getD i ByteArray.empty)) := by
      have h3 : (cur.toList.take (n * 1))[i]? = (l.map sv)[i]? := by rw [ht]
      rw [List.getElem?_take, if_pos (by omega)] at h3
      rw [h3]
      have : i < l.length := by omega
      simp [this]
    simp only [World.cell?, hh, Nat.zero_add]
    simpa [sv] using this

/-- a slice value that the call made itself (its block lies from base on) and that reads as l -/
def OwnS (w : World) (base : Nat) (e : TypeId) (v : Value) (l : List ByteArray) : Prop := w.ownsRow base e 1 v l.length (l.map sv)

theorem OwnS.nil (w : World) (base : Nat) (e : TypeId) : OwnS w base e (.slice none 0 0) [] := World.ownsRow_nil _ _ _ _
theorem OwnS.alloc {w : World} {base : Nat} {e : TypeId} {v : Value} {l : List ByteArray} (h : OwnS w base e v l) (o : Obj) : OwnS (w.alloc o) base e v l := World.ownsRow.alloc h o
theorem OwnS.drew {w : World} {base : Nat} {e : TypeId} {v : Value} {l : List ByteArray} (h : OwnS w base e v l) : OwnS w.drew base e v l := h
theorem OwnS.isS {w : World} {base : Nat} {e : TypeId} {v : Value} {l : List ByteArray} (h : OwnS w base e v l) : ∃ ao c, v = .slice ao l.length c ∧ IsS w ao l.length c l := isS_own h
theorem OwnS.lt {w : World} {base : Nat} {e : TypeId} {v : Value} {l : List ByteArray} (h : OwnS w base e v l) : ∀ k, v.ownBlock = some k → base ≤ k ∧ k < w.heap.size := World.ownsRow.lt h
/-- it stays so where nothing below a number that is beyond its block has turned -/
theorem OwnS.below {w w' : World} {base : Nat} {e : TypeId} {v : Value} {l : List ByteArray} (h : OwnS w base e v l) (hb : Below w.heap.size w w') : OwnS w' base e v l := by
  refine ⟨h.1, ?_⟩
  rcases h.2 with h2 | ⟨g, cap, cur, hv, hg, hh, r⟩
  · exact .inl h2
  · exact .inr ⟨g, cap, cur, hv, hg, by rw [hb.block g (Array.getElem?_eq_some_iff.1 hh).1]; exact hh, r⟩
theorem OwnS.mono {w : World} {base base' : Nat} {e : TypeId} {v : Value} {l : List ByteArray} (h : OwnS w base e v l) (hb : base' ≤ base) : OwnS w base' e v l := by
  refine ⟨h.1, ?_⟩
  rcases h.2 with h2 | ⟨g, cap, cur, hv, hg, hh, r⟩
  · exact .inl h2
  · exact .inr ⟨g, cap, cur, hv, Nat.le_trans hb hg, hh, r⟩
/-- what an owned slice of texts is in memory -/
theorem OwnS.form {w : World} {base : Nat} {e : TypeId} {v : Value} {l : List ByteArray} (h : OwnS w base e v l) (hl : 0 < l.length) :
    ∃ g cap, v = .slice (some ⟨g, 0, none⟩) l.length cap ∧ base ≤ g ∧ g < w.heap.size ∧ (∀ i, i < l.length → w.cell? ⟨g, i, none⟩ = some (.string (l.getD i ByteArray.empty))) ∧ ∀ i, w.frozen? ⟨g, i, none⟩ = false := by
  have h' := h
  obtain ⟨_, h2⟩ := h
  rcases h2 with ⟨_, h0⟩ | ⟨g, cap, cur, rfl, hb, hh, _⟩
  · omega
  · refine ⟨g, cap, rfl, hb, (Array.getElem?_eq_some_iff.1 hh).1, fun i hi => ?_, fun i => World.ownsRow.frozenAt h' i⟩
    rw [World.ownsRow.cellAt h' i (by omega)]
    simp [hi, sv]

/-- APPEND, whatever is appended that reads as texts: nil, empty or not -/
theorem wpList_append_texts {P : Program} {w : World} {ops : Array Oper} {rest : List Oper} {o : Oper} {a : Act} {Q : Exit → Act → World → Prop} (hgd : o.guard = none) (s x : Operand) (t : TypeId)
    (ho : o.op = .call { callee := .builtin .append, args := #[s, x], argTypes := #[t, t] })
    (base : Nat) (e : TypeId) (ht : P.underlying t = some (.slice e)) (hi : (P.info? e).map (fun i => (i.zero, i.size, i.bytes)) = some (some (.string ByteArray.empty), 1, 16))
    (v : Value) (l : List ByteArray) (hs : a.eval s = v) (hown : OwnS w base e v l)
    (ao : Option Addr) (m c : Nat) (l2 : List ByteArray) (hx : a.eval x = .slice ao m c) (hsrc : IsS w ao m c l2)
    (hbytes : l.length + m ≤ 8796093022208) (hbase : base ≤ w.heap.size)
    (h : ∀ v' w', OwnS w' base e v' (l ++ l2) → w.grownBy w' v.ownBlock → Below base w w' → wpList P ops Q rest (a.put o.dst v') w') : wpList P ops Q (o :: rest) a w := by
  obtain ⟨i0, hi0, hz0, hz1, hz2⟩ := info_parts hi
  obtain ⟨h1, h2, h3⟩ := hsrc
  have hb : ∀ w', w.grownBy w' v.ownBlock → Below base w w' := fun w' hg => (Below.refl base w).grown hg hbase (fun k hk => (hown.lt k hk).1)
  unfold OwnS at hown h
  cases ao with
  | none =>
    obtain ⟨rfl, rfl⟩ := h2 rfl
    obtain rfl : l2 = [] := List.length_eq_zero_iff.1 h1
    exact wpList_append_own_none hgd s x t ho base e i0 1 ht hi0 v _ _ hs hown hx (h v w (by simpa using hown) (World.grownBy.refl _ _) (Below.refl _ _))
  | some ad =>
    refine wpList_append_own w hgd s x t ho base e i0 (.string ByteArray.empty) 1 16 ht hi0 hz0 hz1 hz2 rfl (by decide) v _ _ hs hown ad m c (l2.map sv) hx (by simpa using h1) ?_ ?_ (by unfold maxLen; omega) (by omega) hbase ?_
    · intro j u hj
      rcases h3 with h3 | ⟨b, off, h4, h5⟩
      · subst h3
        obtain rfl : l2 = [] := List.length_eq_zero_iff.1 h1
        simp at hj
      · obtain rfl : ad = ⟨b, off, none⟩ := by simpa using h4
        have hjl : j < l2.length := by
          rcases Nat.lt_or_ge j l2.length with hlt | hge
          · exact hlt
          · simp [List.getElem?_eq_none hge] at hj
        have := h5 j (by omega)
        rw [Addr.add_lit, this]
        simp [hjl] at hj
        simp [← hj, hjl, sv]
    · intro u hu
      obtain ⟨y, _, rfl⟩ := List.mem_map.1 hu
      rfl
    · intro v' w' g1 g2 _
      exact h v' w' (by rw [List.length_append, h1, List.map_append]; exact g1) g2 (hb w' g2)

end Go.Proofs.Ytaoligpckpabfaa
