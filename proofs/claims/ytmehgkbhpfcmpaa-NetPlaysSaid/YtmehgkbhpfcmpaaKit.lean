/-
  Slices of bytes that read as a list of bytes, and what keeps them: for whatever program. No condition.
-/
import Derived.WalkKit
import Derived.WalkSpells
import Derived.WalkLawsBesides
import Derived.Lib.Hide
import Derived.Laws.AppendOwnNone
namespace Go.Proofs.Ytmehgkbhpfcmpaa
open Go.RowKit

/-- a byte as a cell -/
def bv (x : UInt8) : Value := .int .u8 (x.toNat : Int)

/-- a slice of bytes that reads as l -/
structure IsB (w : World) (ao : Option Addr) (n c : Nat) (l : List UInt8) : Prop where
  len : l.length = n
  nil : ao = none → n = 0 ∧ c = 0
  at_ : n = 0 ∨ ∃ b off, ao = some ⟨b, off, none⟩ ∧ ∀ i, i < n → w.cell? ⟨b, off + i, none⟩ = some (.int .u8 ((l.getD i 0).toNat : Int))

/-- a slice of slices of bytes that reads as ls -/
structure IsBB (w : World) (ao : Option Addr) (n : Nat) (ls : List (List UInt8)) : Prop where
  len : ls.length = n
  at_ : n = 0 ∨ ∃ b off, ao = some ⟨b, off, none⟩ ∧ ∀ i, i < n → ∃ a m c, w.cell? ⟨b, off + i, none⟩ = some (.slice a m c) ∧ IsB w a m c (ls.getD i []) ∧ m ≤ 140737488351232

theorem IsB.below {w w' : World} {ao : Option Addr} {n c : Nat} {l : List UInt8} (h : IsB w ao n c l) (hb : Below w.heap.size w w') : IsB w' ao n c l := by
  obtain ⟨h1, h2, h3⟩ := h
  refine ⟨h1, h2, ?_⟩
  rcases h3 with h3 | ⟨b, off, h4, h5⟩
  · exact .inl h3
  · exact .inr ⟨b, off, h4, fun i hi => cell_later hb (h5 i hi)⟩

theorem IsB.alloc {w : World} {ao : Option Addr} {n c : Nat} {l : List UInt8} (h : IsB w ao n c l) (o : Obj) : IsB (w.alloc o) ao n c l :=
  h.below ((Below.refl _ _).alloc (Nat.le_refl _) o)

theorem IsBB.below {w w' : World} {ao : Option Addr} {n : Nat} {ls : List (List UInt8)} (h : IsBB w ao n ls) (hb : Below w.heap.size w w') : IsBB w' ao n ls := by
  obtain ⟨h1, h3⟩ := h
  refine ⟨h1, ?_⟩
  rcases h3 with h3 | ⟨b, off, h4, h5⟩
  · exact .inl h3
  · refine .inr ⟨b, off, h4, fun i hi => ?_⟩
    obtain ⟨a, m, c, k1, k2, k3⟩ := h5 i hi
    exact ⟨a, m, c, cell_later hb k1, k2.below hb, k3⟩

theorem IsB.heapw {w w' : World} {ao : Option Addr} {n c : Nat} {l : List UInt8} (h : IsB w ao n c l) (hw : w'.heap = w.heap) : IsB w' ao n c l := by
  obtain ⟨h1, h2, h3⟩ := h
  refine ⟨h1, h2, ?_⟩
  rcases h3 with h3 | ⟨b, off, h4, h5⟩
  · exact .inl h3
  · exact .inr ⟨b, off, h4, fun i hi => (World.cell?_of_block (by rw [hw])).trans (h5 i hi)⟩
theorem IsBB.heapw {w w' : World} {ao : Option Addr} {n : Nat} {ls : List (List UInt8)} (h : IsBB w ao n ls) (hw : w'.heap = w.heap) : IsBB w' ao n ls := by
  obtain ⟨h1, h3⟩ := h
  refine ⟨h1, ?_⟩
  rcases h3 with h3 | ⟨b, off, h4, h5⟩
  · exact .inl h3
  · refine .inr ⟨b, off, h4, fun i hi => ?_⟩
    obtain ⟨a, m, c, k1, k2, k3⟩ := h5 i hi
    exact ⟨a, m, c, (World.cell?_of_block (by rw [hw])).trans k1, k2.heapw hw, k3⟩
theorem isB_take {w : World} {ao : Option Addr} {n c : Nat} {l : List UInt8} (h : IsB w ao n c l) (k : Nat) (hk : k ≤ n) : IsB w ao k c (l.take k) := by
  obtain ⟨h1, h2, h3⟩ := h
  refine ⟨by rw [List.length_take, h1]; omega, (fun e => ⟨by have := (h2 e).1; omega, (h2 e).2⟩), ?_⟩
  rcases h3 with h3 | ⟨b, off, h4, h5⟩
  · exact .inl (by omega)
  · refine .inr ⟨b, off, h4, fun i hi => ?_⟩
    rw [h5 i (by omega)]
    simp [hi]
theorem isB_drop {w : World} {b off n c : Nat} {l : List UInt8} (h : IsB w (some ⟨b, off, none⟩) n c l) (k c' : Nat) (hk : k ≤ n) : IsB w (some ⟨b, off + k, none⟩) (n - k) c' (l.drop k) := by
  obtain ⟨h1, h2, h3⟩ := h
  refine ⟨by rw [List.length_drop, h1], (fun e => by cases e), ?_⟩
  rcases h3 with h3 | ⟨b', off', h4, h5⟩
  · exact .inl (by omega)
  · cases h4
    refine .inr ⟨b, off + k, rfl, fun i hi => ?_⟩
    rw [Nat.add_assoc, h5 (k + i) (by omega)]
    simp [List.getElem?_drop]
theorem isB_zero {w : World} {p : Addr} (c : Nat) : IsB w (some p) 0 c [] := ⟨rfl, (fun e => by cases e), .inl rfl⟩
theorem isB_cap {w : World} {ao : Option Addr} {n c c' : Nat} {l : List UInt8} (h : IsB w ao n c l) (hn : ao = none → c' = 0) : IsB w ao n c' l :=
  ⟨h.len, fun e => ⟨(h.nil e).1, hn e⟩, h.at_⟩

theorem isB_nil (w : World) : IsB w none 0 0 [] := ⟨rfl, fun _ => ⟨rfl, rfl⟩, .inl rfl⟩

/-- new bytes, laid out as a block -/
theorem isB_new (w : World) (l : List UInt8) (vs : Array Value) (hv : vs = (l.map bv).toArray) (t : TypeId) (fr : Nat × Nat) (H : Nat) (hH : H = w.heap.size) (n : Nat) (hn : l.length = n) (c : Nat) :
    IsB (w.alloc (.cells vs t fr)) (some ⟨H, 0, none⟩) n c l := by
  subst hH hv hn
  refine ⟨rfl, (fun h => by cases h), .inr ⟨_, _, rfl, fun i hi => ?_⟩⟩
  rw [World.cell?_alloc_mark]
  simp [hi, bv]

/-- one slice of bytes, alone in a new block -/
theorem isBB_one (w : World) (a : Option Addr) (m c : Nat) (l : List UInt8) (h : IsB w a m c l) (hm : m ≤ 140737488351232) (t : TypeId) (fr : Nat × Nat) (H : Nat) (hH : H = w.heap.size) :
    IsBB (w.alloc (.cells #[.slice a m c] t fr)) (some ⟨H, 0, none⟩) 1 [l] := by
  subst hH
  refine ⟨rfl, .inr ⟨_, _, rfl, fun i hi => ?_⟩⟩
  obtain rfl : i = 0 := by omega
  refine ⟨a, m, c, ?_, by simpa using h.alloc _, hm⟩
  rw [World.cell?_alloc_mark]
  rfl

/-- what the call owns reads as a slice of bytes -/
theorem isB_own {w : World} {base : Nat} {e : TypeId} {v : Value} {n : Nat} {l : List UInt8} (h : w.ownsRow base e 1 v n (l.map bv)) :
    ∃ ao c, v = .slice ao n c ∧ IsB w ao n c l := by
  obtain ⟨h1, h2⟩ := h
  have hl : l.length = n := by simpa using h1
  rcases h2 with ⟨rfl, rfl⟩ | ⟨g, cap, cur, rfl, hg, hh, hn, hm, hs, ht⟩
  · exact ⟨none, 0, rfl, hl, fun _ => ⟨rfl, rfl⟩, .inl rfl⟩
  · refine ⟨_, cap, rfl, hl, (fun h => by cases h), .inr ⟨g, 0, rfl, fun i hi => ?_⟩⟩
    have : cur.toList[i]? = some (bv (l.getD i 0)) := by
      have h3 : (cur.toList.take (n * 1))[i]? = (l.map bv)[i]? := by rw [ht]
      rw [List.getElem?_take, if_pos (by omega)] at h3
      rw [h3]
      have : i < l.length := by omega
      simp [this]
    simp only [World.cell?, hh, Nat.zero_add]
    simpa [bv] using this

/-- a slice value that the call made itself (its block lies from base on) and that reads as l -/
def OwnB (w : World) (base : Nat) (e : TypeId) (v : Value) (l : List UInt8) : Prop := w.ownsRow base e 1 v l.length (l.map bv)

theorem OwnB.nil (w : World) (base : Nat) (e : TypeId) : OwnB w base e (.slice none 0 0) [] := World.ownsRow_nil _ _ _ _
theorem OwnB.alloc {w : World} {base : Nat} {e : TypeId} {v : Value} {l : List UInt8} (h : OwnB w base e v l) (o : Obj) : OwnB (w.alloc o) base e v l := World.ownsRow.alloc h o
theorem OwnB.drew {w : World} {base : Nat} {e : TypeId} {v : Value} {l : List UInt8} (h : OwnB w base e v l) : OwnB w.drew base e v l := h
theorem OwnB.isB {w : World} {base : Nat} {e : TypeId} {v : Value} {l : List UInt8} (h : OwnB w base e v l) : ∃ ao c, v = .slice ao l.length c ∧ IsB w ao l.length c l := isB_own h
theorem OwnB.lt {w : World} {base : Nat} {e : TypeId} {v : Value} {l : List UInt8} (h : OwnB w base e v l) : ∀ k, v.ownBlock = some k → base ≤ k ∧ k < w.heap.size := World.ownsRow.lt h
/-- it stays so where nothing below a number that is beyond its block has turned -/
theorem OwnB.below {w w' : World} {base : Nat} {e : TypeId} {v : Value} {l : List UInt8} (h : OwnB w base e v l) (hb : Below w.heap.size w w') : OwnB w' base e v l := by
  refine ⟨h.1, ?_⟩
  rcases h.2 with h2 | ⟨g, cap, cur, hv, hg, hh, r⟩
  · exact .inl h2
  · exact .inr ⟨g, cap, cur, hv, hg, by rw [hb.block g (Array.getElem?_eq_some_iff.1 hh).1]; exact hh, r⟩
theorem OwnB.mono {w : World} {base base' : Nat} {e : TypeId} {v : Value} {l : List UInt8} (h : OwnB w base e v l) (hb : base' ≤ base) : OwnB w base' e v l := by
  refine ⟨h.1, ?_⟩
  rcases h.2 with h2 | ⟨g, cap, cur, hv, hg, hh, r⟩
  · exact .inl h2
  · exact .inr ⟨g, cap, cur, hv, Nat.le_trans hb hg, hh, r⟩
/-- a new, empty block of bytes -/
theorem OwnB.new (w : World) (base : Nat) (e : TypeId) (l : List UInt8) (vs : Array Value) (hv : vs = (l.map bv).toArray) (H : Nat) (hH : H = w.heap.size) (hb : base ≤ w.heap.size) (n : Nat) (hn : l.length = n) (hm : n ≤ 140737488355328) :
    OwnB (w.alloc (.cells vs e)) base e (.slice (some ⟨H, 0, none⟩) n n) l := by
  subst hH hv hn
  refine ⟨by simp, .inr ⟨w.heap.size, l.length, _, rfl, hb, heap_alloc_new w _, Nat.le_refl _, by unfold maxLen; omega, by simp, ?_⟩⟩
  simp [List.take_of_length_le]

/-- what an owned slice of bytes is in memory -/
theorem OwnB.form {w : World} {base : Nat} {e : TypeId} {v : Value} {l : List UInt8} (h : OwnB w base e v l) (hl : 0 < l.length) :
    ∃ g cap, v = .slice (some ⟨g, 0, none⟩) l.length cap ∧ base ≤ g ∧ g < w.heap.size ∧ (∀ i, i < l.length → w.cell? ⟨g, i, none⟩ = some (.int .u8 ((l.getD i 0).toNat : Int))) ∧ ∀ i, w.frozen? ⟨g, i, none⟩ = false := by
  have h' := h
  obtain ⟨_, h2⟩ := h
  rcases h2 with ⟨_, h0⟩ | ⟨g, cap, cur, rfl, hb, hh, _⟩
  · omega
  · refine ⟨g, cap, rfl, hb, (Array.getElem?_eq_some_iff.1 hh).1, fun i hi => ?_, fun i => World.ownsRow.frozenAt h' i⟩
    rw [World.ownsRow.cellAt h' i (by omega)]
    simp [hi, bv]
/-- a byte is stored -/
theorem OwnB.set {w : World} {base g cap : Nat} {e : TypeId} {l : List UInt8} (h : OwnB w base e (.slice (some ⟨g, 0, none⟩) l.length cap) l) (i : Nat) (x : UInt8) :
    OwnB (w.setCell ⟨g, i, none⟩ (.int .u8 (x.toNat : Int))) base e (.slice (some ⟨g, 0, none⟩) (l.set i x).length cap) (l.set i x) := by
  have := World.ownsRow.stored h i (.int .u8 (x.toNat : Int))
  unfold OwnB
  rw [List.length_set, List.map_set]
  exact this.1

/-- APPEND, whatever is appended that reads as bytes: nil, empty or not -/
theorem wpList_append_bytes {P : Program} {w : World} {ops : Array Oper} {rest : List Oper} {o : Oper} {a : Act} {Q : Exit → Act → World → Prop} (hgd : o.guard = none) (s x : Operand) (t : TypeId)
    (ho : o.op = .call { callee := .builtin .append, args := #[s, x], argTypes := #[t, t] })
    (base : Nat) (e : TypeId) (ht : P.underlying t = some (.slice e)) (hi : (P.info? e).map (fun i => (i.zero, i.size, i.bytes)) = some (some (.int .u8 0), 1, 1))
    (v : Value) (l : List UInt8) (hs : a.eval s = v) (hown : OwnB w base e v l)
    (ao : Option Addr) (m c : Nat) (l2 : List UInt8) (hx : a.eval x = .slice ao m c) (hsrc : IsB w ao m c l2)
    (hbytes : l.length + m ≤ 140737488355328) (hbase : base ≤ w.heap.size)
    (h : ∀ v' w', OwnB w' base e v' (l ++ l2) → w.grownBy w' v.ownBlock → Below base w w' → wpList P ops Q rest (a.put o.dst v') w') : wpList P ops Q (o :: rest) a w := by
  obtain ⟨i0, hi0, hz0, hz1, hz2⟩ := info_parts hi
  obtain ⟨h1, h2, h3⟩ := hsrc
  have hb : ∀ w', w.grownBy w' v.ownBlock → Below base w w' := fun w' hg => (Below.refl base w).grown hg hbase (fun k hk => (hown.lt k hk).1)
  unfold OwnB at hown h
  cases ao with
  | none =>
    obtain ⟨rfl, rfl⟩ := h2 rfl
    obtain rfl : l2 = [] := List.length_eq_zero_iff.1 h1
    exact wpList_append_own_none hgd s x t ho base e i0 1 ht hi0 v _ _ hs hown hx (h v w (by simpa using hown) (World.grownBy.refl _ _) (Below.refl _ _))
  | some ad =>
    refine wpList_append_own w hgd s x t ho base e i0 (.int .u8 0) 1 1 ht hi0 hz0 hz1 hz2 rfl (by decide) v _ _ hs hown ad m c (l2.map bv) hx (by simpa using h1) ?_ ?_ (by unfold maxLen; omega) (by omega) hbase ?_
    · intro j u hj
      rcases h3 with h3 | ⟨b, off, h4, h5⟩
      · subst h3
        obtain rfl : l2 = [] := List.length_eq_zero_iff.1 h1
        simp at hj
      · obtain rfl : ad = ⟨b, off, none⟩ := by simpa using h4
        have hjl : j < l2.length := by
          rcases Nat.lt_or_ge j l2.length with hlt | hge
          · exact hlt
          · simp [List.getElem?_eq_none hge] at hj
        have := h5 j (by omega)
        rw [Addr.add_lit, this]
        simp [hjl] at hj
        simp [← hj, hjl, bv]
    · intro u hu
      obtain ⟨y, _, rfl⟩ := List.mem_map.1 hu
      rfl
    · intro v' w' g1 g2 _
      exact h v' w' (by rw [List.length_append, h1, List.map_append]; exact g1) g2 (hb w' g2)

/-- MAKE: n bytes of nought -/
theorem wpList_make_bytes {P : Program} {w : World} {ops : Array Oper} {rest : List Oper} {o : Oper} {a : Act} {Q : Exit → Act → World → Prop} (hgd : o.guard = none) (x y : Operand) (t : TypeId)
    (ho : o.op = Op.makeSlice t x y) (base : Nat) (e : TypeId) (ht : P.underlying t = some (.slice e)) (hi : (P.info? e).map (fun i => (i.zero, i.size, i.bytes)) = some (some (.int .u8 0), 1, 1))
    (n : Nat) (hx : a.eval x = .int .i64 (n : Int)) (hy : a.eval y = .int .i64 (n : Int)) (hn : n ≤ 281474976710656) (hbase : base ≤ w.heap.size)
    (h : ∀ w', OwnB w' base e (.slice (some ⟨w.heap.size, 0, none⟩) n n) (List.replicate n 0) → Below base w w' → w.heap.size < w'.heap.size → wpList P ops Q rest (a.put o.dst (.slice (some ⟨w.heap.size, 0, none⟩) n n)) w') : wpList P ops Q (o :: rest) a w := by
  obtain ⟨i0, hi0, hz0, hz1, hz2⟩ := info_parts hi
  refine wpList_make_full w hgd x y t ho base e i0 (.int .u8 0) 1 ht hi0 hz0 hz1 .i64 .i64 _ _ n hx hy rfl rfl (by rw [hz2]; omega) (by unfold maxLen; omega) hbase fun w' h1 h2 => ?_
  have h3 : (madeCells (Value.int .u8 0).cells (n * 1)).toList = (List.replicate n (0 : UInt8)).map bv := by
    rw [Nat.mul_one, show (Value.int .u8 0).cells = #[Value.int .u8 0] from rfl, toList_madeCells_one, List.map_replicate]; rfl
  rw [h3] at h1
  refine h w' (by unfold OwnB; rw [List.length_replicate]; exact h1) ((Below.refl base w).grown h2 hbase (fun k hk => by cases hk)) ?_
  exact (h1.lt w.heap.size rfl).2

end Go.Proofs.Ytmehgkbhpfcmpaa
