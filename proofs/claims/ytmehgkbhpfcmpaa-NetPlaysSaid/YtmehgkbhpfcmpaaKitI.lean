/-
  Slices of numbers that read as a list of numbers, and what keeps them: for whatever program. No condition.
-/
import Derived.WalkKit
import Derived.WalkSpells
import Derived.WalkLawsBesides
import Derived.Lib.Hide
import Derived.Laws.AppendOwnNone
namespace Go.Proofs.Ytmehgkbhpfcmpaa
open Go.RowKit

/-- a number as a cell -/
def iv (x : Int) : Value := .int .i64 x

/-- a slice of numbers that reads as l -/
structure IsI (w : World) (ao : Option Addr) (n c : Nat) (l : List Int) : Prop where
  len : l.length = n
  nil : ao = none → n = 0 ∧ c = 0
  at_ : n = 0 ∨ ∃ b off, ao = some ⟨b, off, none⟩ ∧ ∀ i, i < n → w.cell? ⟨b, off + i, none⟩ = some (.int .i64 (l.getD i 0))

theorem IsI.below {w w' : World} {ao : Option Addr} {n c : Nat} {l : List Int} (h : IsI w ao n c l) (hb : Below w.heap.size w w') : IsI w' ao n c l := by
  obtain ⟨h1, h2, h3⟩ := h
  refine ⟨h1, h2, ?_⟩
  rcases h3 with h3 | ⟨b, off, h4, h5⟩
  · exact .inl h3
  · exact .inr ⟨b, off, h4, fun i hi => cell_later hb (h5 i hi)⟩

theorem IsI.alloc {w : World} {ao : Option Addr} {n c : Nat} {l : List Int} (h : IsI w ao n c l) (o : Obj) : IsI (w.alloc o) ao n c l :=
  h.below ((Below.refl _ _).alloc (Nat.le_refl _) o)

theorem isI_nil (w : World) : IsI w none 0 0 [] := ⟨rfl, fun _ => ⟨rfl, rfl⟩, .inl rfl⟩

/-- new numbers, laid out as a block -/
theorem isI_new (w : World) (l : List Int) (vs : Array Value) (hv : vs = (l.map iv).toArray) (t : TypeId) (fr : Nat × Nat) (H : Nat) (hH : H = w.heap.size) (n : Nat) (hn : l.length = n) (c : Nat) :
    IsI (w.alloc (.cells vs t fr)) (some ⟨H, 0, none⟩) n c l := by
  subst hH hv hn
  refine ⟨rfl, (fun h => by cases h), .inr ⟨_, _, rfl, fun i hi => ?_⟩⟩
  rw [World.cell?_alloc_mark]
  simp [hi, iv]

/-- what the call owns reads as a slice of numbers -/
theorem isI_own {w : World} {base : Nat} {e : TypeId} {v : Value} {n : Nat} {l : List Int} (h : w.ownsRow base e 1 v n (l.map iv)) :
    ∃ ao c, v = .slice ao n c ∧ IsI w ao n c l := by
  obtain ⟨h1, h2⟩ := h
  have hl : l.length = n := by simpa using h1
  rcases h2 with ⟨rfl, rfl⟩ | ⟨g, cap, cur, rfl, hg, hh, hn, hm, hs, ht⟩
  · exact ⟨none, 0, rfl, hl, fun _ => ⟨rfl, rfl⟩, .inl rfl⟩
  · refine ⟨_, cap, rfl, hl, (fun h => by cases h), .inr ⟨g, 0, rfl, fun i hi => ?_⟩⟩
    have : cur.toList[i]? = some (iv (l.getD i 0)) := by
      have h3 : (cur.toList.take (n * 1))[i]? = (l.map iv)[i]? := by rw [ht]
      rw [List.getElem?_take, if_pos (by omega)] at h3
      rw [h3]
      have : i < l.length := by omega
      simp [this]
    simp only [World.cell?, hh, Nat.zero_add]
    simpa [iv] using this

/-- a slice value that the call made itself (its block lies from base on) and that reads as l -/
def OwnI (w : World) (base : Nat) (e : TypeId) (v : Value) (l : List Int) : Prop := w.ownsRow base e 1 v l.length (l.map iv)

theorem OwnI.nil (w : World) (base : Nat) (e : TypeId) : OwnI w base e (.slice none 0 0) [] := World.ownsRow_nil _ _ _ _
theorem OwnI.alloc {w : World} {base : Nat} {e : TypeId} {v : Value} {l : List Int} (h : OwnI w base e v l) (o : Obj) : OwnI (w.alloc o) base e v l := World.ownsRow.alloc h o
theorem OwnI.drew {w : World} {base : Nat} {e : TypeId} {v : Value} {l : List Int} (h : OwnI w base e v l) : OwnI w.drew base e v l := h
theorem OwnI.isI {w : World} {base : Nat} {e : TypeId} {v : Value} {l : List Int} (h : OwnI w base e v l) : ∃ ao c, v = .slice ao l.length c ∧ IsI w ao l.length c l := isI_own h
theorem OwnI.lt {w : World} {base : Nat} {e : TypeId} {v : Value} {l : List Int} (h : OwnI w base e v l) : ∀ k, v.ownBlock = some k → base ≤ k ∧ k < w.heap.size := World.ownsRow.lt h
/-- it stays so where nothing below a number that is beyond its block has turned -/
theorem OwnI.below {w w' : World} {base : Nat} {e : TypeId} {v : Value} {l : List Int} (h : OwnI w base e v l) (hb : Below w.heap.size w w') : OwnI w' base e v l := by
  refine ⟨h.1, ?_⟩
  rcases h.2 with h2 | ⟨g, cap, cur, hv, hg, hh, r⟩
  · exact .inl h2
  · exact .inr ⟨g, cap, cur, hv, hg, by rw [hb.block g (Array.getElem?_eq_some_iff.1 hh).1]; exact hh, r⟩
theorem OwnI.mono {w : World} {base base' : Nat} {e : TypeId} {v : Value} {l : List Int} (h : OwnI w base e v l) (hb : base' ≤ base) : OwnI w base' e v l := by
  refine ⟨h.1, ?_⟩
  rcases h.2 with h2 | ⟨g, cap, cur, hv, hg, hh, r⟩
  · exact .inl h2
  · exact .inr ⟨g, cap, cur, hv, Nat.le_trans hb hg, hh, r⟩
/-- a new, empty block of numbers -/
theorem OwnI.new (w : World) (base : Nat) (e : TypeId) (l : List Int) (vs : Array Value) (hv : vs = (l.map iv).toArray) (H : Nat) (hH : H = w.heap.size) (hb : base ≤ w.heap.size) (n : Nat) (hn : l.length = n) (hm : n ≤ 140737488355328) :
    OwnI (w.alloc (.cells vs e)) base e (.slice (some ⟨H, 0, none⟩) n n) l := by
  subst hH hv hn
  refine ⟨by simp, .inr ⟨w.heap.size, l.length, _, rfl, hb, heap_alloc_new w _, Nat.le_refl _, by unfold maxLen; omega, by simp, ?_⟩⟩
  simp [List.take_of_length_le]

/-- what an owned slice of numbers is in memory -/
theorem OwnI.form {w : World} {base : Nat} {e : TypeId} {v : Value} {l : List Int} (h : OwnI w base e v l) (hl : 0 < l.length) :
    ∃ g cap, v = .slice (some ⟨g, 0, none⟩) l.length cap ∧ base ≤ g ∧ g < w.heap.size ∧ (∀ i, i < l.length → w.cell? ⟨g, i, none⟩ = some (.int .i64 (l.getD i 0))) ∧ ∀ i, w.frozen? ⟨g, i, none⟩ = false := by
  have h' := h
  obtain ⟨_, h2⟩ := h
  rcases h2 with ⟨_, h0⟩ | ⟨g, cap, cur, rfl, hb, hh, _⟩
  · omega
  · refine ⟨g, cap, rfl, hb, (Array.getElem?_eq_some_iff.1 hh).1, fun i hi => ?_, fun i => World.ownsRow.frozenAt h' i⟩
    rw [World.ownsRow.cellAt h' i (by omega)]
    simp [hi, iv]
/-- a byte is stored -/
theorem OwnI.set {w : World} {base g cap : Nat} {e : TypeId} {l : List Int} (h : OwnI w base e (.slice (some ⟨g, 0, none⟩) l.length cap) l) (i : Nat) (x : Int) :
    OwnI (w.setCell ⟨g, i, none⟩ (.int .i64 x)) base e (.slice (some ⟨g, 0, none⟩) (l.set i x).length cap) (l.set i x) := by
  have := World.ownsRow.stored h i (.int .i64 x)
  unfold OwnI
  rw [List.length_set, List.map_set]
  exact this.1

/-- APPEND, whatever is appended that reads as numbers: nil, empty or not -/
theorem wpList_append_ints {P : Program} {w : World} {ops : Array Oper} {rest : List Oper} {o : Oper} {a : Act} {Q : Exit → Act → World → Prop} (hgd : o.guard = none) (s x : Operand) (t : TypeId)
    (ho : o.op = .call { callee := .builtin .append, args := #[s, x], argTypes := #[t, t] })
    (base : Nat) (e : TypeId) (ht : P.underlying t = some (.slice e)) (hi : (P.info? e).map (fun i => (i.zero, i.size, i.bytes)) = some (some (.int .i64 0), 1, 8))
    (v : Value) (l : List Int) (hs : a.eval s = v) (hown : OwnI w base e v l)
    (ao : Option Addr) (m c : Nat) (l2 : List Int) (hx : a.eval x = .slice ao m c) (hsrc : IsI w ao m c l2)
    (hbytes : l.length + m ≤ 17592186044416) (hbase : base ≤ w.heap.size)
    (h : ∀ v' w', OwnI w' base e v' (l ++ l2) → w.grownBy w' v.ownBlock → Below base w w' → wpList P ops Q rest (a.put o.dst v') w') : wpList P ops Q (o :: rest) a w := by
  obtain ⟨i0, hi0, hz0, hz1, hz2⟩ := info_parts hi
  obtain ⟨h1, h2, h3⟩ := hsrc
  have hb : ∀ w', w.grownBy w' v.ownBlock → Below base w w' := fun w' hg => (Below.refl base w).grown hg hbase (fun k hk => (hown.lt k hk).1)
  unfold OwnI at hown h
  cases ao with
  | none =>
    obtain ⟨rfl, rfl⟩ := h2 rfl
    obtain rfl : l2 = [] := List.length_eq_zero_iff.1 h1
    exact wpList_append_own_none hgd s x t ho base e i0 1 ht hi0 v _ _ hs hown hx (h v w (by simpa using hown) (World.grownBy.refl _ _) (Below.refl _ _))
  | some ad =>
    refine wpList_append_own w hgd s x t ho base e i0 (.int .i64 0) 1 8 ht hi0 hz0 hz1 hz2 rfl (by decide) v _ _ hs hown ad m c (l2.map iv) hx (by simpa using h1) ?_ ?_ (by unfold maxLen; omega) (by omega) hbase ?_
    · intro j u hj
      rcases h3 with h3 | ⟨b, off, h4, h5⟩
      · subst h3
        obtain rfl : l2 = [] := List.length_eq_zero_iff.1 h1
        simp at hj
      · obtain rfl : ad = ⟨b, off, none⟩ := by simpa using h4
        have hjl : j < l2.length := by
          rcases Nat.lt_or_ge j l2.length with hlt | hge
          · exact hlt
          · simp [List.getElem?_eq_none hge] at hj
        have := h5 j (by omega)
        rw [Addr.add_lit, this]
        simp [hjl] at hj
        simp [← hj, hjl, iv]
    · intro u hu
      obtain ⟨y, _, rfl⟩ := List.mem_map.1 hu
      rfl
    · intro v' w' g1 g2 _
      exact h v' w' (by rw [List.length_append, h1, List.map_append]; exact g1) g2 (hb w' g2)

/-- MAKE: n bytes of nought -/
theorem wpList_make_ints {P : Program} {w : World} {ops : Array Oper} {rest : List Oper} {o : Oper} {a : Act} {Q : Exit → Act → World → Prop} (hgd : o.guard = none) (x y : Operand) (t : TypeId)
    (ho : o.op = Op.makeSlice t x y) (base : Nat) (e : TypeId) (ht : P.underlying t = some (.slice e)) (hi : (P.info? e).map (fun i => (i.zero, i.size, i.bytes)) = some (some (.int .i64 0), 1, 8))
    (n : Nat) (hx : a.eval x = .int .i64 (n : Int)) (hy : a.eval y = .int .i64 (n : Int)) (hn : n ≤ 35184372088832) (hbase : base ≤ w.heap.size)
    (h : ∀ w', OwnI w' base e (.slice (some ⟨w.heap.size, 0, none⟩) n n) (List.replicate n 0) → Below base w w' → w.heap.size < w'.heap.size → wpList P ops Q rest (a.put o.dst (.slice (some ⟨w.heap.size, 0, none⟩) n n)) w') : wpList P ops Q (o :: rest) a w := by
  obtain ⟨i0, hi0, hz0, hz1, hz2⟩ := info_parts hi
  refine wpList_make_full w hgd x y t ho base e i0 (.int .i64 0) 1 ht hi0 hz0 hz1 .i64 .i64 _ _ n hx hy rfl rfl (by rw [hz2]; omega) (by unfold maxLen; omega) hbase fun w' h1 h2 => ?_
  have h3 : (madeCells (Value.int .i64 0).cells (n * 1)).toList = (List.replicate n (0 : Int)).map iv := by
    rw [Nat.mul_one, show (Value.int .i64 0).cells = #[Value.int .i64 0] from rfl, toList_madeCells_one, List.map_replicate]; rfl
  rw [h3] at h1
  refine h w' (by unfold OwnI; rw [List.length_replicate]; exact h1) ((Below.refl base w).grown h2 hbase (fun k hk => by cases hk)) ?_
  exact (h1.lt w.heap.size rfl).2

end Go.Proofs.Ytmehgkbhpfcmpaa
