/-
  Rows of texts and of results that grow. No condition.
-/
import Derived.Test.YtpikdeikcmdcmaaPut
namespace Go.Proofs.Ytpikdeikcmdcmaa
open Go.RowKit
theorem info9 : (Try.prog.info? 9).map (fun i => (i.zero, i.size, i.bytes)) = some (some (.string ByteArray.empty), 1, 16) := by kernel_rfl
def zeroR : Value := .agg #[.int .i64 0, .string ByteArray.empty, .string ByteArray.empty, .slice none 0 0, .int .i64 0, .int .i64 0, .int .i64 0, .int .i64 0, .int .i64 0, .int .i64 0, .int .i64 0]
theorem info35 : (Try.prog.info? 35).map (fun i => (i.zero, i.size, i.bytes)) = some (some zeroR, 11, 120) := by kernel_rfl
theorem size26 : (Try.prog.info? 26).map (·.size) = some 5 := by kernel_rfl
theorem size40 : (Try.prog.info? 40).map (·.size) = some 5 := by kernel_rfl
theorem size35 : (Try.prog.info? 35).map (·.size) = some 11 := by kernel_rfl

/-- where a row's block lies -/
theorem rows_block {w : World} {base : Nat} {e : TypeId} {size n : Nat} {v : Value} {xs : List Value} (h : w.ownsRow base e size v n xs) {j : Nat} (hj : v.ownBlock = some j) :
    base ≤ j ∧ j < w.heap.size ∧ ∃ cur, w.heap[j]? = some (.cells cur e (0, 0)) := by
  rcases h.2 with ⟨rfl, _⟩ | ⟨g, cap, cur, rfl, hb, hh, _⟩
  · cases hj
  · cases hj
    exact ⟨hb, lt_of_heap hh, cur, hh⟩
theorem rows_keep {w w' : World} {base : Nat} {e : TypeId} {size n : Nat} {v : Value} {xs : List Value} (h : w.ownsRow base e size v n xs) (hk : ∀ j, v.ownBlock = some j → w'.heap[j]? = w.heap[j]?) : w'.ownsRow base e size v n xs := by
  refine ⟨h.1, ?_⟩
  rcases h.2 with h2 | ⟨g, cap, cur, rfl, hg, hh, r⟩
  · exact .inl h2
  · exact .inr ⟨g, cap, cur, rfl, hg, by rw [hk g rfl]; exact hh, r⟩
theorem rows_only {w w' : World} {base : Nat} {e : TypeId} {size n : Nat} {v : Value} {xs : List Value} {S : List Nat} (h : w.ownsRow base e size v n xs) (ho : Only S w w') (hs : ∀ k ∈ S, k < base) : w'.ownsRow base e size v n xs :=
  rows_keep h fun j hj => by
    obtain ⟨h1, h2, _⟩ := rows_block h hj
    exact ho.block j h2 fun hm => by have := hs j hm; omega
/-- another row's growth leaves it, where the elements' types differ -/
theorem rows_grown {w w' : World} {base b2 : Nat} {e e2 : TypeId} {size n s2 n2 : Nat} {v v2 : Value} {xs x2 : List Value} (h : w.ownsRow base e size v n xs) (h2 : w.ownsRow b2 e2 s2 v2 n2 x2) (hne : e ≠ e2) (hg : w.grownBy w' v2.ownBlock) : w'.ownsRow base e size v n xs :=
  rows_keep h fun j hj => by
    obtain ⟨_, hlt, cur, hh⟩ := rows_block h hj
    refine hg.block j hlt fun he => ?_
    obtain ⟨_, _, cur2, hh2⟩ := rows_block h2 he.symm
    rw [hh] at hh2
    cases hh2
    exact hne rfl
theorem rows_mono {w : World} {base b2 : Nat} {e : TypeId} {size n : Nat} {v : Value} {xs : List Value} (h : w.ownsRow base e size v n xs) (hb : b2 ≤ base) : w.ownsRow b2 e size v n xs := by
  refine ⟨h.1, ?_⟩
  rcases h.2 with h2 | ⟨g, cap, cur, rfl, hg, hh, r⟩
  · exact .inl h2
  · exact .inr ⟨g, cap, cur, rfl, Nat.le_trans hb hg, hh, r⟩
theorem rows_shape {w : World} {base : Nat} {e : TypeId} {size n : Nat} {v : Value} {xs : List Value} (h : w.ownsRow base e size v n xs) : ∃ ao c, v = .slice ao n c ∧ n ≤ c ∧ c ≤ 9223372036854775807 := by
  rcases h.2 with ⟨rfl, rfl⟩ | ⟨g, cap, cur, rfl, hb, hh, hn, hm, hs, ht⟩
  · exact ⟨none, 0, rfl, by omega, by decide⟩
  · unfold maxLen at hm
    exact ⟨_, cap, rfl, hn, by omega⟩
theorem rows_below {w w' : World} {base : Nat} {e : TypeId} {size n : Nat} {v : Value} {xs : List Value} (h : w.ownsRow base e size v n xs) (hb : Below w.heap.size w w') : w'.ownsRow base e size v n xs :=
  rows_keep h fun j hj => hb.block j (rows_block h hj).2.1

/-- results that the call made itself: their row, and each one's names, lie from base on -/
structure ResOwn (w : World) (base : Nat) (v : Value) (l : List (Re × Value)) : Prop where
  own : w.ownsRow base 35 11 v l.length (rowR l)
  names : ∀ p ∈ l, OwnS w base 9 p.2 p.1.names ∧ p.1.names.length ≤ 1000
theorem ResOwn.nil (w : World) (base : Nat) : ResOwn w base (.slice none 0 0) [] := ⟨World.ownsRow_nil _ _ _ _, fun p hp => by cases hp⟩
theorem OwnS.at_ {w : World} {base : Nat} {v : Value} {l : List ByteArray} (h : OwnS w base 9 v l) (hl : l.length ≤ 1000) : NamesAt w v l := by
  obtain ⟨ao, c, rfl, h1⟩ := h.isS
  exact ⟨ao, _, c, rfl, h1, by omega⟩
theorem ResOwn.isRes {w : World} {base : Nat} {v : Value} {l : List (Re × Value)} (h : ResOwn w base v l) : ∃ ao c, v = .slice ao l.length c ∧ IsRes w ao l.length l := by
  have hn : ∀ p ∈ l, NamesAt w p.2 p.1.names := fun p hp => (h.names p hp).1.at_ (h.names p hp).2
  have h0 := h.own
  rcases h.own.2 with ⟨rfl, h2⟩ | ⟨g, cap, cur, rfl, hb, hh, _⟩
  · exact ⟨none, 0, by rw [h2], rfl, .inl h2, hn⟩
  · refine ⟨_, cap, rfl, rfl, .inr ⟨g, 0, rfl, fun j u hj => ?_⟩, hn⟩
    rw [Nat.zero_add, World.ownsRow.cellAt h0 j (by have := (List.getElem?_eq_some_iff.1 hj).1; have := h0.1; omega)]
    exact hj
theorem ResOwn.below {w w' : World} {base : Nat} {v : Value} {l : List (Re × Value)} (h : ResOwn w base v l) (hb : Below w.heap.size w w') : ResOwn w' base v l :=
  ⟨rows_below h.own hb, fun p hp => ⟨rows_below (h.names p hp).1 hb, (h.names p hp).2⟩⟩
theorem ResOwn.only {w w' : World} {base : Nat} {v : Value} {l : List (Re × Value)} {S : List Nat} (h : ResOwn w base v l) (ho : Only S w w') (hs : ∀ k ∈ S, k < base) : ResOwn w' base v l :=
  ⟨rows_only h.own ho hs, fun p hp => ⟨rows_only (h.names p hp).1 ho hs, (h.names p hp).2⟩⟩
theorem ResOwn.mono {w : World} {base b2 : Nat} {v : Value} {l : List (Re × Value)} (h : ResOwn w base v l) (hb : b2 ≤ base) : ResOwn w b2 v l :=
  ⟨rows_mono h.own hb, fun p hp => ⟨rows_mono (h.names p hp).1 hb, (h.names p hp).2⟩⟩
theorem cellsR_ones (x : Re) (ao : Option Addr) (n c : Nat) : ∀ u ∈ cellsR x (.slice ao n c), u.oneCell' = true := by
  intro u hu
  simp only [cellsR, List.mem_cons, List.not_mem_nil, or_false] at hu
  rcases hu with rfl | rfl | rfl | rfl | rfl | rfl | rfl | rfl | rfl | rfl | rfl <;> rfl

/-- APPEND of one result: the operation alone -/
theorem wp_append_res {w : World} {o : Oper} {a : Act} {K : Act → World → Prop} {Q : Exit → Act → World → Prop} (s x : Operand)
    (ho : o.op = .call { callee := .builtin .append, args := #[s, x], argTypes := #[24, 24] })
    (base : Nat) (v : Value) (l : List (Re × Value)) (hs : a.eval s = v) (hown : ResOwn w base v l) (y : Re) (ao : Option Addr) (n c : Nat)
    (b : Nat) (hx : a.eval x = .slice (some ⟨b, 0, none⟩) 1 1) (hcell : w.heap[b]? = some (.cells (cellsR y (.slice ao n c)).toArray 35 (0, 0)))
    (hy : OwnS w base 9 (.slice ao n c) y.names) (hyl : y.names.length ≤ 1000) (hl : l.length ≤ 1000000) (hbase : base ≤ w.heap.size)
    (h : ∀ ao' c' w', ResOwn w' base (.slice ao' (l.length + 1) c') (l ++ [(y, .slice ao n c)]) → Below base w w' → K (a.put o.dst (.slice ao' (l.length + 1) c')) w') : o.wp Try.prog a w K Q := by
  obtain ⟨i0, hi0, hz0, hz1, hz2⟩ := info_parts info35
  refine wp_append_own w s x 24 ho base 35 i0 zeroR 11 120 Try.underlying24 hi0 hz0 hz1 hz2 rfl (by decide) v _ _ hs hown.own ⟨b, 0, none⟩ 1 1 (cellsR y (.slice ao n c)) hx rfl ?_ (cellsR_ones y ao n c) (by unfold maxLen; omega) (by omega) hbase ?_
  · intro j u hj
    rw [Addr.add_lit, Nat.zero_add, cell_heap hcell]
    simpa using hj
  · intro v' w' h2 h3 _
    obtain ⟨a1, c1, rfl, _⟩ := rows_shape h2
    have hb : Below base w w' := (Below.refl base w).grown h3 hbase (fun k hk => (rows_block hown.own hk).1)
    refine h a1 c1 w' ⟨?_, fun p hp => ?_⟩ hb
    · rw [rowR_append, List.length_append]; simpa [rowR] using h2
    · rcases List.mem_append.1 hp with hp | hp
      · exact ⟨rows_grown (hown.names p hp).1 hown.own (by decide) h3, (hown.names p hp).2⟩
      · obtain rfl := List.mem_singleton.1 hp
        exact ⟨rows_grown hy hown.own (by decide) h3, hyl⟩
/-- APPEND of one text: the operation alone -/
theorem wp_append_text {w : World} {o : Oper} {a : Act} {K : Act → World → Prop} {Q : Exit → Act → World → Prop} (s x : Operand)
    (ho : o.op = .call { callee := .builtin .append, args := #[s, x], argTypes := #[31, 31] })
    (base : Nat) (v : Value) (l : List ByteArray) (hs : a.eval s = v) (hown : OwnS w base 9 v l) (y : ByteArray)
    (b : Nat) (hx : a.eval x = .slice (some ⟨b, 0, none⟩) 1 1) (hcell : w.cell? ⟨b, 0, none⟩ = some (.string y)) (hl : l.length ≤ 1000000) (hbase : base ≤ w.heap.size)
    (h : ∀ ao' c' w', OwnS w' base 9 (.slice ao' (l.length + 1) c') (l ++ [y]) → Below base w w' → K (a.put o.dst (.slice ao' (l.length + 1) c')) w') : o.wp Try.prog a w K Q := by
  obtain ⟨i0, hi0, hz0, hz1, hz2⟩ := info_parts info9
  refine wp_append_own w s x 31 ho base 9 i0 (.string ByteArray.empty) 1 16 Try.underlying31 hi0 hz0 hz1 hz2 rfl (by decide) v _ _ hs hown ⟨b, 0, none⟩ 1 1 [sv y] hx rfl ?_ ?_ (by unfold maxLen; omega) (by omega) hbase ?_
  · intro j u hj
    match j, hj with
    | 0, hj => rw [Addr.add_lit]; simp at hj; rw [hcell, ← hj]; rfl
  · intro u hu
    obtain rfl := List.mem_singleton.1 hu
    rfl
  · intro v' w' h2 h3 _
    obtain ⟨a1, c1, rfl, _⟩ := rows_shape h2
    have hb : Below base w w' := (Below.refl base w).grown h3 hbase (fun k hk => (rows_block hown hk).1)
    refine h a1 c1 w' ?_ hb
    unfold OwnS
    rw [List.map_append, List.length_append]; exact h2
/-- the step of a drawn region -/
theorem wanted_step {w : World} {ops : Array Oper} {o : Oper} {a : Act} {K : Act → World → Prop} {Q : Exit → Act → World → Prop} {E : Prop} (hgd : o.guard = none) (h : o.wp Try.prog a w K Q) :
    if Region.wanted o (yielded ops a.tmps) = true then Oper.wp Try.prog o a w K Q else E := by
  rw [if_pos (by simp [Region.wanted, hgd])]; exact h
end Go.Proofs.Ytpikdeikcmdcmaa
