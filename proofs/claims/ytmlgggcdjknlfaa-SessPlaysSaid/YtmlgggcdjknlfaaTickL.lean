/-
  Time goes by: lists and rows, no program walked.
-/
import Derived.Test.YtmlgggcdjknlfaaTickI
import Derived.Lib.SliceRun
namespace Go.Proofs.Ytmlgggcdjknlfaa
open Go.RowKit

def keepers (now : Int) (l : List Se) : List Se := l.filter fun s => !over now s
/-- in the midst of going through: i kept so far, j looked at -/
structure Mid (now : Int) (l m : List Se) (i j : Nat) : Prop where
  len : m.length = l.length
  cnt : i = (keepers now (l.take j)).length
  head : m.take i = keepers now (l.take j)
  tail : m.drop j = l.drop j
  lt : i < j
theorem keepers_next (now : Int) (l : List Se) (k : Nat) (hk : k < l.length) : keepers now (l.take (k + 1)) = if over now (l.getD k ⟨0, 0, 0⟩) then keepers now (l.take k) else keepers now (l.take k) ++ [l.getD k ⟨0, 0, 0⟩] := by
  rw [take_next l k hk]
  unfold keepers
  rw [List.filter_append]
  generalize l.getD k ⟨0, 0, 0⟩ = x
  by_cases h : over now x = true
  · rw [if_pos h]; simp [h]
  · rw [if_neg h]; simp [h]
theorem keepers_all (now : Int) (l : List Se) (k : Nat) (hno : ∀ j, j < k → over now (l.getD j ⟨0, 0, 0⟩) = false) : keepers now (l.take k) = l.take k := by
  unfold keepers
  rw [List.filter_eq_self]
  intro s hs
  obtain ⟨j, hj, rfl⟩ := List.getElem_of_mem hs
  simp only [List.length_take] at hj
  have := hno j (by omega)
  rw [List.getD_eq_getElem?_getD, List.getElem?_eq_getElem (by omega)] at this
  simpa using this
theorem Mid.start (now : Int) (l : List Se) (k : Nat) (hk : k < l.length) (h : l.findIdx (over now) = k) : Mid now l l k (k + 1) := by
  have hh := (List.findIdx_eq hk).1 h
  have h1 : over now (l.getD k ⟨0, 0, 0⟩) = true := by simpa [hk] using hh.1
  have h2 : keepers now (l.take (k + 1)) = l.take k := by
    rw [keepers_next now l k hk, if_pos h1]
    exact keepers_all now l k fun j hj => by simpa [show j < l.length by omega] using hh.2 j hj
  exact ⟨rfl, by rw [h2]; simp; omega, h2.symm, rfl, by omega⟩
theorem Mid.at_ {now : Int} {l m : List Se} {i j : Nat} (h : Mid now l m i j) (hj : j < l.length) : m.getD j ⟨0, 0, 0⟩ = l.getD j ⟨0, 0, 0⟩ := by
  have h1 : (m.drop j)[0]? = (l.drop j)[0]? := by rw [h.tail]
  rw [List.getElem?_drop, List.getElem?_drop] at h1
  rw [List.getD_eq_getElem?_getD, List.getD_eq_getElem?_getD]
  simpa using congrArg (fun o => o.getD ⟨0, 0, 0⟩) h1
theorem drop_next {l m : List Se} {j : Nat} (h : m.drop j = l.drop j) : m.drop (j + 1) = l.drop (j + 1) := by
  have := congrArg (fun x => x.drop 1) h
  simpa [List.drop_drop] using this
theorem Mid.over {now : Int} {l m : List Se} {i j : Nat} (h : Mid now l m i j) (hj : j < l.length) (ho : over now (l.getD j ⟨0, 0, 0⟩) = true) : Mid now l m i (j + 1) := by
  have h2 : keepers now (l.take (j + 1)) = keepers now (l.take j) := by rw [keepers_next now l j hj, if_pos ho]
  exact ⟨h.len, by rw [h2]; exact h.cnt, by rw [h2]; exact h.head, drop_next h.tail, Nat.lt_succ_of_lt h.lt⟩
theorem Mid.keep {now : Int} {l m : List Se} {i j : Nat} (h : Mid now l m i j) (hj : j < l.length) (ho : Ytmlgggcdjknlfaa.over now (l.getD j ⟨0, 0, 0⟩) = false) : Mid now l (m.set i (l.getD j ⟨0, 0, 0⟩)) (i + 1) (j + 1) := by
  have h2 : keepers now (l.take (j + 1)) = keepers now (l.take j) ++ [l.getD j ⟨0, 0, 0⟩] := by rw [keepers_next now l j hj, if_neg (by rw [ho]; decide)]
  have hlt := h.lt
  have hlen := h.len
  refine ⟨by rw [List.length_set]; exact h.len, by rw [h2, List.length_append, ← h.cnt]; rfl, ?_, ?_, by omega⟩
  · rw [h2, ← h.head, List.take_succ_eq_append_getElem (by rw [List.length_set]; omega)]
    simp [List.take_set_of_le]
  · rw [List.drop_set_of_lt (by omega)]
    exact drop_next h.tail
theorem Mid.fin {now : Int} {l m : List Se} {i : Nat} (h : Mid now l m i l.length) : m.take i = keepers now l ∧ (keepers now l).length = i := by
  have h1 := h.head
  have h2 := h.cnt
  rw [List.take_of_length_le (Nat.le_refl _)] at h1 h2
  exact ⟨h1, h2.symm⟩

theorem row3_set (m : List Se) (i : Nat) (x : Se) (hi : i < m.length) : row3 (m.set i x) = (((row3 m).set (i * 3) (.int .i64 x.id)).set (i * 3 + 1) (.int .i64 x.span)).set (i * 3 + 2) (.int .i64 x.till) := by
  induction m generalizing i with
  | nil => simp at hi
  | cons s l ih =>
    cases i with
    | zero => simp [row3, cells3]
    | succ k =>
      rw [List.set_cons_succ, show row3 (s :: l.set k x) = cells3 s ++ row3 (l.set k x) from rfl, ih k (by simpa using hi), show row3 (s :: l) = cells3 s ++ row3 l from rfl,
        List.set_append_right _ _ (by simp [cells3]; omega), List.set_append_right _ _ (by simp [cells3]; omega), List.set_append_right _ _ (by simp [cells3]; omega)]
      rw [show (k + 1) * 3 - (cells3 s).length = k * 3 by simp [cells3]; omega, show (k + 1) * 3 + 1 - (cells3 s).length = k * 3 + 1 by simp [cells3]; omega, show (k + 1) * 3 + 2 - (cells3 s).length = k * 3 + 2 by simp [cells3]; omega]
theorem row3_take (m : List Se) (i : Nat) : (row3 m).take (i * 3) = row3 (m.take i) := by
  induction m generalizing i with
  | nil => simp [row3]
  | cons s l ih =>
    cases i with
    | zero => simp [row3]
    | succ k =>
      rw [List.take_succ_cons, show row3 (s :: l) = cells3 s ++ row3 l from rfl, show row3 (s :: l.take k) = cells3 s ++ row3 (l.take k) from rfl, ← ih k, List.take_append]
      rw [List.take_of_length_le (by simp [cells3]; omega), show (k + 1) * 3 - (cells3 s).length = k * 3 by simp [cells3]; omega]

/-- a shorter slice of one's own row -/
theorem row_short {w : World} {base g cap n i k : Nat} {e : TypeId} {xs : List Value} (h : w.ownsRow base e k (.slice (some ⟨g, 0, none⟩) n cap) n xs) (hi : i ≤ n) : w.ownsRow base e k (.slice (some ⟨g, 0, none⟩) i cap) i (xs.take (i * k)) := by
  obtain ⟨h1, h2⟩ := h
  have hik : i * k ≤ n * k := Nat.mul_le_mul_right k hi
  refine ⟨by rw [List.length_take, h1]; omega, ?_⟩
  rcases h2 with ⟨h3, _⟩ | ⟨g', cap', cur, hv, hb, hh, hn, hm, hs, ht⟩
  · cases h3
  · simp only [Value.slice.injEq, Option.some.injEq, Addr.mk.injEq, and_true, true_and] at hv
    obtain ⟨rfl, rfl⟩ := hv
    refine .inr ⟨_, _, cur, rfl, hb, hh, by omega, hm, hs, ?_⟩
    rw [← ht, List.take_take, Nat.min_eq_left hik]
theorem row_cells {base g cap n k : Nat} {e : TypeId} (vs : List Value) : ∀ (o : Nat) (w : World) (xs : List Value), w.ownsRow base e k (.slice (some ⟨g, 0, none⟩) n cap) n xs →
    ∃ ys, ys.length = xs.length ∧ ys.take o = xs.take o ∧ (w.setCells g o vs).ownsRow base e k (.slice (some ⟨g, 0, none⟩) n cap) n ys := by
  induction vs with
  | nil => intro o w xs h; exact ⟨xs, rfl, rfl, h⟩
  | cons v vs ih =>
    intro o w xs h
    obtain ⟨ys, h1, h2, h3⟩ := ih (o + 1) _ _ (World.ownsRow.stored h o v).1
    refine ⟨ys, by simpa using h1, ?_, h3⟩
    have := congrArg (fun l => l.take o) h2
    simpa [List.take_take, List.take_set_of_le] using this
theorem only_cells {S : List Nat} {a : World} (g : Nat) (hg : g ∈ S) (vs : List Value) : ∀ (o : Nat) (w : World), Only S a w → Only S a (w.setCells g o vs) := by
  induction vs with
  | nil => intro o w h; exact h
  | cons v vs ih => intro o w h; exact ih (o + 1) _ (h.setCell hg v)

/-- clear, elements of whatever cells -/
theorem run_clear_any {P : Program} (w : World) (t e ty : TypeId) (z : Value) (ht : P.underlying t = some (.slice e)) (hv : ∀ w, (zeroValue e).run P w = .ok z w) (b o n c : Nat) (hn : 0 < n) (zs : List Value) (hzs : (Builtin.zeroCells z.cells n).toList = zs)
    (h1 : ∀ v ∈ zs, v.oneCell' = true) (hc : ∀ j, j < zs.length → (w.cell? ⟨b, o + j, none⟩).isSome = true) (hf : ∀ j, j < zs.length → w.frozen? ⟨b, o + j, none⟩ = false) :
    (Builtin.clear_ #[t] ty #[.slice (some ⟨b, o, none⟩) n c]).run P w = .ok (.tuple #[]) (w.setCells b o zs) := by
  have hst := run_storeCells_cells (P := P) b o zs 0 w (by simpa using hc) (by simpa using hf) h1
  simp only [Nat.add_zero] at hst
  obtain ⟨m, rfl⟩ : ∃ m, n = m + 1 := ⟨n - 1, by omega⟩
  simp [Builtin.clear_, run_underlying ht, hv, hzs, hst]
theorem zero54 (w : World) : (zeroValue 54).run Try.prog w = .ok (.agg #[.int .i64 0, .int .i64 0, .int .i64 0]) w := by kernel_rfl
def zeros3 (n : Nat) : List Value := (Builtin.zeroCells (Value.agg #[.int .i64 0, .int .i64 0, .int .i64 0]).cells n).toList
theorem zeros3_len (n : Nat) : (zeros3 n).length = n * 3 := by simp [zeros3, Builtin.zeroCells, Value.cells]
theorem zeros3_one (n : Nat) : ∀ v ∈ zeros3 n, v.oneCell' = true := by
  intro v hv
  have hc : (Value.agg #[.int .i64 0, .int .i64 0, .int .i64 0]).cells = #[.int .i64 0, .int .i64 0, .int .i64 0] := by simp [Value.cells]
  rw [zeros3, hc] at hv
  simp only [Builtin.zeroCells, Array.toList_map, List.mem_map] at hv
  obtain ⟨i, _, rfl⟩ := hv
  have : i % 3 = 0 ∨ i % 3 = 1 ∨ i % 3 = 2 := by omega
  rcases this with h | h | h <;> simp [h, Value.oneCell']
/-- clear behind the i-th session of one's own row -/
theorem clear_se {w : World} {base g cap n i : Nat} {m : List Se} (h : w.ownsRow base 54 3 (.slice (some ⟨g, 0, none⟩) n cap) n (row3 m)) (hm : m.length = n) (hi : i < n) (ty : TypeId) (c : Nat) :
    (Builtin.clear_ #[50] ty #[.slice (some ⟨g, i * 3, none⟩) (n - i) c]).run Try.prog w = .ok (.tuple #[]) (w.setCells g (i * 3) (zeros3 (n - i))) ∧
    (w.setCells g (i * 3) (zeros3 (n - i))).ownsRow base 54 3 (.slice (some ⟨g, 0, none⟩) i cap) i (row3 (m.take i)) := by
  constructor
  · refine run_clear_any w 50 54 ty _ Try.underlying50 zero54 g (i * 3) (n - i) c (by omega) (zeros3 (n - i)) rfl (zeros3_one _) (fun j hj => ?_) (fun j hj => World.ownsRow.frozenAt h _)
    rw [zeros3_len] at hj
    rw [World.ownsRow.cellAt h (i * 3 + j) (by omega)]
    rw [List.getElem?_eq_getElem (by rw [row3_len, hm]; omega)]; rfl
  · obtain ⟨ys, h1, h2, h3⟩ := row_cells (zeros3 (n - i)) (i * 3) w _ h
    have := row_short h3 (Nat.le_of_lt hi)
    rwa [h2, row3_take] at this
end Go.Proofs.Ytmlgggcdjknlfaa
