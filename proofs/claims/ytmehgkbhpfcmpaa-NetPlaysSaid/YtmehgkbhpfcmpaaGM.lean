/-
  A net whose messages have texts, in memory; those that only ask.
-/
import Derived.Test.YtmehgkbhpfcmpaaNetG
namespace Go.Proofs.Ytmehgkbhpfcmpaa.G
open Go.RowKit Go.Proofs.Ytmehgkbhpfcmpaa
/-- a message, and the slice that holds its numbers -/
structure Mv where
  m : Mg
  v : Value
  u : Value
def mv0 : Mv := ⟨⟨0, 0, 0, [], []⟩, .slice none 0 0, .slice none 0 0⟩
instance : Inhabited Mv := ⟨mv0⟩
def cells5 (x : Mv) : List Value := [.int .i64 x.m.from_, .int .i64 x.m.to_, .int .i64 x.m.kind, x.v, x.u]
def row5 (l : List Mv) : List Value := l.flatMap cells5
theorem row5_len (l : List Mv) : (row5 l).length = l.length * 5 := by
  induction l with
  | nil => rfl
  | cons s l ih => simp only [row5, List.flatMap_cons, List.length_append, List.length_cons] at ih ⊢; rw [ih]; simp [cells5]; omega
theorem row5_append (l m : List Mv) : row5 (l ++ m) = row5 l ++ row5 m := by simp [row5]
theorem row5_at (l : List Mv) (i j : Nat) (hi : i < l.length) (hj : j < 5) : (row5 l)[i * 5 + j]? = (cells5 (l.getD i mv0))[j]? := by
  induction l generalizing i with
  | nil => simp at hi
  | cons s l ih =>
    cases i with
    | zero =>
      rw [show row5 (s :: l) = cells5 s ++ row5 l from rfl, List.getElem?_append_left (by simp [cells5]; omega)]
      simp
    | succ i =>
      rw [show row5 (s :: l) = cells5 s ++ row5 l from rfl, List.getElem?_append_right (by simp [cells5]; omega)]
      have := ih i (by simpa using hi)
      rw [show (i + 1) * 5 + j - (cells5 s).length = i * 5 + j by simp [cells5]; omega, this]
      simp
theorem row5_take (m : List Mv) (i : Nat) : (row5 m).take (i * 5) = row5 (m.take i) := by
  induction m generalizing i with
  | nil => simp [row5]
  | cons s l ih =>
    cases i with
    | zero => simp [row5]
    | succ k =>
      rw [List.take_succ_cons, show row5 (s :: l) = cells5 s ++ row5 l from rfl, show row5 (s :: l.take k) = cells5 s ++ row5 (l.take k) from rfl, ← ih k, List.take_append]
      rw [List.take_of_length_le (by simp [cells5]; omega), show (k + 1) * 5 - (cells5 s).length = k * 5 by simp [cells5]; omega]
theorem row5_drop (m : List Mv) (i : Nat) : (row5 m).drop (i * 5) = row5 (m.drop i) := by
  have h1 : row5 m = row5 (m.take i) ++ row5 (m.drop i) := by rw [← row5_append, List.take_append_drop]
  have h2 := row5_take m i
  have h3 : row5 m = (row5 m).take (i * 5) ++ (row5 m).drop (i * 5) := (List.take_append_drop _ _).symm
  rw [h2] at h3
  exact List.append_cancel_left (h3.symm.trans h1)

structure Nt where
  nodes : Int
  room : Int
  l : List Mg

/-- the messages of a row, each with its slice -/
structure Holds5 (w : World) (base : Nat) (ps : List Mv) (l : List Mg) : Prop where
  ms : ps.map Mv.m = l
  own : ∀ x ∈ ps, OwnM w base x.m x.v x.u
  one : ∀ x ∈ ps, x.v.oneCell' = true ∧ x.u.oneCell' = true
/-- behind the pointer to block a lies a net: its row in block g, or nil; its map in block mb -/
structure IsNet (w : World) (base a mb : Nat) (g : Option Nat) (s : Nt) (es : List ((Int × Int) × Bool)) : Prop where
  row : ∃ v ps, w.heap[a]? = some (.cells #[.int .i64 s.nodes, .int .i64 s.room, v, .map (some mb)] 60 (0, 0)) ∧ w.ownsRow base 32 5 v s.l.length (row5 ps) ∧ v.ownBlock = g ∧ Holds5 w base ps s.l
  cut : IsCut w mb es
  ge : base ≤ a
  gm : base ≤ mb

/-- blocks that hold neither numbers nor texts -/
def NoRow (w : World) (S : List Nat) : Prop := ∀ j ∈ S, ∀ cur, w.heap[j]? ≠ some (.cells cur 2 (0, 0)) ∧ w.heap[j]? ≠ some (.cells cur 65 (0, 0)) ∧ w.heap[j]? ≠ some (.cells cur 5 (0, 0))
theorem Holds5.only {w w' : World} {base : Nat} {ps : List Mv} {l : List Mg} {S : List Nat} (h : Holds5 w base ps l) (ho : Only S w w') (hs : NoRow w S) : Holds5 w' base ps l :=
  ⟨h.ms, fun x hx => (h.own x hx).only ho hs, h.one⟩
theorem IsNet.lt {w : World} {base a mb : Nat} {g : Option Nat} {s : Nt} {es : List ((Int × Int) × Bool)} (h : IsNet w base a mb g s es) : a < w.heap.size := by
  obtain ⟨⟨v, ps, h1, _⟩, _⟩ := h
  exact lt_of_heap h1
/-- what lies elsewhere turns no net -/
theorem IsNet.keep {w w' : World} {base a mb : Nat} {g : Option Nat} {s : Nt} {es : List ((Int × Int) × Bool)} (h : IsNet w base a mb g s es) {S : List Nat} (ho : Only S w w') (ha : a ∉ S) (hm : mb ∉ S) (hg : ∀ b, g = some b → b ∉ S)
    (hs : NoRow w S) : IsNet w' base a mb g s es := by
  obtain ⟨⟨v, ps, h1, h2, h3, h4⟩, h5, h6, h7⟩ := h
  exact ⟨⟨v, ps, ho.keeps h1 ha, rows_only h2 ho (by rw [h3]; exact hg), h3, h4.only ho hs⟩, h5.only ho hm, h6, h7⟩
theorem IsNet.below {w w' : World} {base a mb : Nat} {g : Option Nat} {s : Nt} {es : List ((Int × Int) × Bool)} (h : IsNet w base a mb g s es) (hb : Below w.heap.size w w') : IsNet w' base a mb g s es :=
  h.keep (Only.ofBelow hb []) (by simp) (by simp) (fun b _ => by simp) (fun j hj => by cases hj)
theorem row_shape {w : World} {base : Nat} {v : Value} {n : Nat} {xs : List Value} (h : w.ownsRow base 32 5 v n xs) : ∃ ao cap, v = .slice ao n cap ∧ n ≤ cap ∧ cap ≤ 9223372036854775807 := by
  rcases h.2 with ⟨rfl, h0⟩ | ⟨g, cap, cur, rfl, hb, hh, hn, hm, hs, ht⟩
  · exact ⟨none, 0, by rw [h0], by omega, by decide⟩
  · unfold maxLen at hm
    exact ⟨_, cap, rfl, hn, by omega⟩
theorem row_cell {w : World} {base : Nat} {v : Value} {l : List Mv} {n : Nat} (h : w.ownsRow base 32 5 v n (row5 l)) (hl : 0 < n) :
    ∃ g cap, v = .slice (some ⟨g, 0, none⟩) n cap ∧ base ≤ g ∧ g < w.heap.size ∧ n ≤ cap ∧ cap ≤ 9223372036854775807 ∧ l.length = n ∧
      ∀ i j, i < n → j < 5 → w.cell? ⟨g, i * 5 + j, none⟩ = (cells5 (l.getD i mv0))[j]? := by
  have h' := h
  have hle : l.length = n := by have := h.1; rw [row5_len] at this; omega
  rcases h.2 with ⟨_, h0⟩ | ⟨g, cap, cur, rfl, hb, hh, hn, hm, hs, ht⟩
  · omega
  · unfold maxLen at hm
    refine ⟨g, cap, rfl, hb, (Array.getElem?_eq_some_iff.1 hh).1, hn, by omega, hle, fun i j hi hj => ?_⟩
    rw [World.ownsRow.cellAt h' (i * 5 + j) (by omega), row5_at l i j (by omega) hj]

section
variable {w : World} {base a mb : Nat} {g : Option Nat} {s : Nt} {es : List ((Int × Int) × Bool)}
def isNode (s : Nt) (x : Int) : Bool := decide (0 ≤ x) && decide (x < s.nodes)
set_option maxHeartbeats 400000 in
theorem node_any (h : IsNet w base a mb g s es) (x : Int) :
    Calls Try.prog 25 #[.pointer (some ⟨a, 0, none⟩), .int .i64 x] w fun e w' => e = .returned (.bool (isNode s x)) ∧ w = w' := by
  obtain ⟨⟨v, ps, h1, h2, h3, h4⟩, _⟩ := h
  have hc0 : w.cell? ⟨a, 0, none⟩ = some (.int .i64 s.nodes) := by rw [cell_heap h1]; rfl
  clear h1 h2 h3 h4
  unfold isNode
  generalize s.nodes = n at *
  by_cases hx : 0 ≤ x
  · rw [decide_eq_true hx, Bool.true_and]
    go_enter Try.func25, Try.ntmps25
    go_wp2_with fail
    go_ret
    exact ⟨rfl, rfl⟩
  · have hd : decide (0 ≤ x) = false := decide_eq_false hx
    rw [hd, Bool.false_and]
    clear hx
    go_enter Try.func25, Try.ntmps25
    go_wp2_with fail
    go_ret
    exact ⟨rfl, rfl⟩
def hasN (s : Nt) (x : Int) : Bool := decide (0 ≤ x) && decide (x < (s.l.length : Int))
set_option maxHeartbeats 400000 in
theorem has_any (h : IsNet w base a mb g s es) (x : Int) :
    Calls Try.prog 28 #[.pointer (some ⟨a, 0, none⟩), .int .i64 x] w fun e w' => e = .returned (.bool (hasN s x)) ∧ w = w' := by
  obtain ⟨⟨v, ps, h1, h2, h3, h4⟩, _⟩ := h
  have hc0 : w.cell? ⟨a, 2, none⟩ = some v := by rw [cell_heap h1]; rfl
  obtain ⟨ao, cap, rfl, _, _⟩ := row_shape h2
  clear h1 h2 h3 h4
  unfold hasN
  generalize s.l.length = n at *
  by_cases hx : 0 ≤ x
  · rw [decide_eq_true hx, Bool.true_and]
    go_enter Try.func28, Try.ntmps28
    go_wp2_with fail
    go_ret
    exact ⟨rfl, rfl⟩
  · have hd : decide (0 ≤ x) = false := decide_eq_false hx
    rw [hd, Bool.false_and]
    clear hx
    go_enter Try.func28, Try.ntmps28
    go_wp2_with fail
    go_ret
    exact ⟨rfl, rfl⟩
set_option maxHeartbeats 400000 in
theorem len_any (h : IsNet w base a mb g s es) :
    Calls Try.prog 16 #[.pointer (some ⟨a, 0, none⟩)] w fun e w' => e = .returned (.int .i64 (s.l.length : Int)) ∧ w = w' := by
  obtain ⟨⟨v, ps, h1, h2, h3, h4⟩, _⟩ := h
  have hc0 : w.cell? ⟨a, 2, none⟩ = some v := by rw [cell_heap h1]; rfl
  obtain ⟨ao, cap, rfl, _, _⟩ := row_shape h2
  clear h1 h2 h3 h4
  generalize s.l.length = n at *
  go_enter Try.func16, Try.ntmps16
  go_wp2_with fail
  go_ret
  exact ⟨rfl, rfl⟩
end
def newN (nodes room : Int) : Nt := ⟨nodes, room, []⟩
set_option maxHeartbeats 400000 in
theorem new_ok (base : Nat) (nodes room : Int) (w : World) (h1 : 1 ≤ nodes) (h2 : nodes ≤ 64) (h3 : 1 ≤ room) (h4 : room ≤ 65536) (hb : base ≤ w.heap.size) :
    Calls Try.prog 9 #[.int .i64 nodes, .int .i64 room] w fun e w' => ∃ a mb, e = .returned (.tuple #[.pointer (some ⟨a, 0, none⟩), .int .i64 0]) ∧ IsNet w' base a mb none (newN nodes room) [] ∧ Below w.heap.size w w' ∧ a ≠ mb := by
  have hmm := @run_makeMap Try.prog
  go_enter Try.func9, Try.ntmps9
  go_wp2_with fail
  go_ret2
  refine ⟨(w.alloc (.map #[] 0)).heap.size, w.heap.size, by simp,  ⟨⟨.slice none 0 0, [], ?_, World.ownsRow_nil _ _ _ _, rfl, ⟨rfl, (by simp), (by simp)⟩⟩, ?_, by simp; omega, hb⟩, ((Below.refl _ _).alloc (Nat.le_refl _) _).alloc (by simp) _, by simp⟩
  · exact heap_new (w.alloc (.map #[] 0)) (.cells #[.int .i64 nodes, .int .i64 room, .slice none 0 0, .map (some w.heap.size)] 60)
  · exact (IsCut.new w).only ((Only.refl [] _).alloc _) (by simp)
end Go.Proofs.Ytmehgkbhpfcmpaa.G
