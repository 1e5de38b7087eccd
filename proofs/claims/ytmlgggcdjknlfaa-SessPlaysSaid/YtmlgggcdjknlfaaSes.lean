/-
  Sessions in memory; those that only ask.
-/
import Derived.Test.YtmlgggcdjknlfaaRows
import Derived.Test.YtmlgggcdjknlfaaKit
import Derived.Test.YtmlgggcdjknlfaaOnly
import Derived.Test.YtmlgggcdjknlfaaKitI
import Derived.Test.YtmlgggcdjknlfaaQuiet
import Derived.Deep.AppendLies
import Derived.Deep.RegionWith
import Derived.Deep.LoopGhost
namespace Go.Proofs.Ytmlgggcdjknlfaa
open Go.RowKit

/-- a session -/
structure Se where
  id : Int
  span : Int
  till : Int
/-- sessions -/
structure Ss where
  room : Int
  now : Int
  next : Int
  l : List Se

def cells3 (s : Se) : List Value := [.int .i64 s.id, .int .i64 s.span, .int .i64 s.till]
def row3 (l : List Se) : List Value := l.flatMap cells3
theorem row3_len (l : List Se) : (row3 l).length = l.length * 3 := by
  induction l with
  | nil => rfl
  | cons s l ih => simp only [row3, List.flatMap_cons, List.length_append, List.length_cons] at ih ⊢; rw [ih]; simp [cells3]; omega
theorem row3_append (l m : List Se) : row3 (l ++ m) = row3 l ++ row3 m := by simp [row3]
theorem row3_at (l : List Se) (i j : Nat) (hi : i < l.length) (hj : j < 3) : (row3 l)[i * 3 + j]? = (cells3 (l.getD i ⟨0, 0, 0⟩))[j]? := by
  induction l generalizing i with
  | nil => simp at hi
  | cons s l ih =>
    cases i with
    | zero =>
      rw [show row3 (s :: l) = cells3 s ++ row3 l from rfl, List.getElem?_append_left (by simp [cells3]; omega)]
      simp
    | succ i =>
      rw [show row3 (s :: l) = cells3 s ++ row3 l from rfl, List.getElem?_append_right (by simp [cells3]; omega)]
      have := ih i (by simpa using hi)
      rw [show (i + 1) * 3 + j - (cells3 s).length = i * 3 + j by simp [cells3]; omega, this]
      simp

/-- behind the pointer to block a lie sessions; their row lies in block g, or is nil; all from block base on -/
structure IsSess (w : World) (base a : Nat) (g : Option Nat) (s : Ss) : Prop where
  row : ∃ v, w.heap[a]? = some (.cells #[.int .i64 s.room, .int .i64 s.now, .int .i64 s.next, v] 52 (0, 0)) ∧ w.ownsRow base 54 3 v s.l.length (row3 s.l) ∧ v.ownBlock = g
  ge : base ≤ a
  ne : g ≠ some a

theorem IsSess.lt {w : World} {base a : Nat} {g : Option Nat} {s : Ss} (h : IsSess w base a g s) : a < w.heap.size := by
  obtain ⟨⟨v, h1, _, _⟩, _, _⟩ := h
  exact lt_of_heap h1
theorem IsSess.glt {w : World} {base a : Nat} {g : Option Nat} {s : Ss} (h : IsSess w base a g s) : ∀ k, g = some k → base ≤ k ∧ k < w.heap.size := by
  obtain ⟨⟨v, _, h2, h3⟩, _, _⟩ := h
  subst h3
  exact h2.lt
theorem rows_only {w w' : World} {base : Nat} {e : TypeId} {k : Nat} {v : Value} {n : Nat} {xs : List Value} {S : List Nat} (h : w.ownsRow base e k v n xs) (ho : Only S w w') (hs : ∀ b, v.ownBlock = some b → b ∉ S) : w'.ownsRow base e k v n xs := by
  refine ⟨h.1, ?_⟩
  rcases h.2 with h2 | ⟨g, cap, cur, rfl, hg, hh, r⟩
  · exact .inl h2
  · exact .inr ⟨g, cap, cur, rfl, hg, ho.keeps hh (hs g rfl), r⟩
theorem rows_heap {w w' : World} {base : Nat} {e : TypeId} {k : Nat} {v : Value} {n : Nat} {xs : List Value} (h : w.ownsRow base e k v n xs) (hw : w'.heap = w.heap) : w'.ownsRow base e k v n xs := by
  refine ⟨h.1, ?_⟩
  rcases h.2 with h2 | ⟨g, cap, cur, rfl, hg, hh, r⟩
  · exact .inl h2
  · exact .inr ⟨g, cap, cur, rfl, hg, by rw [hw]; exact hh, r⟩
theorem IsSess.keep {w w' : World} {base a : Nat} {g : Option Nat} {s : Ss} (h : IsSess w base a g s) {S : List Nat} (ho : Only S w w') (ha : a ∉ S) (hg : ∀ b, g = some b → b ∉ S) : IsSess w' base a g s := by
  obtain ⟨⟨v, h1, h2, h3⟩, h4, h5⟩ := h
  exact ⟨⟨v, ho.keeps h1 ha, rows_only h2 ho (by rw [h3]; exact hg), h3⟩, h4, h5⟩
theorem IsSess.below {w w' : World} {base a : Nat} {g : Option Nat} {s : Ss} (h : IsSess w base a g s) (hb : Below w.heap.size w w') : IsSess w' base a g s :=
  h.keep (Only.ofBelow hb []) (by simp) (fun b _ => by simp)
theorem IsSess.heap {w w' : World} {base a : Nat} {g : Option Nat} {s : Ss} (h : IsSess w base a g s) (hw : w'.heap = w.heap) : IsSess w' base a g s := by
  obtain ⟨⟨v, h1, h2, h3⟩, h4, h5⟩ := h
  refine ⟨⟨v, by rw [hw]; exact h1, ⟨h2.1, ?_⟩, h3⟩, h4, h5⟩
  rcases h2.2 with h6 | ⟨k, cap, cur, hv, hg, hh, r⟩
  · exact .inl h6
  · exact .inr ⟨k, cap, cur, hv, hg, by rw [hw]; exact hh, r⟩

/-- what the row's cells read -/
theorem row_cell {w : World} {base : Nat} {v : Value} {l : List Se} (h : w.ownsRow base 54 3 v l.length (row3 l)) (hl : 0 < l.length) :
    ∃ g cap, v = .slice (some ⟨g, 0, none⟩) l.length cap ∧ base ≤ g ∧ g < w.heap.size ∧ l.length ≤ cap ∧ cap ≤ 9223372036854775807 ∧
      ∀ i j, i < l.length → j < 3 → w.cell? ⟨g, i * 3 + j, none⟩ = (cells3 (l.getD i ⟨0, 0, 0⟩))[j]? := by
  have h' := h
  rcases h.2 with ⟨_, h0⟩ | ⟨g, cap, cur, rfl, hb, hh, hn, hm, hs, ht⟩
  · omega
  · unfold maxLen at hm
    refine ⟨g, cap, rfl, hb, (Array.getElem?_eq_some_iff.1 hh).1, hn, by omega, fun i j hi hj => ?_⟩
    rw [World.ownsRow.cellAt h' (i * 3 + j) (by omega), row3_at l i j hi hj]
theorem row_shape {w : World} {base : Nat} {v : Value} {n : Nat} {xs : List Value} (h : w.ownsRow base 54 3 v n xs) : ∃ ao cap, v = .slice ao n cap ∧ n ≤ cap ∧ cap ≤ 9223372036854775807 := by
  rcases h.2 with ⟨rfl, h0⟩ | ⟨g, cap, cur, rfl, hb, hh, hn, hm, hs, ht⟩
  · exact ⟨none, 0, by rw [h0], by omega, by decide⟩
  · unfold maxLen at hm
    exact ⟨_, cap, rfl, hn, by omega⟩

set_option maxHeartbeats 400000 in
/-- the question that find asks of each -/
theorem is_any (x y z q : Int) (c : Nat) (w : World) (hc : w.cell? ⟨c, 0, none⟩ = some (.int .i64 q)) :
    Calls Try.prog 41 #[.agg #[.int .i64 x, .int .i64 y, .int .i64 z], .pointer (some ⟨c, 0, none⟩)] w fun e w' => e = .returned (.bool (x == q)) ∧ Below w.heap.size w w' := by
  have hcl := World.block_lt_of_cell? w _ hc
  have hc2 : (w.alloc (.cells #[.int .i64 x, .int .i64 y, .int .i64 z] 54)).cell? ⟨c, 0, none⟩ = some (.int .i64 q) := cell_later ((Below.refl _ _).alloc (Nat.le_refl _) _) hc
  go_enter Try.func41, Try.ntmps41
  go_wp2_with fail
  go_ret
  exact ⟨rfl, (Below.refl _ _).alloc (Nat.le_refl _) _⟩

def isId (q : Int) (s : Se) : Bool := s.id == q
/-- where a session is; -1: nowhere -/
def findS (l : List Se) (q : Int) : Int := if l.findIdx (isId q) < l.length then (l.findIdx (isId q) : Int) else -1
theorem find_here (l : List Se) (q : Int) (k : Nat) (hk : k < l.length) (hno : ∀ j, j < k → ((l.getD j ⟨0, 0, 0⟩).id == q) = false) (hyes : ((l.getD k ⟨0, 0, 0⟩).id == q) = true) : findS l q = (k : Int) := by
  have h : l.findIdx (isId q) = k := by
    rw [List.findIdx_eq hk]
    constructor
    · simpa [isId, hk] using hyes
    · intro j hj
      have := hno j hj
      simpa [isId, show j < l.length by omega] using this
  unfold findS
  rw [h, if_pos hk]
theorem find_none (l : List Se) (q : Int) (hno : ∀ j, j < l.length → ((l.getD j ⟨0, 0, 0⟩).id == q) = false) : findS l q = -1 := by
  have h : l.findIdx (isId q) = l.length := by
    rw [List.findIdx_eq_length]
    intro s hs
    obtain ⟨j, hj, rfl⟩ := List.getElem_of_mem hs
    have := hno j hj
    simpa [isId, hj] using this
  unfold findS
  rw [h, if_neg (Nat.lt_irrefl _)]

set_option maxHeartbeats 1000000 in
theorem indexfunc_any (base : Nat) (v : Value) (l : List Se) (q : Int) (c : Nat) (w : World) (h : w.ownsRow base 54 3 v l.length (row3 l)) (hc : w.cell? ⟨c, 0, none⟩ = some (.int .i64 q)) (hl : l.length ≤ 1000000) :
    Calls Try.prog 40 #[v, .func (.func 41) #[] #[.pointer (some ⟨c, 0, none⟩)]] w fun e w' => e = .returned (.int .i64 (findS l q)) ∧ Below w.heap.size w w' := by
  have hrow := fun h0 => row_cell h h0
  obtain ⟨ao, cap, rfl, hcap, _⟩ := row_shape h
  generalize hn : l.length = n at *
  have HN := Lib.hid hn; clear hn
  have HR := Lib.hid hrow; clear hrow h
  have HC := Lib.hid hc; clear hc
  go_enter Try.func40, Try.ntmps40
  go_wp2_with fail
  go_loopw [8] (fun i wr => ∃ k : Nat, k ≤ n ∧ i = .int .i64 (k : Int) ∧ (∀ j, j < k → ((l.getD j ⟨0, 0, 0⟩).id == q) = false) ∧ Below w.heap.size w wr) (fun i _ => n - (intOf i).toNat)
  case atStart => exact ⟨0, by omega, rfl, fun j hj => by omega, Below.refl _ _⟩
  case round =>
    obtain ⟨k, hk, rfl, hno, hbl⟩ := hrel
    have HNO := Lib.hid hno; clear hno
    by_cases hlt : k < n
    · obtain ⟨g, cap2, he, _, _, _, _, hcell⟩ := HR.out (by omega)
      obtain ⟨rfl, rfl⟩ : ao = some ⟨g, 0, none⟩ ∧ cap = cap2 := by
        simp only [Value.slice.injEq] at he
        exact ⟨he.1, he.2.2⟩
      have c0 := cell_later hbl (show w.cell? ⟨g, k * 3, none⟩ = some (.int .i64 (l.getD k ⟨0, 0, 0⟩).id) from hcell k 0 hlt (by decide))
      have c1 := cell_later hbl (show w.cell? ⟨g, k * 3 + 1, none⟩ = some (.int .i64 (l.getD k ⟨0, 0, 0⟩).span) from hcell k 1 hlt (by decide))
      have c2 := cell_later hbl (show w.cell? ⟨g, k * 3 + 2, none⟩ = some (.int .i64 (l.getD k ⟨0, 0, 0⟩).till) from hcell k 2 hlt (by decide))
      have hq := cell_later hbl HC.out
      generalize hs : l.getD k ⟨0, 0, 0⟩ = s at c0 c1 c2
      obtain ⟨x, y, z⟩ := s
      simp only at c0 c1 c2
      have HS := Lib.hid hs; clear hs
      clear hcell he
      have HQ := Lib.hid hq; clear hq
      go_wp2_with fail
      refine (is_any x y z q c _ HQ.out).mono ?_
      rintro e w1 ⟨rfl, hb1⟩
      have hB1 := hbl.trans (hb1.mono hbl.size)
      by_cases hxq : (x == q) = true
      · have HF := Lib.hid (find_here l q k (by rw [HN.out]; exact hlt) HNO.out (by rw [HS.out]; exact hxq))
        clear hb1 hbl
        go_wp2_with fail
        go_ret
        exact ⟨by rw [HF.out]; rfl, hB1⟩
      · replace hxq : (x == q) = false := by simpa using hxq
        have HX := Lib.hid hxq
        clear hb1 hbl
        go_wp2_with fail
        go_roundw
        case rel =>
          refine ⟨k + 1, by omega, by go_num, fun j hj => ?_, hB1⟩
          by_cases hjk : j = k
          · subst hjk; rw [HS.out]; exact HX.out
          · exact HNO.out j (by omega)
        case measure => simp [intOf]; omega
    · obtain rfl : k = n := by omega
      have HF := Lib.hid (find_none l q (by rw [HN.out]; exact HNO.out))
      go_wp2_with fail
      go_ret
      exact ⟨by rw [HF.out]; rfl, hbl⟩

set_option maxHeartbeats 1000000 in
theorem find_any (base a : Nat) (g : Option Nat) (s : Ss) (q : Int) (w : World) (h : IsSess w base a g s) (hl : s.l.length ≤ 1000000) :
    Calls Try.prog 30 #[.pointer (some ⟨a, 0, none⟩), .int .i64 q] w fun e w' => e = .returned (.int .i64 (findS s.l q)) ∧ Below w.heap.size w w' := by
  obtain ⟨⟨v, h1, h2, h3⟩, _, _⟩ := h
  have hb1 : Below w.heap.size w (w.alloc (.cells #[.int .i64 q] 2)) := (Below.refl _ _).alloc (Nat.le_refl _) _
  have hc3 : (w.alloc (.cells #[.int .i64 q] 2)).cell? ⟨a, 3, none⟩ = some v := cell_later hb1 (by rw [cell_heap h1]; rfl)
  have hq : (w.alloc (.cells #[.int .i64 q] 2)).cell? ⟨w.heap.size, 0, none⟩ = some (.int .i64 q) := by rw [World.cell?_alloc_mark]; rfl
  have h2' := rows_only h2 (Only.ofBelow hb1 []) (by simp)
  obtain ⟨ao, cap, rfl, _, _⟩ := row_shape h2
  have H2 := Lib.hid h2'; clear h2 h2' h1 h3
  have HQ := Lib.hid hq; clear hq
  go_enter Try.func30, Try.ntmps30
  go_wp2_with fail
  refine (indexfunc_any base _ s.l q w.heap.size _ H2.out HQ.out hl).mono ?_
  rintro e w1 ⟨rfl, hb⟩
  have hB := hb1.trans (hb.mono (by simp))
  clear hb hb1
  go_wp2_with fail
  go_ret
  exact ⟨rfl, hB⟩

set_option maxHeartbeats 400000 in
theorem live_any (base a : Nat) (g : Option Nat) (s : Ss) (q : Int) (w : World) (h : IsSess w base a g s) (hl : s.l.length ≤ 1000000) :
    Calls Try.prog 14 #[.pointer (some ⟨a, 0, none⟩), .int .i64 q] w fun e w' => e = .returned (.bool (decide (0 ≤ findS s.l q))) ∧ Below w.heap.size w w' := by
  go_enter Try.func14, Try.ntmps14
  go_wp2_with fail
  refine (find_any base a g s q w h hl).mono ?_
  rintro e w1 ⟨rfl, hb⟩
  generalize hz : findS s.l q = z
  have HZ := Lib.hid hz; clear hz
  go_wp2_with fail
  go_ret
  exact ⟨by rw [HZ.out]; rfl, hb⟩

set_option maxHeartbeats 400000 in
theorem now_any (base a : Nat) (g : Option Nat) (s : Ss) (w : World) (h : IsSess w base a g s) :
    Calls Try.prog 25 #[.pointer (some ⟨a, 0, none⟩)] w fun e w' => e = .returned (.int .i64 s.now) ∧ w = w' := by
  obtain ⟨⟨v, h1, h2, h3⟩, _, _⟩ := h
  have hc : w.cell? ⟨a, 1, none⟩ = some (.int .i64 s.now) := by rw [cell_heap h1]; rfl
  clear h1 h2 h3
  generalize s.now = z at *
  go_enter Try.func25, Try.ntmps25
  go_wp2_with fail
  go_ret
  exact ⟨rfl, rfl⟩

/-- new ones -/
def newS (room : Int) : Ss := ⟨room, 0, 1, []⟩
set_option maxHeartbeats 400000 in
theorem new_ok (base : Nat) (room : Int) (w : World) (h1 : 1 ≤ room) (h2 : room ≤ 64) (hb : base ≤ w.heap.size) :
    Calls Try.prog 10 #[.int .i64 room] w fun e w' => e = .returned (.tuple #[.pointer (some ⟨w.heap.size, 0, none⟩), .int .i64 0]) ∧ IsSess w' base w.heap.size none (newS room) ∧ Below w.heap.size w w' ∧ w'.heap.size = w.heap.size + 1 := by
  go_enter Try.func10, Try.ntmps10
  go_wp2_with fail
  go_ret2
  refine ⟨rfl, ⟨⟨.slice none 0 0, heap_new _ _, World.ownsRow_nil _ _ _ _, rfl⟩, hb, by simp⟩, (Below.refl _ _).alloc (Nat.le_refl _) _, by simp⟩
set_option maxHeartbeats 400000 in
theorem new_bad (room : Int) (w : World) (h1 : room < 1 ∨ 64 < room) (h3 : -9223372036854775808 ≤ room) (h4 : room ≤ 9223372036854775807) :
    Calls Try.prog 10 #[.int .i64 room] w fun e w' => e = .returned (.tuple #[.pointer none, .int .i64 1]) ∧ w = w' := by
  by_cases h2 : room < 1
  · clear h1
    go_enter Try.func10, Try.ntmps10
    go_wp2_with fail
    go_ret2
    exact ⟨rfl, rfl⟩
  · have h5 : 64 < room := by omega
    clear h1
    go_enter Try.func10, Try.ntmps10
    go_wp2_with fail
    go_ret2
    exact ⟨rfl, rfl⟩
end Go.Proofs.Ytmlgggcdjknlfaa
