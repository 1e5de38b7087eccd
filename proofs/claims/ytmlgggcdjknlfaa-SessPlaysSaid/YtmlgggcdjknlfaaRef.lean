/-
  The document's sessions in memory; where one is; who lives; all.
-/
import Derived.Test.YtmlgggcdjknlfaaFit
namespace Go.Proofs.Ytmlgggcdjknlfaa
open Go.RowKit

/-- behind the pointer to block a lie sessions; their row lies in block g, or is nil; all from block base on -/
structure IsRef (w : World) (base a : Nat) (g : Option Nat) (s : Ss) : Prop where
  row : ∃ v, w.heap[a]? = some (.cells #[.int .i64 s.room, .int .i64 s.now, .int .i64 s.next, v] 47 (0, 0)) ∧ w.ownsRow base 64 3 v s.l.length (row3 s.l) ∧ v.ownBlock = g
  ge : base ≤ a
  ne : g ≠ some a

theorem IsRef.lt {w : World} {base a : Nat} {g : Option Nat} {s : Ss} (h : IsRef w base a g s) : a < w.heap.size := by
  obtain ⟨⟨v, h1, _, _⟩, _, _⟩ := h
  exact lt_of_heap h1
theorem IsRef.glt {w : World} {base a : Nat} {g : Option Nat} {s : Ss} (h : IsRef w base a g s) : ∀ k, g = some k → base ≤ k ∧ k < w.heap.size := by
  obtain ⟨⟨v, _, h2, h3⟩, _, _⟩ := h
  subst h3
  exact h2.lt
theorem IsRef.keep {w w' : World} {base a : Nat} {g : Option Nat} {s : Ss} (h : IsRef w base a g s) {S : List Nat} (ho : Only S w w') (ha : a ∉ S) (hg : ∀ b, g = some b → b ∉ S) : IsRef w' base a g s := by
  obtain ⟨⟨v, h1, h2, h3⟩, h4, h5⟩ := h
  exact ⟨⟨v, ho.keeps h1 ha, rows_only h2 ho (by rw [h3]; exact hg), h3⟩, h4, h5⟩
theorem IsRef.below {w w' : World} {base a : Nat} {g : Option Nat} {s : Ss} (h : IsRef w base a g s) (hb : Below w.heap.size w w') : IsRef w' base a g s :=
  h.keep (Only.ofBelow hb []) (by simp) (fun b _ => by simp)
theorem IsRef.heap {w w' : World} {base a : Nat} {g : Option Nat} {s : Ss} (h : IsRef w base a g s) (hw : w'.heap = w.heap) : IsRef w' base a g s := by
  obtain ⟨⟨v, h1, h2, h3⟩, h4, h5⟩ := h
  refine ⟨⟨v, by rw [hw]; exact h1, ⟨h2.1, ?_⟩, h3⟩, h4, h5⟩
  rcases h2.2 with h6 | ⟨k, cap, cur, hv, hg, hh, r⟩
  · exact .inl h6
  · exact .inr ⟨k, cap, cur, hv, hg, by rw [hw]; exact hh, r⟩

/-- what the row's cells read -/
theorem rrow_cell {w : World} {base : Nat} {v : Value} {l : List Se} (h : w.ownsRow base 64 3 v l.length (row3 l)) (hl : 0 < l.length) :
    ∃ g cap, v = .slice (some ⟨g, 0, none⟩) l.length cap ∧ base ≤ g ∧ g < w.heap.size ∧ l.length ≤ cap ∧ cap ≤ 9223372036854775807 ∧
      ∀ i j, i < l.length → j < 3 → w.cell? ⟨g, i * 3 + j, none⟩ = (cells3 (l.getD i ⟨0, 0, 0⟩))[j]? := by
  have h' := h
  rcases h.2 with ⟨_, h0⟩ | ⟨g, cap, cur, rfl, hb, hh, hn, hm, hs, ht⟩
  · omega
  · unfold maxLen at hm
    refine ⟨g, cap, rfl, hb, (Array.getElem?_eq_some_iff.1 hh).1, hn, by omega, fun i j hi hj => ?_⟩
    rw [World.ownsRow.cellAt h' (i * 3 + j) (by omega), row3_at l i j hi hj]
theorem rrow_shape {w : World} {base : Nat} {v : Value} {n : Nat} {xs : List Value} (h : w.ownsRow base 64 3 v n xs) : ∃ ao cap, v = .slice ao n cap ∧ n ≤ cap ∧ cap ≤ 9223372036854775807 := by
  rcases h.2 with ⟨rfl, h0⟩ | ⟨g, cap, cur, rfl, hb, hh, hn, hm, hs, ht⟩
  · exact ⟨none, 0, by rw [h0], by omega, by decide⟩
  · unfold maxLen at hm
    exact ⟨_, cap, rfl, hn, by omega⟩


set_option maxHeartbeats 1000000 in
theorem at_any (base a : Nat) (g : Option Nat) (s : Ss) (q : Int) (w : World) (h : IsRef w base a g s) (hl : s.l.length ≤ 1000000) :
    Calls Try.prog 38 #[.pointer (some ⟨a, 0, none⟩), .int .i64 q] w fun e w' => e = .returned (.int .i64 (findS s.l q)) ∧ w = w' := by
  obtain ⟨⟨v, h1, h2, h3⟩, _, _⟩ := h
  have hc3 : w.cell? ⟨a, 3, none⟩ = some v := by rw [cell_heap h1]; rfl
  have hrow := fun h0 => rrow_cell h2 h0
  obtain ⟨ao, cap, rfl, hcap, _⟩ := rrow_shape h2
  generalize s.l = l at *
  generalize hn : l.length = n at *
  have HN := Lib.hid hn; clear hn
  have HR := Lib.hid hrow; clear hrow h1 h2 h3
  go_enter Try.func38, Try.ntmps38
  go_wp2_with fail
  go_loopw [5] (fun i wr => ∃ k : Nat, k ≤ n ∧ i = .int .i64 (k : Int) ∧ (∀ j, j < k → ((l.getD j ⟨0, 0, 0⟩).id == q) = false) ∧ w = wr) (fun i _ => n - (intOf i).toNat)
  case atStart => exact ⟨0, by omega, rfl, fun j hj => by omega, rfl⟩
  case round =>
    obtain ⟨k, hk, rfl, hno, rfl⟩ := hrel
    have HNO := Lib.hid hno; clear hno
    by_cases hlt : k < n
    · obtain ⟨g, cap2, he, _, _, _, _, hcell⟩ := HR.out (by omega)
      obtain ⟨rfl, rfl⟩ : ao = some ⟨g, 0, none⟩ ∧ cap = cap2 := by
        simp only [Value.slice.injEq] at he
        exact ⟨he.1, he.2.2⟩
      have c0 : w.cell? ⟨g, k * 3, none⟩ = some (.int .i64 (l.getD k ⟨0, 0, 0⟩).id) := hcell k 0 hlt (by decide)
      generalize hs : l.getD k ⟨0, 0, 0⟩ = x at c0
      obtain ⟨x, y, z⟩ := x
      simp only at c0
      have HS := Lib.hid hs; clear hs
      clear hcell he
      by_cases hxq : (x == q) = true
      · have HF := Lib.hid (find_here l q k (by rw [HN.out]; exact hlt) HNO.out (by rw [HS.out]; exact hxq))
        go_wp2_with fail
        go_ret
        exact ⟨by rw [HF.out]; rfl, rfl⟩
      · replace hxq : (x == q) = false := by simpa using hxq
        have HX := Lib.hid hxq
        go_wp2_with fail
        go_roundw
        case rel =>
          refine ⟨k + 1, by omega, by go_num, fun j hj => ?_, (by first | rfl | trivial)⟩
          by_cases hjk : j = k
          · subst hjk; rw [HS.out]; exact HX.out
          · exact HNO.out j (by omega)
        case measure => simp [intOf]; omega
    · obtain rfl : k = n := by omega
      have HF := Lib.hid (find_none l q (by rw [HN.out]; exact HNO.out))
      go_wp2_with fail
      go_ret
      exact ⟨by rw [HF.out]; rfl, rfl⟩

set_option maxHeartbeats 400000 in
theorem rlive_any (base a : Nat) (g : Option Nat) (s : Ss) (q : Int) (w : World) (h : IsRef w base a g s) (hl : s.l.length ≤ 1000000) :
    Calls Try.prog 26 #[.pointer (some ⟨a, 0, none⟩), .int .i64 q] w fun e w' => e = .returned (.bool (decide (0 ≤ findS s.l q))) ∧ w = w' := by
  go_enter Try.func26, Try.ntmps26
  go_wp2_with fail
  refine (at_any base a g s q w h hl).mono ?_
  rintro e w1 ⟨rfl, rfl⟩
  generalize hz : findS s.l q = z
  have HZ := Lib.hid hz; clear hz
  go_wp2_with fail
  go_ret
  exact ⟨by rw [HZ.out]; rfl, rfl⟩

set_option maxHeartbeats 1000000 in
theorem rall_any (base a : Nat) (g : Option Nat) (s : Ss) (w : World) (h : IsRef w base a g s) (hl : s.l.length ≤ 1000000) :
    Calls Try.prog 24 #[.pointer (some ⟨a, 0, none⟩)] w fun e w' => ∃ v, e = .returned v ∧ OwnI w' w.heap.size 2 v (s.l.map Se.id) ∧ Below w.heap.size w w' := by
  obtain ⟨⟨v, h1, h2, h3⟩, _, _⟩ := h
  have hc3 : w.cell? ⟨a, 3, none⟩ = some v := by rw [cell_heap h1]; rfl
  have hrow := fun h0 => rrow_cell h2 h0
  obtain ⟨ao, cap, rfl, hcap, _⟩ := rrow_shape h2
  generalize hm : s.l = l at *
  generalize hn : l.length = n at *
  have HN := Lib.hid hn; clear hn
  have HR := Lib.hid hrow; clear hrow h1 h2 h3
  have HC3 := Lib.hid hc3; clear hc3
  go_enter Try.func24, Try.ntmps24
  go_wp2_with fail
  go_loopw [3, 4] (fun v i wr => ∃ k : Nat, k ≤ n ∧ i = .int .i64 (k : Int) ∧ OwnI wr w.heap.size 2 v ((l.take k).map Se.id) ∧ Below w.heap.size w wr) (fun _ i _ => n - (intOf i).toNat)
  case atStart => exact ⟨0, by omega, rfl, OwnI.nil _ _ _, Below.refl _ _⟩
  case round =>
    obtain ⟨k, hk, rfl, hown, hbl⟩ := hrel
    have HB := Lib.hid hbl
    have hc3 := cell_later hbl HC3.out
    by_cases hlt : k < n
    · obtain ⟨g, cap2, he, _, _, _, _, hcell⟩ := HR.out (by omega)
      obtain ⟨rfl, rfl⟩ : ao = some ⟨g, 0, none⟩ ∧ cap = cap2 := by
        simp only [Value.slice.injEq] at he
        exact ⟨he.1, he.2.2⟩
      have c0 := cell_later hbl (show w.cell? ⟨g, k * 3, none⟩ = some (.int .i64 (l.getD k ⟨0, 0, 0⟩).id) from hcell k 0 hlt (by decide))
      have htk : (l.take (k + 1)).map Se.id = (l.take k).map Se.id ++ [(l.getD k ⟨0, 0, 0⟩).id] := by
        rw [take_next l k (by rw [HN.out]; exact hlt), List.map_append]; rfl
      have htl : ((l.take k).map Se.id).length = k := by rw [List.length_map, List.length_take, HN.out]; omega
      have HTK := Lib.hid htk
      obtain ⟨ao', c', rfl, _⟩ := OwnI.isI hown
      generalize (l.take k).map Se.id = m at *
      generalize hs : l.getD k ⟨0, 0, 0⟩ = s at *
      obtain ⟨x, y, z⟩ := s
      simp only at c0
      have HOWN := Lib.hid hown
      subst htl
      have hml : m.length ≤ 1000000 := by omega
      have hsz := hbl.size
      clear hcell he hs hown htk hbl
      go_wp2_with (at_builtin; go_loud (refine wpList_append_ints rfl _ _ 22 rfl w.heap.size 2 Try.underlying22 info2 _ m rfl (HOWN.out.alloc _) _ _ _ [x] rfl (isI_new _ [x] _ (by rfl) _ _ (wr.heap.size) (by simp) 1 rfl _) (by simp; omega) (by simp; omega) ?_; intro v3 w3 hown3 hgr3 hb3; obtain ⟨ao3, c3, rfl, _⟩ := OwnI.isI hown3; have HGR := Lib.hid hgr3; have HB3 := Lib.hid hb3; have HW := Lib.hid hown3; clear hgr3 hb3 hown3))
      go_roundw
      case rel =>
        refine ⟨m.length + 1, by omega, by go_num, ?_, ?_⟩
        · rw [HTK.out, show m.length + 1 = (m ++ [x]).length by simp]
          exact HW.out
        · exact ((HB.out).alloc hsz _).trans HB3.out
      case measure => simp [intOf]; omega
    · obtain rfl : k = n := by omega
      rw [List.take_of_length_le (by rw [HN.out]; exact Nat.le_refl _)] at hown
      obtain ⟨ao', c', rfl, _⟩ := OwnI.isI hown
      have HOWN := Lib.hid hown
      clear hown
      go_wp2_with fail
      go_ret
      exact ⟨_, rfl, HOWN.out, hbl⟩
end Go.Proofs.Ytmlgggcdjknlfaa
