/-
  The document's sessions are closed.
-/
import Derived.Test.YtmlgggcdjknlfaaRefO
import Derived.Test.YtmlgggcdjknlfaaClose
namespace Go.Proofs.Ytmlgggcdjknlfaa
open Go.RowKit

theorem src_take {w : World} {b m : Nat} {l : List Se} (hcell : ∀ j u, (row3 l)[j]? = some u → w.cell? ⟨b, j, none⟩ = some u) (hm : m ≤ l.length) : Src w (some ⟨b, 0, none⟩) m (l.take m) := by
  refine ⟨by rw [List.length_take]; omega, .inr ⟨b, 0, rfl, fun j u hj => ?_⟩⟩
  rw [Nat.zero_add]
  refine hcell j u ?_
  have e : row3 l = row3 (l.take m) ++ row3 (l.drop m) := by rw [← row3_append, List.take_append_drop]
  rw [e, List.getElem?_append_left (List.getElem?_eq_some_iff.1 hj).1]
  exact hj
theorem src_drop {w : World} {b m : Nat} {l : List Se} (hcell : ∀ j u, (row3 l)[j]? = some u → w.cell? ⟨b, j, none⟩ = some u) (hm : m ≤ l.length) (off : Nat) (ho : off = m * 3) (n : Nat) (hn : n = l.length - m) : Src w (some ⟨b, off, none⟩) n (l.drop m) := by
  refine ⟨by rw [List.length_drop]; omega, .inr ⟨b, off, rfl, fun j u hj => ?_⟩⟩
  refine hcell _ u ?_
  have e : row3 l = row3 (l.take m) ++ row3 (l.drop m) := by rw [← row3_append, List.take_append_drop]
  have hln : (row3 (l.take m)).length = off := by rw [row3_len, List.length_take, ho]; omega
  rw [e, List.getElem?_append_right (by omega), show off + j - (row3 (l.take m)).length = j from by omega]
  exact hj
theorem new_row (W X : World) (hh : X.heap = (W.alloc (.cells #[] 64)).heap) (ho : X.os = W.os) (ht : X.tape = W.tape) (hp : X.output = W.output) :
    X.ownsRow W.heap.size 64 3 (.slice (some ⟨W.heap.size, 0, none⟩) 0 0) 0 (row3 []) ∧ Below W.heap.size W X := by
  have b1 : Below W.heap.size W (W.alloc (.cells #[] 64)) := (Below.refl _ _).alloc (Nat.le_refl _) _
  exact ⟨rows_heap (own_made W _ _ rfl (Nat.le_refl _)) hh, ho, ht, hp, by rw [hh]; exact b1.size, fun k hk => by rw [hh]; exact b1.block k hk⟩
set_option maxHeartbeats 8000000 in
set_option maxRecDepth 100000 in
theorem rclose_any (base a : Nat) (g : Option Nat) (s : Ss) (q : Int) (w : World) (h : IsRef w base a g s) (hl : s.l.length ≤ 1000) (hbs : base ≤ w.heap.size) :
    Calls Try.prog 22 #[.pointer (some ⟨a, 0, none⟩), .int .i64 q] w fun e w' => e = .returned (.int .i64 (if findS s.l q < 0 then 11 else 0)) ∧ ∃ g', IsRef w' base a g' (closeS s q) ∧ Only [a] w w' ∧ (∀ j, g' = some j → g' = g ∨ w.heap.size ≤ j) := by
  have hflt := findS_lt s.l q
  have hfge := findS_ge s.l q
  by_cases hf : findS s.l q < 0
  · unfold closeS
    rw [if_pos hf, if_pos hf]
    have HH := Lib.hid h
    go_enter Try.func22, Try.ntmps22
    go_wp2_with fail
    refine (at_any base a g s q w HH.out (by omega)).mono ?_
    rintro e w1 ⟨rfl, rfl⟩
    generalize findS s.l q = z at *
    go_wp2_with fail
    go_ret
    exact ⟨rfl, g, HH.out, Only.refl _ _, fun j _ => .inl rfl⟩
  · unfold closeS
    rw [if_neg hf, if_neg hf]
    have HH := Lib.hid h
    have HFI := Lib.hid (at_any base a g s q w HH.out (by omega))
    have HLT := h.lt
    have HGE := h.ge
    obtain ⟨ao2, cap2, hc3, hcap2, hcn, _, hcells⟩ := h.src
    have hhA : ∃ vv, w.heap[a]? = some (.cells #[.int .i64 s.room, .int .i64 s.now, .int .i64 s.next, vv] 47 (0, 0)) := by
      obtain ⟨⟨v, k1, _, _⟩, _, _⟩ := h
      exact ⟨v, k1⟩
    clear h
    generalize findS s.l q = z at *
    obtain ⟨k, rfl⟩ := Int.eq_ofNat_of_zero_le (show 0 ≤ z by omega)
    have hkl : k < s.l.length := by omega
    obtain ⟨b, rfl, hcell⟩ := hcells (by omega)
    have HT := Lib.hid (src_take hcell (m := k) (by omega))
    have hD : ∃ off, (if cap2 = k + 1 then (some ⟨b, 0, none⟩ : Option Addr) else some ⟨b, (k + 1) * 3, none⟩) = some ⟨b, off, none⟩ ∧ Src w (some ⟨b, off, none⟩) (s.l.length - (k + 1)) (s.l.drop (k + 1)) := by
      by_cases hcc : cap2 = k + 1
      · refine ⟨0, by rw [if_pos hcc], by rw [List.length_drop], .inr ⟨b, 0, rfl, fun j u hj => ?_⟩⟩
        rw [List.drop_eq_nil_iff.2 (show s.l.length ≤ k + 1 by omega)] at hj
        cases hj
      · exact ⟨(k + 1) * 3, by rw [if_neg hcc], src_drop hcell (m := k + 1) (by omega) _ rfl _ rfl⟩
    obtain ⟨off, hoff, hD⟩ := hD
    have HD := Lib.hid hD; clear hD
    have HC3 := Lib.hid hc3; have HHA := Lib.hid hhA
    have HE := Lib.hid (new_row w)
    have e1 : s.l.eraseIdx k = s.l.take k ++ s.l.drop (k + 1) := List.eraseIdx_eq_take_drop_succ ..
    have HE1 := Lib.hid e1
    clear hcell hcells hflt hfge hf hhA e1 hcn
    rw [Int.toNat_natCast]
    obtain ⟨room, now, next, l⟩ := s
    simp only at *
    generalize hnn : l.length = n at *
    have HNN := Lib.hid hnn; clear hnn
    have w1 : IntKind.i64.wrap ((k : Int) + 1) = ((k + 1 : Nat) : Int) := IntWalk.i64_in _ (by omega)
    have g1 : k ≤ cap2 := by omega
    have g2 : k + 1 ≤ n := by omega
    have g3 : 0 ≤ (k : Int) + 1 ∧ (k : Int) + 1 ≤ (n : Int) := by omega
    have g4 : (0 ≤ (k : Int) + 1) = True := eq_true (by omega)
    have g5 : ((k : Int) + 1 ≤ (n : Int)) = True := eq_true (by omega)
    have d0 : decide ((k : Int) < 0) = false := decide_eq_false (by omega)
    go_enter Try.func22, Try.ntmps22
    go_wp2_with fail
    refine HFI.out.mono ?_
    rintro e w1 ⟨rfl, rfl⟩
    go_wp2_with fail
    go_region_law (first
      | (refine step_append_rows (by rfl) (.tmp 12) (.tmp 18) (by rfl) w.heap.size _ [] 0 rfl (by rfl) (by first | (refine (HE.out _ ?_ ?_ ?_ ?_).1 <;> rfl)) (some ⟨b, 0, none⟩) k cap2 _ (by rfl) (fun h => by cases h) (HT.out.below (by first | (refine (HE.out _ ?_ ?_ ?_ ?_).2 <;> rfl))) (by omega) (by first | (refine (HE.out _ ?_ ?_ ?_ ?_).2.size <;> rfl)) ?_; intro a7 c7 w7 hown7 hb7 hgr7; have hbw7 : Below w.heap.size w w7 := (by first | (refine (HE.out _ ?_ ?_ ?_ ?_).2.trans hb7 <;> rfl)); have h37 := cell_later hbw7 HC3.out; rw [Nat.zero_add, List.nil_append] at hown7; have HO7 := Lib.hid hown7; have HB7 := Lib.hid hbw7; clear hown7 hgr7 hb7 hbw7)
      | (refine step_append_rows (by rfl) (.tmp 19) (.tmp 26) (by rfl) w.heap.size _ _ k (by rw [List.length_take, HNN.out]; omega) (by rfl) HO7.out (some ⟨b, off, none⟩) (n - (k + 1)) (cap2 - (k + 1)) _ (by rfl) (fun h => by cases h) (HD.out.below HB7.out) (by omega) HB7.out.size ?_; intro a9 c9 w9 hown9 hb9 hgr9; have hbw9 : Below w.heap.size w w9 := HB7.out.trans hb9; have h39 := cell_later hbw9 HC3.out; have f39 : w9.frozen? ⟨a, 3, none⟩ = false := (by obtain ⟨vv, hvv⟩ := HHA.out; exact free_heap (heap_below hbw9 HLT hvv) 3); have HO9 := Lib.hid hown9; have HB9 := Lib.hid hbw9; clear hown9 hb9 hgr9 hbw9))
    all_goals
      clear h37
      go_wp2_with fail
      go_ret
      have oS : Only [a] w9 (w9.setCell ⟨a, 3, none⟩ (.slice a9 (k + (n - (k + 1))) c9)) := (Only.refl _ _).setCell (by simp) _
      obtain ⟨vv, hvv⟩ := HHA.out
      have hA9 := heap_below HB9.out HLT hvv
      have hg9 : ∀ j, (Value.slice a9 (k + (n - (k + 1))) c9).ownBlock = some j → w.heap.size ≤ j := fun j hj => (rows_block HO9.out hj).1
      have hln : (l.take k ++ l.drop (k + 1)).length = k + (n - (k + 1)) := by rw [List.length_append, List.length_take, List.length_drop, HNN.out]; omega
      refine ⟨rfl, (Value.slice a9 (k + (n - (k + 1))) c9).ownBlock, ⟨⟨_, heap_set hA9 3 _, ?_, rfl⟩, HGE, fun e => by have := hg9 a e; omega⟩, (Only.ofBelow HB9.out [a]).trans oS, fun j hj => .inr (hg9 j hj)⟩
      show World.ownsRow _ base 64 3 _ (l.eraseIdx k).length (row3 (l.eraseIdx k))
      rw [HE1.out, hln]
      exact rows_only (rows_mono HO9.out hbs) oS (fun j hj => by have := hg9 j hj; simp; omega)
end Go.Proofs.Ytmlgggcdjknlfaa
