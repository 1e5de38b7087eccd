/-
  Sessions are closed.
-/
import Derived.Test.YtmlgggcdjknlfaaDel
import Derived.Test.YtmlgggcdjknlfaaTouch
import Derived.Test.YtmlgggcdjknlfaaTick
namespace Go.Proofs.Ytmlgggcdjknlfaa
open Go.RowKit

def closeS (s : Ss) (q : Int) : Ss := if findS s.l q < 0 then s else { s with l := s.l.eraseIdx (findS s.l q).toNat }

set_option maxHeartbeats 1000000 in
theorem close_any (base a : Nat) (g : Option Nat) (s : Ss) (q : Int) (w : World) (h : IsSess w base a g s) (hl : s.l.length ≤ 1000000) :
    Calls Try.prog 15 #[.pointer (some ⟨a, 0, none⟩), .int .i64 q] w fun e w' => e = .returned (.int .i64 (if findS s.l q < 0 then 11 else 0)) ∧ IsSess w' base a g (closeS s q) ∧ Only (a :: g.toList) w w' := by
  have hflt := findS_lt s.l q
  have hfge := findS_ge s.l q
  by_cases hf : findS s.l q < 0
  · unfold closeS
    rw [if_pos hf, if_pos hf]
    have HH := Lib.hid h
    go_enter Try.func15, Try.ntmps15
    go_wp2_with fail
    refine (find_any base a g s q w HH.out hl).mono ?_
    rintro e w1 ⟨rfl, hb⟩
    generalize findS s.l q = z at *
    go_wp2_with fail
    go_ret
    exact ⟨rfl, HH.out.below hb, Only.ofBelow hb _⟩
  · unfold closeS
    rw [if_neg hf, if_neg hf]
    have HH := Lib.hid h; clear h
    have HFI := Lib.hid (find_any base a g s q w HH.out hl)
    generalize findS s.l q = z at *
    obtain ⟨k, rfl⟩ := Int.eq_ofNat_of_zero_le (show 0 ≤ z by omega)
    have hkl : k < s.l.length := by omega
    obtain ⟨⟨v, k1, k2, k3⟩, hge, hne⟩ := HH.out
    obtain ⟨g2, cap, rfl, hg1, hg2, hg3, hg4, hcell⟩ := row_cell k2 (by omega)
    have hgg : g = some g2 := k3.symm
    subst hgg
    have hga : g2 ≠ a := fun e => hne (by rw [e])
    have hc3 : w.cell? ⟨a, 3, none⟩ = some (.slice (some ⟨g2, 0, none⟩) s.l.length cap) := by rw [cell_heap k1]; rfl
    have HK1 := Lib.hid k1
    have HK2 := Lib.hid k2
    clear hcell hflt hfge hf k1 k2 k3
    go_enter Try.func15, Try.ntmps15
    go_wp2_with fail
    refine HFI.out.mono ?_
    rintro e w1 ⟨rfl, hb⟩
    have HB0 := Lib.hid hb
    replace hc3 := cell_later hb hc3
    have HR := Lib.hid (rows_only HK2.out (Only.ofBelow hb []) (by simp))
    have HA := Lib.hid ((Only.ofBelow hb []).keeps HK1.out (by simp))
    clear HFI hb
    go_wp2_with fail
    refine (delete_one base g2 s.l k cap w1 HR.out hkl hl).mono ?_
    rintro e w2 ⟨rfl, hrow, ho⟩
    have HROW := Lib.hid hrow
    have HO := Lib.hid ho
    have hA2 := ho.keeps HA.out (by simpa using fun e => hga e.symm)
    have HA2 := Lib.hid hA2
    have hc32 : w2.cell? ⟨a, 3, none⟩ = some (.slice (some ⟨g2, 0, none⟩) s.l.length cap) := by rw [cell_heap hA2]; rfl
    have hf32 := free_heap hA2 3
    clear hrow ho hA2
    go_wp2_with fail
    go_ret
    refine ⟨rfl, ⟨⟨_, heap_set HA2.out 3 _, ?_, rfl⟩, hge, hne⟩, ?_⟩
    · have e : (s.l.eraseIdx k).length = s.l.length - 1 := List.length_eraseIdx_of_lt hkl
      rw [Int.toNat_natCast, e]
      exact rows_only HROW.out ((Only.refl [a] _).setCell (p := ⟨a, 3, none⟩) (by simp) _) (fun b hb => by simp only [Value.ownBlock, Option.some.injEq] at hb; subst hb; simpa using hga)
    · exact ((Only.ofBelow HB0.out [a, g2]).trans (HO.out.mono (by simp))).setCell (by simp) _

set_option maxHeartbeats 1000000 in
theorem all_any (base a : Nat) (g : Option Nat) (s : Ss) (w : World) (h : IsSess w base a g s) (hl : s.l.length ≤ 1000000) :
    Calls Try.prog 16 #[.pointer (some ⟨a, 0, none⟩)] w fun e w' => ∃ v, e = .returned v ∧ OwnI w' w.heap.size 2 v (s.l.map Se.id) ∧ Below w.heap.size w w' := by
  obtain ⟨⟨v, h1, h2, h3⟩, _, _⟩ := h
  have hc3 : w.cell? ⟨a, 3, none⟩ = some v := by rw [cell_heap h1]; rfl
  have hrow := fun h0 => row_cell h2 h0
  obtain ⟨ao, cap, rfl, hcap, _⟩ := row_shape h2
  generalize hm : s.l = l at *
  generalize hn : l.length = n at *
  have HN := Lib.hid hn; clear hn
  have HR := Lib.hid hrow; clear hrow h1 h2 h3
  go_enter Try.func16, Try.ntmps16
  go_wp2_with fail
  go_loopw [3, 11] (fun v i wr => ∃ k : Nat, k ≤ n ∧ i = .int .i64 (k : Int) ∧ OwnI wr w.heap.size 2 v ((l.take k).map Se.id) ∧ Below w.heap.size w wr) (fun _ i _ => n - (intOf i).toNat)
  case atStart => exact ⟨0, by omega, rfl, OwnI.nil _ _ _, Below.refl _ _⟩
  case round =>
    obtain ⟨k, hk, rfl, hown, hbl⟩ := hrel
    have HB := Lib.hid hbl
    by_cases hlt : k < n
    · obtain ⟨g, cap2, he, _, _, _, _, hcell⟩ := HR.out (by omega)
      obtain ⟨rfl, rfl⟩ : ao = some ⟨g, 0, none⟩ ∧ cap = cap2 := by
        simp only [Value.slice.injEq] at he
        exact ⟨he.1, he.2.2⟩
      have c0 := cell_later hbl (show w.cell? ⟨g, k * 3, none⟩ = some (.int .i64 (l.getD k ⟨0, 0, 0⟩).id) from hcell k 0 hlt (by decide))
      have c1 := cell_later hbl (show w.cell? ⟨g, k * 3 + 1, none⟩ = some (.int .i64 (l.getD k ⟨0, 0, 0⟩).span) from hcell k 1 hlt (by decide))
      have c2 := cell_later hbl (show w.cell? ⟨g, k * 3 + 2, none⟩ = some (.int .i64 (l.getD k ⟨0, 0, 0⟩).till) from hcell k 2 hlt (by decide))
      have htk : (l.take (k + 1)).map Se.id = (l.take k).map Se.id ++ [(l.getD k ⟨0, 0, 0⟩).id] := by
        rw [take_next l k (by rw [HN.out]; exact hlt), List.map_append]; rfl
      have htl : ((l.take k).map Se.id).length = k := by rw [List.length_map, List.length_take, HN.out]; omega
      have HTK := Lib.hid htk
      obtain ⟨ao', c', rfl, _⟩ := OwnI.isI hown
      generalize (l.take k).map Se.id = m at *
      generalize hs : l.getD k ⟨0, 0, 0⟩ = s at *
      obtain ⟨x, y, z⟩ := s
      simp only at c0 c1 c2
      have HOWN := Lib.hid hown
      subst htl
      have hml : m.length ≤ 1000000 := by omega
      have hsz := hbl.size
      clear hcell he hs hown htk hbl
      go_wp2_with (at_builtin; go_loud (refine wpList_append_ints rfl _ _ 22 rfl w.heap.size 2 Try.underlying22 info2 _ m rfl ((HOWN.out.alloc _).alloc _) _ _ _ [x] rfl (isI_new _ [x] _ (by rfl) _ _ (wr.heap.size + 1) (by simp) 1 rfl _) (by simp; omega) (by simp; omega) ?_; intro v3 w3 hown3 hgr3 hb3; obtain ⟨ao3, c3, rfl, _⟩ := OwnI.isI hown3; have HGR := Lib.hid hgr3; have HB3 := Lib.hid hb3; have HW := Lib.hid hown3; clear hgr3 hb3 hown3))
      go_roundw
      case rel =>
        refine ⟨m.length + 1, by omega, by go_num, ?_, ?_⟩
        · rw [HTK.out, show m.length + 1 = (m ++ [x]).length by simp]
          exact HW.out
        · exact (((HB.out).alloc hsz _).alloc (by simp; omega) _).trans HB3.out
      case measure => simp [intOf]; omega
    · obtain rfl : k = n := by omega
      rw [List.take_of_length_le (by rw [HN.out]; exact Nat.le_refl _)] at hown
      obtain ⟨ao', c', rfl, _⟩ := OwnI.isI hown
      have HOWN := Lib.hid hown
      clear hown
      go_wp2_with fail
      go_ret
      exact ⟨_, rfl, HOWN.out, hbl⟩
end Go.Proofs.Ytmlgggcdjknlfaa
