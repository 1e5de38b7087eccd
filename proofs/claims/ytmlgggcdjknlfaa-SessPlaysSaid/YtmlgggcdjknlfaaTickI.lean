/-
  Time goes by: the first whose time is over.
-/
import Derived.Test.YtmlgggcdjknlfaaTick
namespace Go.Proofs.Ytmlgggcdjknlfaa
open Go.RowKit

def firstOver (now : Int) (l : List Se) : Int := if l.findIdx (over now) < l.length then (l.findIdx (over now) : Int) else -1
def overIds (now : Int) (l : List Se) : List Int := (l.filter (over now)).map Se.id

theorem take_next (l : List Se) (k : Nat) (hk : k < l.length) : l.take (k + 1) = l.take k ++ [l.getD k ⟨0, 0, 0⟩] := by
  rw [List.take_succ_eq_append_getElem hk, List.getD_eq_getElem?_getD, List.getElem?_eq_getElem hk]; rfl
theorem overIds_next (now : Int) (l : List Se) (k : Nat) (hk : k < l.length) : overIds now (l.take (k + 1)) = toldBy now (l.getD k ⟨0, 0, 0⟩) (overIds now (l.take k)) := by
  rw [take_next l k hk]
  unfold overIds toldBy
  rw [List.filter_append, List.map_append]
  generalize l.getD k ⟨0, 0, 0⟩ = x
  by_cases h : over now x = true
  · rw [if_pos h]; simp [h]
  · rw [if_neg h]; simp [h]
theorem overIds_none (now : Int) (l : List Se) (k : Nat) (hno : ∀ j, j < k → over now (l.getD j ⟨0, 0, 0⟩) = false) : overIds now (l.take k) = [] := by
  unfold overIds
  rw [List.filter_eq_nil_iff.2]
  · rfl
  · intro s hs
    obtain ⟨j, hj, rfl⟩ := List.getElem_of_mem hs
    simp only [List.length_take] at hj
    have := hno j (by omega)
    rw [List.getD_eq_getElem?_getD, List.getElem?_eq_getElem (by omega)] at this
    simpa using this
theorem first_here (now : Int) (l : List Se) (k : Nat) (hk : k < l.length) (hno : ∀ j, j < k → over now (l.getD j ⟨0, 0, 0⟩) = false) (hyes : over now (l.getD k ⟨0, 0, 0⟩) = true) : l.findIdx (over now) = k := by
  rw [List.findIdx_eq hk]
  constructor
  · simpa [hk] using hyes
  · intro j hj
    have := hno j hj
    simpa [show j < l.length by omega] using this
theorem first_none (now : Int) (l : List Se) (hno : ∀ j, j < l.length → over now (l.getD j ⟨0, 0, 0⟩) = false) : l.findIdx (over now) = l.length := by
  rw [List.findIdx_eq_length]
  intro s hs
  obtain ⟨j, hj, rfl⟩ := List.getElem_of_mem hs
  have := hno j hj
  simpa [hj] using this

set_option maxHeartbeats 1000000 in
theorem index_over (base : Nat) (v : Value) (l : List Se) (now : Int) (a bs bl : Nat) (w : World) (h : w.ownsRow base 54 3 v l.length (row3 l)) (hv : ∀ k, v.ownBlock = some k → k < bl)
    (hb : bs < bl) (ha : a < bl) (hc : w.cell? ⟨bs, 0, none⟩ = some (.pointer (some ⟨a, 0, none⟩))) (hn : w.cell? ⟨a, 1, none⟩ = some (.int .i64 now)) (ht : Told w bl []) (hl : l.length ≤ 1000000) :
    Calls Try.prog 40 #[v, .func (.func 29) #[] #[.pointer (some ⟨bs, 0, none⟩), .pointer (some ⟨bl, 0, none⟩)]] w fun e w' => e = .returned (.int .i64 (firstOver now l)) ∧ Told w' bl (overIds now (l.take (l.findIdx (over now) + 1))) ∧ Below bl w w' := by
  have hrow := fun h0 => row_cell h h0
  obtain ⟨ao, cap, rfl, hcap, _⟩ := row_shape h
  generalize hn : l.length = n at *
  have HN := Lib.hid hn; clear hn
  have HR := Lib.hid hrow; clear hrow h
  have HC := Lib.hid hc; clear hc
  have HNW := Lib.hid hn; clear hn
  have HT := Lib.hid ht; clear ht
  have HV := Lib.hid hv; clear hv
  go_enter Try.func40, Try.ntmps40
  go_wp2_with fail
  go_loopw [8] (fun i wr => ∃ k : Nat, k ≤ n ∧ i = .int .i64 (k : Int) ∧ (∀ j, j < k → over now (l.getD j ⟨0, 0, 0⟩) = false) ∧ Told wr bl [] ∧ Below bl w wr) (fun i _ => n - (intOf i).toNat)
  case atStart => exact ⟨0, by omega, rfl, fun j hj => by omega, HT.out, Below.refl _ _⟩
  case round =>
    obtain ⟨k, hk, rfl, hno, htr, hbl⟩ := hrel
    have HNO := Lib.hid hno; clear hno
    have HTR := Lib.hid htr; clear htr
    by_cases hlt : k < n
    · obtain ⟨g, cap2, he, _, _, _, _, hcell⟩ := HR.out (by omega)
      obtain ⟨rfl, rfl⟩ : ao = some ⟨g, 0, none⟩ ∧ cap = cap2 := by
        simp only [Value.slice.injEq] at he
        exact ⟨he.1, he.2.2⟩
      have hg : g < bl := HV.out g rfl
      have c0 := cell_below hbl hg (show w.cell? ⟨g, k * 3, none⟩ = some (.int .i64 (l.getD k ⟨0, 0, 0⟩).id) from hcell k 0 hlt (by decide))
      have c1 := cell_below hbl hg (show w.cell? ⟨g, k * 3 + 1, none⟩ = some (.int .i64 (l.getD k ⟨0, 0, 0⟩).span) from hcell k 1 hlt (by decide))
      have c2 := cell_below hbl hg (show w.cell? ⟨g, k * 3 + 2, none⟩ = some (.int .i64 (l.getD k ⟨0, 0, 0⟩).till) from hcell k 2 hlt (by decide))
      have hq := cell_below hbl hb HC.out
      have hq2 := cell_below hbl ha HNW.out
      have hni : overIds now (l.take (k + 1)) = toldBy now (l.getD k ⟨0, 0, 0⟩) [] := by rw [overIds_next now l k (by rw [HN.out]; exact hlt), overIds_none now l k HNO.out]
      have HNI := Lib.hid hni; clear hni
      generalize hs : l.getD k ⟨0, 0, 0⟩ = s at *
      obtain ⟨x, y, z⟩ := s
      simp only at c0 c1 c2
      have HS := Lib.hid hs; clear hs
      clear hcell he
      have HQ := Lib.hid hq; clear hq
      have HQ2 := Lib.hid hq2; clear hq2
      go_wp2_with fail
      refine (over_any x y z now a bs bl [] _ hb ha HQ.out HQ2.out HTR.out (by decide)).mono ?_
      rintro e w1 ⟨rfl, ht1, hb1, _⟩
      have HB1 := Lib.hid (hbl.trans hb1)
      have HT1 := Lib.hid ht1; clear ht1
      by_cases hxq : over now ⟨x, y, z⟩ = true
      · have HF := Lib.hid (first_here now l k (by rw [HN.out]; exact hlt) HNO.out (by rw [HS.out]; exact hxq))
        clear hb1 hbl
        go_wp2_with fail
        go_ret
        exact ⟨by unfold firstOver; rw [HF.out, HN.out, if_pos hlt]; rfl, by rw [HF.out, HNI.out]; exact HT1.out, HB1.out⟩
      · replace hxq : over now ⟨x, y, z⟩ = false := by simpa using hxq
        have HX := Lib.hid hxq
        clear hb1 hbl
        go_wp2_with fail
        go_roundw
        case rel =>
          refine ⟨k + 1, by omega, by go_num, fun j hj => ?_, ?_, HB1.out⟩
          · by_cases hjk : j = k
            · subst hjk; rw [HS.out]; exact HX.out
            · exact HNO.out j (by omega)
          · have := HT1.out
            unfold toldBy at this
            rwa [if_neg (by simp [HX.out])] at this
        case measure => simp [intOf]; omega
    · obtain rfl : k = n := by omega
      have HF := Lib.hid (first_none now l (by rw [HN.out]; exact HNO.out))
      have hni : overIds now (l.take (k + 1)) = [] := by
        rw [List.take_of_length_le (by rw [HN.out]; omega)]
        have := overIds_none now l k HNO.out
        rwa [List.take_of_length_le (by rw [HN.out]; omega)] at this
      have HNI := Lib.hid hni; clear hni
      go_wp2_with fail
      go_ret
      exact ⟨by unfold firstOver; rw [HF.out, if_neg (Nat.lt_irrefl _)]; rfl, by rw [HF.out, HN.out, HNI.out]; exact HTR.out, hbl⟩
end Go.Proofs.Ytmlgggcdjknlfaa
