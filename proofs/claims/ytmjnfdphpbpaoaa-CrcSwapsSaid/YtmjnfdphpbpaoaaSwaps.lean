/-
  The walk of CrcSwaps: it returns true, and no memory that was there turns. Condition: the slice has at most 140737488351232 elements.
-/
import Derived.Test.YtmjnfdphpbpaoaaAw
import Derived.BigQuiet
import Derived.Deep.QuietTactic
import Derived.BigRegion
namespace Go.Proofs.Ytmjnfdphpbpaoaa
open Go.RowKit

theorem below_draws {B : Nat} {a w : World} (h : Below B a w) (n : Nat) : Below B a (w.drewN n) := below_drewN h n

set_option maxHeartbeats 400000 in
/-- too long a text -/
theorem swaps_long (ao : Option Addr) (n c : Nat) (a : Int) (w : World) (h : 400 < n) :
    Calls Try.prog 7 #[.slice ao n c, .int .i64 a] w fun e w' => e = .returned (.bool true) ∧ Below w.heap.size w w' := by
  have h1 : decide ((400 : Int) < (n : Int)) = true := by simp; omega
  go_enter Try.func7, Try.ntmps7
  go_wp2_with fail
  refine (awake_any _).mono ?_
  rintro e w1 ⟨rfl, hb⟩
  go_wp2_with fail
  go_quiet (fail)
  go_wp2
  go_ret
  exact ⟨rfl, below_draws hb _⟩

set_option maxHeartbeats 400000 in
/-- no such place -/
theorem swaps_below (ao : Option Addr) (n c : Nat) (a : Int) (w : World) (h : n ≤ 400) (ha : a < 0) :
    Calls Try.prog 7 #[.slice ao n c, .int .i64 a] w fun e w' => e = .returned (.bool true) ∧ Below w.heap.size w w' := by
  have h1 : decide ((400 : Int) < (n : Int)) = false := by simp; omega
  have h2 : decide (a < 0) = true := by simp; omega
  go_enter Try.func7, Try.ntmps7
  go_wp2_with fail
  refine (awake_any _).mono ?_
  rintro e w1 ⟨rfl, hb⟩
  go_wp2_with fail
  go_quiet (fail)
  go_wp2
  go_ret
  exact ⟨rfl, below_draws hb _⟩

set_option maxHeartbeats 400000 in
/-- no such place -/
theorem swaps_above (ao : Option Addr) (n c : Nat) (a : Int) (w : World) (h : n ≤ 400) (ha : 0 ≤ a) (hn : (n : Int) - 2 < a) :
    Calls Try.prog 7 #[.slice ao n c, .int .i64 a] w fun e w' => e = .returned (.bool true) ∧ Below w.heap.size w w' := by
  have h1 : decide ((400 : Int) < (n : Int)) = false := by simp; omega
  have h2 : decide (a < 0) = false := by simp; omega
  have h4 : IntKind.i64.wrap ((n : Int) - 2) = (n : Int) - 2 := IntWalk.i64_in _ (by omega)
  have h3 : decide ((n : Int) - 2 < a) = true := by simp; omega
  go_enter Try.func7, Try.ntmps7
  go_wp2_with fail
  refine (awake_any _).mono ?_
  rintro e w1 ⟨rfl, hb⟩
  go_wp2_with fail
  go_quiet (fail)
  go_wp2
  go_ret
  exact ⟨rfl, below_draws hb _⟩

set_option maxHeartbeats 400000 in
/-- two like bytes -/
theorem swaps_like (b off n c k : Nat) (x : UInt8) (w : World) (h : n ≤ 400) (hk : k + 2 ≤ n) (c0 : w.cell? ⟨b, off + k, none⟩ = some (.int .u8 (x.toNat : Int))) (c1 : w.cell? ⟨b, off + (k + 1), none⟩ = some (.int .u8 (x.toNat : Int))) :
    Calls Try.prog 7 #[.slice (some ⟨b, off, none⟩) n c, .int .i64 (k : Int)] w fun e w' => e = .returned (.bool true) ∧ Below w.heap.size w w' := by
  have h1 : decide ((400 : Int) < (n : Int)) = false := by simp; omega
  have h2 : decide ((k : Int) < 0) = false := by simp
  have h4 : IntKind.i64.wrap ((n : Int) - 2) = (n : Int) - 2 := IntWalk.i64_in _ (by omega)
  have h3 : decide ((n : Int) - 2 < (k : Int)) = false := by simp; omega
  have h5 : IntKind.i64.wrap ((k : Int) + 1) = (k : Int) + 1 := IntWalk.i64_in _ (by omega)
  have h6 : (0 : Int) ≤ (k : Int) + 1 := by omega
  have h7 : ((k : Int) + 1) < (n : Int) := by omega
  have h8 : ((k : Int) + 1).toNat = k + 1 := by omega
  have h9 : (k : Int) < (n : Int) := by omega
  go_enter Try.func7, Try.ntmps7
  go_wp2_with fail
  refine (awake_any _).mono ?_
  rintro e w1 ⟨rfl, hb⟩
  have c0' := cell_later hb c0
  have c1' := cell_later hb c1
  go_wp2_with fail
  go_quiet (fail)
  go_wp2
  go_ret
  exact ⟨rfl, below_draws hb _⟩

set_option maxHeartbeats 400000 in
/-- two unlike bytes -/
theorem swaps_unlike (b off n c k : Nat) (l : List UInt8) (x y : UInt8) (w : World) (hs : IsB w (some ⟨b, off, none⟩) n c l) (h : n ≤ 400) (hk : k + 2 ≤ n) (c0 : w.cell? ⟨b, off + k, none⟩ = some (.int .u8 (x.toNat : Int))) (c1 : w.cell? ⟨b, off + (k + 1), none⟩ = some (.int .u8 (y.toNat : Int)))
    (hxy : ¬ x = y) (hx : l.getD k 0 = x) (hy : l.getD (k + 1) 0 = y) :
    Calls Try.prog 7 #[.slice (some ⟨b, off, none⟩) n c, .int .i64 (k : Int)] w fun e w' => e = .returned (.bool true) ∧ Below w.heap.size w w' := by
  have h1 : decide ((400 : Int) < (n : Int)) = false := by simp; omega
  have h2 : decide ((k : Int) < 0) = false := by simp
  have h4 : IntKind.i64.wrap ((n : Int) - 2) = (n : Int) - 2 := IntWalk.i64_in _ (by omega)
  have h3 : decide ((n : Int) - 2 < (k : Int)) = false := by simp; omega
  have h5 : IntKind.i64.wrap ((k : Int) + 1) = (k : Int) + 1 := IntWalk.i64_in _ (by omega)
  have h6 : (0 : Int) ≤ (k : Int) + 1 := by omega
  have h7 : ((k : Int) + 1) < (n : Int) := by omega
  have h8 : ((k : Int) + 1).toNat = k + 1 := by omega
  have h9 : (k : Int) < (n : Int) := by omega
  have h10 : ((x.toNat : Int) == (y.toNat : Int)) = false := by
    simp only [beq_eq_false_iff_ne, ne_eq]
    intro e
    exact hxy (UInt8.toNat_inj.1 (by omega))
  have HX := Lib.hid hx
  have HY := Lib.hid hy
  have HN := Lib.hid hxy
  clear hx hy hxy
  go_enter Try.func7, Try.ntmps7
  go_wp2_with fail
  refine (awake_any _).mono ?_
  rintro e w1 ⟨rfl, hb⟩
  have c0' := cell_later hb c0
  have c1' := cell_later hb c1
  have HS := Lib.hid (hs.below hb)
  clear hs c0 c1
  go_wp2_with fail
  go_quiet (fail)
  have hb1 := below_draws hb nq
  have HS1 : Hid (IsB (w1.drewN nq) (some ⟨b, off, none⟩) n c l) := HS.out.below (below_draws (Below.refl _ _) nq)
  generalize w1.drewN nq = w2 at hb1 HS1
  clear HS hb c0' c1'
  have hz := hb1.size
  have hc1 : ([] : List UInt8).length + n ≤ 140737488355328 := by simp; omega
  have HO := OwnB.new w2 w2.heap.size 5 [] #[] (by rfl) _ rfl (Nat.le_refl _) 0 rfl (by omega)
  have hc2 : w2.heap.size ≤ (w2.alloc (.cells #[] 5)).heap.size := by simp
  go_wp2_with (at_builtin; go_loud (refine wpList_append_bytes rfl _ _ 25 rfl w2.heap.size 5 Try.underlying25 info5 _ _ rfl HO _ _ _ _ rfl (HS1.out.alloc _) hc1 hc2 ?_); intro v' w3 hown' hgr hb2; clear HO)
  obtain ⟨g, cap, rfl, hg, hgs, hcell, hfr⟩ := hown'.form (by rw [List.nil_append, HS1.out.len]; omega)
  have hln := HS1.out.len
  have HOwn := Lib.hid hown'
  have q0 : w3.cell? ⟨g, k, none⟩ = some (.int .u8 (x.toNat : Int)) := by rw [hcell k (by rw [List.nil_append]; omega), List.nil_append, HX.out]
  have q1 : w3.cell? ⟨g, k + 1, none⟩ = some (.int .u8 (y.toNat : Int)) := by rw [hcell (k + 1) (by rw [List.nil_append]; omega), List.nil_append, HY.out]
  have f0 := hfr k
  have f1 := hfr (k + 1)
  have hb3 : Below w.heap.size w w3 := (hb1.alloc hz _).trans (hb2.mono hz)
  have hb23 : Below w2.heap.size w2 w3 := ((Below.refl _ _).alloc (Nat.le_refl _) _).trans hb2
  rw [List.nil_append, hln] at HOwn
  rw [List.nil_append, hln]
  have HL := Lib.hid hln
  clear hcell hfr hown' hb2 hgr hc1 hc2 hln hb1
  go_region
  have HO4 : OwnB (((w3.setCell ⟨g, k, none⟩ (.int .u8 (y.toNat : Int))).setCell ⟨g, k + 1, none⟩ (.int .u8 (x.toNat : Int))).drew) w2.heap.size 5 (.slice (some ⟨g, 0, none⟩) ((l.set k y).set (k + 1) x).length cap) ((l.set k y).set (k + 1) x) := by
    have o1 := HOwn.out
    rw [← HL.out] at o1
    exact ((o1.set k y).set (k + 1) x).drew
  have hb4 : Below w2.heap.size w3 (((w3.setCell ⟨g, k, none⟩ (.int .u8 (y.toNat : Int))).setCell ⟨g, k + 1, none⟩ (.int .u8 (x.toNat : Int))).drew) :=
    (((Below.refl _ _).setCell hg _).setCell hg _).drew
  generalize ((w3.setCell ⟨g, k, none⟩ (.int .u8 (y.toNat : Int))).setCell ⟨g, k + 1, none⟩ (.int .u8 (x.toNat : Int))).drew = w4 at HO4 hb4
  have hs4 : IsB w4 (some ⟨b, off, none⟩) n c l := HS1.out.below (hb23.trans hb4)
  have hb5 : Below w.heap.size w w4 := hb3.trans (hb4.mono hz)
  have hs5 : IsB w4 (some ⟨g, 0, none⟩) n cap ((l.set k y).set (k + 1) x) := by
    obtain ⟨ao, c', e1, e2⟩ := HO4.isB
    simp only [List.length_set, HL.out, Value.slice.injEq, true_and] at e1
    obtain ⟨rfl, rfl⟩ := e1
    simpa only [List.length_set, HL.out] using e2
  have hne : (((Crc.crc ((l.set k y).set (k + 1) x)).toNat : Int) != ((Crc.crc l).toNat : Int)) = true := by
    rw [bne_iff_ne]
    intro e
    exact Crc.crc_swap l k x y (by rw [HL.out]; omega) HX.out HY.out HN.out (BitVec.eq_of_toNat_eq (by omega))
  clear HO4 hb4 hb3 hb23 HS1 HOwn HX HY HN q0 q1 f0 f1 hg hgs h1 h2 h3 h4 h5 h6 h7 h8 h9 h10
  generalize (l.set k y).set (k + 1) x = l' at hs5 hne
  have hz4 := hb5.size
  go_wp2_with fail
  refine (of_any _ _ _ [l'] _ (isBB_one _ _ _ _ l' hs5 (by omega) _ _ _ rfl) (by omega)).mono ?_
  rintro e w' ⟨rfl, rfl⟩
  rw [show [l'].flatten = l' from by simp]
  go_wp2_with fail
  refine (of_any _ _ _ [l] _ (isBB_one _ _ _ _ l (hs4.alloc _) (by omega) _ _ _ (by simp)) (by omega)).mono ?_
  rintro e w' ⟨rfl, rfl⟩
  rw [show [l].flatten = l from by simp]
  go_wp2
  go_ret
  exact ⟨rfl, (hb5.alloc hz4 _).alloc (by simp; omega) _⟩

theorem swaps_walk (ao : Option Addr) (n c : Nat) (l : List UInt8) (a : Int) (w : World) (hs : IsB w ao n c l) (_hle : n ≤ c) (_hc : c ≤ 140737488351232) (_wf : (Lit.int .i64 a).wf = true) :
    Calls Try.prog 7 #[.slice ao n c, .int .i64 a] w fun e w' => e = .returned (.bool true) ∧ Below w.heap.size w w' := by
  by_cases h : n ≤ 400
  · by_cases ha : a < 0
    · exact swaps_below ao n c a w h ha
    · by_cases hn : (n : Int) - 2 < a
      · exact swaps_above ao n c a w h (by omega) hn
      · obtain ⟨k, rfl⟩ := Int.eq_ofNat_of_zero_le (show 0 ≤ a by omega)
        rcases hs.at_ with h0 | ⟨b, off, rfl, hcell⟩
        · omega
        · have c0 := hcell k (by omega)
          have c1 := hcell (k + 1) (by omega)
          by_cases hxy : l.getD k 0 = l.getD (k + 1) 0
          · rw [← hxy] at c1
            exact swaps_like b off n c k _ w h (by omega) c0 c1
          · exact swaps_unlike b off n c k l _ _ w hs h (by omega) c0 c1 hxy rfl rfl
  · exact swaps_long ao n c a w (by omega)

end Go.Proofs.Ytmjnfdphpbpaoaa
