/-
  The walk of CrcLines: it returns true, and no memory that was there turns. Condition: each slice has at most 140737488351232 elements.
-/
import Derived.Test.YtmjnfdphpbpaoaaAw
import Derived.BigQuiet
import Derived.Deep.QuietTactic
import Derived.BigRegion
namespace Go.Proofs.Ytmjnfdphpbpaoaa
open Go.RowKit

theorem below_draws' {B : Nat} {a w : World} (h : Below B a w) (n : Nat) : Below B a (w.drewN n) := below_drewN h n

set_option maxHeartbeats 400000 in
theorem lines_out (ao bo co : Option Addr) (n c n1 c1 n2 c2 : Nat) (w : World) (t1 : Bool) (t2 : Bool) (h1 : decide ((300 : Int) < (n : Int)) = t1) (h2 : t1 = false → ((n1 : Int) != (n : Int)) = t2) (h3 : t1 = false → t2 = false → ((n2 : Int) != (n : Int)) = true) :
    Calls Try.prog 6 #[.slice ao n c, .slice bo n1 c1, .slice co n2 c2] w fun e w' => e = .returned (.bool true) ∧ Below w.heap.size w w' := by
  go_enter Try.func6, Try.ntmps6
  go_wp2_with fail
  refine (awake_any _).mono ?_
  rintro e w1 ⟨rfl, hb⟩
  go_wp2_with fail
  all_goals go_ret
  all_goals exact ⟨rfl, hb⟩

set_option maxHeartbeats 400000 in
theorem lines_in (ao bo co : Option Addr) (n c c1 c2 : Nat) (l l1 l2 : List UInt8) (w : World) (hs : IsB w ao n c l) (hs1 : IsB w bo n c1 l1) (hs2 : IsB w co n c2 l2) (hn : n ≤ 300) :
    Calls Try.prog 6 #[.slice ao n c, .slice bo n c1, .slice co n c2] w fun e w' => e = .returned (.bool true) ∧ Below w.heap.size w w' := by
  have k1 : decide ((300 : Int) < (n : Int)) = false := by simp; omega
  have k2 : ((n : Int) != (n : Int)) = false := by simp
  have hT := Crc.xor3_len l l1 l2 (by rw [hs.len, hs1.len]) (by rw [hs.len, hs2.len])
  have hAt := Crc.xor3_at l l1 l2 (by rw [hs.len, hs1.len]) (by rw [hs.len, hs2.len])
  rw [hs.len] at hT hAt
  generalize hTT : Crc.xor3 l l1 l2 = T at hT hAt
  have HT := Lib.hid hT
  have HA := Lib.hid hAt
  have HTT := Lib.hid hTT
  clear hT hAt hTT
  go_enter Try.func6, Try.ntmps6
  go_wp2_with fail
  refine (awake_any _).mono ?_
  rintro e w1 ⟨rfl, hb⟩
  have hz := hb.size
  have hs' := Lib.hid (hs.below hb)
  have hs1' := Lib.hid (hs1.below hb)
  have hs2' := Lib.hid (hs2.below hb)
  clear hs hs1 hs2
  have hc2 : n ≤ 281474976710656 := by omega
  go_wp2_with (at_make; refine wpList_make_bytes rfl _ _ 25 rfl w1.heap.size 5 Try.underlying25 info5 n rfl rfl hc2 (Nat.le_refl _) ?_; intro w2 hown hb2 hz2)
  generalize hB : w1.heap.size = B at hown hz2
  have HB := Lib.hid hB
  clear hB
  go_loopw [8] (fun i wr => ∃ k : Nat, k ≤ n ∧ i = .int .i64 k ∧ OwnB wr B 5 (.slice (some ⟨B, 0, none⟩) n n) (Crc.part T k) ∧ Below w1.heap.size w1 wr) (fun i _ => n - (intOf i).toNat)
  case atStart => exact ⟨0, Nat.zero_le _, rfl, by rw [Crc.part_zero, HT.out]; exact hown, hb2⟩
  case round =>
    obtain ⟨k, hk, rfl, hownr, hbr⟩ := hrel
    clear hown
    by_cases hlt : k < n
    · obtain ⟨e1, _, x1⟩ := hs'.out
      obtain ⟨e2, _, x2⟩ := hs1'.out
      obtain ⟨e3, _, x3⟩ := hs2'.out
      rcases x1 with x1 | ⟨b, off, rfl, x1⟩
      · omega
      rcases x2 with x2 | ⟨b1, off1, rfl, x2⟩
      · omega
      rcases x3 with x3 | ⟨b2, off2, rfl, x3⟩
      · omega
      have y1 := cell_later hbr (x1 k hlt)
      have y2 := cell_later hbr (x2 k hlt)
      have y3 := cell_later hbr (x3 k hlt)
      have hsum := HA.out k hlt
      obtain ⟨g, cap, hv, hg, hgs, hcell, hfr⟩ := hownr.form (by rw [Crc.part_len _ _ (by rw [HT.out]; exact hk), HT.out]; omega)
      rw [Crc.part_len _ _ (by rw [HT.out]; exact hk), HT.out] at hv hcell
      simp only [Value.slice.injEq, Option.some.injEq, Addr.mk.injEq, true_and, and_true] at hv
      obtain ⟨rfl, rfl⟩ := hv
      have q1 := hcell k hlt
      have f1 := hfr k
      generalize l.getD k 0 = a1 at y1 hsum
      generalize l1.getD k 0 = a2 at y2 hsum
      generalize l2.getD k 0 = a3 at y3 hsum
      have HO := Lib.hid hownr
      have HS := Lib.hid hsum
      clear x1 x2 x3 hcell hfr e1 e2 e3 hownr hsum
      go_wp2_with fail
      go_region
      have hx8 : bits .xor .u8 (bits .xor .u8 (a1.toNat : Int) (a2.toNat : Int)) (a3.toNat : Int) = (((T.getD k 0).toNat : Nat) : Int) := by
        have := a1.toNat_lt
        have := a2.toNat_lt
        have := a3.toNat_lt
        rw [u8_xor_nat _ _ (by omega) (by omega), u8_xor_nat _ _ (Nat.xor_lt_two_pow (n := 8) (by omega) (by omega)) (by omega), HS.out]
        simp
      rw [hx8]
      have ho1 := HO.out
      have hset := Crc.part_set T k (by rw [HT.out]; exact hlt)
      have hlen1 : (Crc.part T k).length = n := by rw [Crc.part_len _ _ (by rw [HT.out]; exact hk), HT.out]
      have hlen2 : (Crc.part T (k + 1)).length = n := by rw [Crc.part_len _ _ (by rw [HT.out]; omega), HT.out]
      have ho2 : OwnB (wr.setCell ⟨B, k, none⟩ (.int .u8 ((T.getD k 0).toNat : Int))).drew B 5 (.slice (some ⟨B, 0, none⟩) n n) (Crc.part T (k + 1)) := by
        have h1 : OwnB wr B 5 (.slice (some ⟨B, 0, none⟩) (Crc.part T k).length n) (Crc.part T k) := by rw [hlen1]; exact ho1
        have h2 := (h1.set k (T.getD k 0)).drew
        rw [hset, hlen2] at h2
        exact h2
      have hbr2 : Below w1.heap.size w1 (wr.setCell ⟨B, k, none⟩ (.int .u8 ((T.getD k 0).toNat : Int))).drew := (hbr.setCell (by show w1.heap.size ≤ B; rw [HB.out]; exact Nat.le_refl _) _).drew
      generalize (wr.setCell ⟨B, k, none⟩ (.int .u8 ((T.getD k 0).toNat : Int))).drew = w5 at ho2 hbr2
      clear ho1 hset hlen1 hlen2 hx8 HO HS y1 y2 y3 q1 f1
      go_wp2_with fail
      go_roundw
      case rel => exact ⟨k + 1, by omega, by go_num, ho2, hbr2⟩
      case measure => simp [intOf]; omega
    · obtain rfl : k = n := by omega
      obtain ⟨ao', c', hv, hsT⟩ := hownr.isB
      have hpa : Crc.part T k = T := by rw [← HT.out]; exact Crc.part_all T
      rw [hpa, HT.out] at hv hsT
      simp only [Value.slice.injEq, true_and] at hv
      obtain ⟨rfl, rfl⟩ := hv
      have i1 := hs'.out.below hbr
      have i2 := hs1'.out.below hbr
      have i3 := hs2'.out.below hbr
      have hb9 : Below w.heap.size w wr := hb.trans (hbr.mono hz)
      have hz9 := hb9.size
      have hfin : (((Crc.crc T).toNat : Int) == bits .xor .u32 (bits .xor .u32 ((Crc.crc l).toNat : Int) ((Crc.crc l1).toNat : Int)) ((Crc.crc l2).toNat : Int)) = true := by
        rw [bits_xor32, bits_xor32, ← HTT.out, Crc.xor3, Crc.crc_lines _ _ _ (by rw [i1.len, i2.len]) (by rw [i1.len, i3.len])]
        exact beq_self_eq_true _
      clear hownr hpa hbr hb HTT HA HT hs' hs1' hs2'
      go_wp2_with fail
      refine (of_any _ _ _ [T] _ (isBB_one _ _ _ _ T hsT (by omega) _ _ _ rfl) (by omega)).mono ?_
      rintro e w' ⟨rfl, rfl⟩
      rw [show [T].flatten = T from by simp]
      go_wp2_with fail
      refine (of_any _ _ _ [l] _ (isBB_one _ _ _ _ l (i1.alloc _) (by omega) _ _ _ (by simp)) (by omega)).mono ?_
      rintro e w' ⟨rfl, rfl⟩
      rw [show [l].flatten = l from by simp]
      go_wp2_with fail
      refine (of_any _ _ _ [l1] _ (isBB_one _ _ _ _ l1 ((i2.alloc _).alloc _) (by omega) _ _ _ (by simp)) (by omega)).mono ?_
      rintro e w' ⟨rfl, rfl⟩
      rw [show [l1].flatten = l1 from by simp]
      go_wp2_with fail
      refine (of_any _ _ _ [l2] _ (isBB_one _ _ _ _ l2 (((i3.alloc _).alloc _).alloc _) (by omega) _ _ _ (by simp)) (by omega)).mono ?_
      rintro e w' ⟨rfl, rfl⟩
      rw [show [l2].flatten = l2 from by simp]
      go_wp2
      go_ret
      exact ⟨rfl, (((hb9.alloc hz9 _).alloc (by simp; omega) _).alloc (by simp; omega) _).alloc (by simp; omega) _⟩

theorem lines_walk (ao : Option Addr) (n c : Nat) (l : List UInt8) (bo : Option Addr) (n1 c1 : Nat) (l1 : List UInt8) (co : Option Addr) (n2 c2 : Nat) (l2 : List UInt8) (w : World)
    (hs : IsB w ao n c l) (_ : n ≤ c) (_ : c ≤ 140737488351232) (hs1 : IsB w bo n1 c1 l1) (_ : n1 ≤ c1) (_ : c1 ≤ 140737488351232) (hs2 : IsB w co n2 c2 l2) (_ : n2 ≤ c2) (_ : c2 ≤ 140737488351232) :
    Calls Try.prog 6 #[.slice ao n c, .slice bo n1 c1, .slice co n2 c2] w fun e w' => e = .returned (.bool true) ∧ Below w.heap.size w w' := by
  by_cases h : n ≤ 300
  · by_cases h1 : n1 = n
    · by_cases h2 : n2 = n
      · subst h1 h2
        exact lines_in ao bo co _ c c1 c2 l l1 l2 w hs hs1 hs2 h
      · exact lines_out ao bo co n c n1 c1 n2 c2 w false false (by simp; omega) (fun _ => by simp; omega) (fun _ _ => by simp; omega)
    · exact lines_out ao bo co n c n1 c1 n2 c2 w false true (by simp; omega) (fun _ => by simp; omega) (fun _ h => by cases h)
  · exact lines_out ao bo co n c n1 c1 n2 c2 w true true (by simp; omega) (fun h => by cases h) (fun h => by cases h)

end Go.Proofs.Ytmjnfdphpbpaoaa
