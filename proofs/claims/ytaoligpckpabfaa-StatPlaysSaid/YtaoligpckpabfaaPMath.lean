/-
  The plain law of numbers in eight bytes. No program here.
-/
import Derived.Test.YtaoligpckpabfaaPRd
namespace Go.Proofs.Ytaoligpckpabfaa
open Go.RowKit

theorem byteAt_nat (z : Int) (i : Nat) : (byteAt z i).toNat = (BitVec.ofInt 64 z).toNat / 2 ^ (8 * (7 - i)) % 256 := by
  unfold byteAt
  rw [UInt8.toNat_ofNat']
theorem accN_be8 (z : Int) : accN (be8 z) = (BitVec.ofInt 64 z).toNat := by
  have h := (BitVec.ofInt 64 z).isLt
  simp only [accN, be8, List.foldl_cons, List.foldl_nil, pushN, byteAt_nat]
  generalize (BitVec.ofInt 64 z).toNat = M at *
  simp only [Nat.reduceMul, Nat.reduceSub, Nat.reducePow]
  omega
theorem toNat_ofInt64 (z : Int) : ((BitVec.ofInt 64 z).toNat : Int) = z % 18446744073709551616 := by
  rw [BitVec.toNat_ofInt]
  have : (0 : Int) ≤ z % ((2 ^ 64 : Nat) : Int) := Int.emod_nonneg _ (by decide)
  rw [Int.toNat_of_nonneg this]; rfl
theorem val8_be8 (z : Int) (rest : List UInt8) (h1 : -9223372036854775808 ≤ z) (h2 : z ≤ 9223372036854775807) : val8 (be8 z ++ rest) = z := by
  unfold val8
  have h3 : (be8 z ++ rest).take 8 = be8 z := by simp [be8]
  rw [h3, accN_be8, toNat_ofInt64]
  unfold wrap64
  omega
theorem foldl_less (l m : List UInt8) : ∀ (h : l.length = m.length) (v u : Nat), l.foldl pushN v < m.foldl pushN u ↔ v < u ∨ (v = u ∧ Op.bytesLess l m = true) := by
  induction l generalizing m with
  | nil =>
    intro h v u
    obtain rfl : m = [] := List.length_eq_zero_iff.1 h.symm
    simp [Op.bytesLess]
  | cons x l ih =>
    intro h v u
    cases m with
    | nil => simp at h
    | cons y m =>
      rw [List.foldl_cons, List.foldl_cons, ih m (by simpa using h)]
      have hx := x.toNat_lt
      have hy := y.toNat_lt
      have e1 : (x < y) = (x.toNat < y.toNat) := rfl
      have e2 : (x = y) ↔ (x.toNat = y.toNat) := ⟨fun h => by rw [h], fun h => UInt8.toNat_inj.1 h⟩
      simp only [Op.bytesLess, Bool.or_eq_true, Bool.and_eq_true, decide_eq_true_eq, beq_iff_eq, pushN, e1, e2]
      generalize Op.bytesLess l m = bl
      cases bl <;> simp <;> omega
theorem less_accN (l m : List UInt8) (h : l.length = m.length) : Op.bytesLess l m = decide (accN l < accN m) := by
  have := foldl_less l m h 0 0
  unfold accN
  cases hb : Op.bytesLess l m
  · rw [hb] at this
    simp at this
    simpa using this
  · rw [hb] at this
    simp at this
    simpa using this
theorem less_be8 (a b : Int) (ha : 0 ≤ a) (ha2 : a ≤ 9223372036854775807) (hb : 0 ≤ b) (hb2 : b ≤ 9223372036854775807) : Op.bytesLess (be8 a) (be8 b) = decide (a < b) := by
  rw [less_accN _ _ (by rw [be8_len, be8_len]), accN_be8, accN_be8]
  have h1 := toNat_ofInt64 a
  have h2 := toNat_ofInt64 b
  generalize (BitVec.ofInt 64 a).toNat = A at *
  generalize (BitVec.ofInt 64 b).toNat = B at *
  rw [decide_eq_decide]
  omega
theorem be8_inj (a b : Int) (h1 : -9223372036854775808 ≤ a) (h2 : a ≤ 9223372036854775807) (h3 : -9223372036854775808 ≤ b) (h4 : b ≤ 9223372036854775807) (h : be8 a = be8 b) : a = b := by
  have e1 := val8_be8 a [] h1 h2
  have e2 := val8_be8 b [] h3 h4
  rw [← e1, ← e2, h]
theorem strB_toList (l : List UInt8) : (strB l).toList = l := ByteArray.toList_mk l
theorem strB_size (l : List UInt8) : (strB l).size = l.length := by simp [strB, ByteArray.size]
end Go.Proofs.Ytaoligpckpabfaa
