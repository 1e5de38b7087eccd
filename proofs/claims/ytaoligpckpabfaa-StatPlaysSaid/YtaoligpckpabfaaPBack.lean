/-
  The plain law of readers over what writers wrote. No program here.
-/
import Derived.Test.YtaoligpckpabfaaPMath
namespace Go.Proofs.Ytaoligpckpabfaa
open Go.RowKit

theorem rI_short (l : List UInt8) (bad : Bool) (h : l.length < 8) : rI l bad = ⟨0, [], true⟩ := by unfold rI; rw [if_pos h]
theorem rI_be8 (z : Int) (rest : List UInt8) (bad : Bool) (h1 : -9223372036854775808 ≤ z) (h2 : z ≤ 9223372036854775807) : rI (be8 z ++ rest) bad = ⟨z, rest, bad⟩ := by
  unfold rI
  rw [if_neg (by rw [List.length_append, be8_len]; omega), val8_be8 z rest h1 h2]
  rfl
theorem rC_short (l : List UInt8) (bad : Bool) (most : Int) (h : l.length < 8) (h0 : 0 ≤ most) : rC l bad most = ⟨0, [], true⟩ := by
  unfold rC; rw [rI_short l bad h, if_neg (by simp only; omega)]
theorem rC_be8 (z : Int) (rest : List UInt8) (bad : Bool) (most : Int) (h0 : 0 ≤ z) (h1 : z ≤ most) (h2 : most ≤ 9223372036854775807) : rC (be8 z ++ rest) bad most = ⟨z, rest, bad⟩ := by
  unfold rC; rw [rI_be8 z rest bad (by omega) (by omega), if_neg (by simp only; omega)]
theorem rT_short (l : List UInt8) (bad : Bool) (most : Int) (h : l.length < 8) (h0 : 0 ≤ most) : rT l bad most = ⟨⟨#[]⟩, [], true⟩ := by
  unfold rT; rw [rC_short l bad most h h0, if_neg (by simp)]; rfl
theorem rT_cut (z : Int) (rest : List UInt8) (bad : Bool) (most : Int) (h0 : 0 ≤ z) (h1 : z ≤ most) (h2 : most ≤ 9223372036854775807) (hr : (rest.length : Int) < z) : rT (be8 z ++ rest) bad most = ⟨⟨#[]⟩, [], true⟩ := by
  unfold rT; rw [rC_be8 z rest bad most h0 h1 h2, if_pos (by simpa using hr)]
theorem strB_list (s : ByteArray) : strB s.data.toList = s := by unfold strB; simp
theorem rT_txt (s : ByteArray) (rest : List UInt8) (bad : Bool) (most : Int) (h1 : (s.size : Int) ≤ most) (h2 : most ≤ 9223372036854775807) : rT (txt s ++ rest) bad most = ⟨s, rest, bad⟩ := by
  unfold rT txt
  rw [List.append_assoc, rC_be8 _ _ bad most (by omega) h1 h2, if_neg (by simp only [List.length_append, size_list]; omega)]
  simp only [Int.toNat_natCast]
  rw [← size_list s, List.take_left, List.drop_left, strB_list]

theorem cut_math (s : ByteArray) (v : Int) (cut : Nat) (h : cut < 16 + s.size) (hs : s.size ≤ 200) :
    rI (rT ((txt s ++ be8 v).take cut) false (s.size : Int)).l (rT ((txt s ++ be8 v).take cut) false (s.size : Int)).bad = ⟨0, [], true⟩ := by
  have hl := txt_len s
  by_cases h8 : cut < 8
  · rw [rT_short _ _ _ (by rw [List.length_take]; omega) (by omega)]; rfl
  · by_cases h9 : cut < 8 + s.size
    · have e : (txt s ++ be8 v).take cut = be8 (s.size : Int) ++ (s.data.toList ++ be8 v).take (cut - 8) := by
        unfold txt
        rw [List.append_assoc, List.take_append, List.take_of_length_le (by rw [be8_len]; omega), be8_len]
      rw [e, rT_cut _ _ _ _ (by omega) (by omega) (by omega) (by rw [List.length_take, List.length_append, be8_len, size_list]; omega)]; rfl
    · have e : (txt s ++ be8 v).take cut = txt s ++ (be8 v).take (cut - (8 + s.size)) := by
        rw [List.take_append, List.take_of_length_le (by omega), hl]
      rw [e, rT_txt _ _ _ _ (by omega) (by omega), rI_short _ _ (by simp only [List.length_take, be8_len]; omega)]
end Go.Proofs.Ytaoligpckpabfaa
