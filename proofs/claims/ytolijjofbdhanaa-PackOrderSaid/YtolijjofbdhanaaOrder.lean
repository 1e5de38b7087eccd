/-
  The walk of PackOrder.
-/
import Derived.Test.YtolijjofbdhanaaAw
import Derived.Test.YtolijjofbdhanaaMath
import Derived.Deep.RegionWith
namespace Go.Proofs.Ytolijjofbdhanaa
open Go.RowKit

theorem own_some {w : World} {base : Nat} {e : TypeId} {v : Value} {l : List UInt8} (h : OwnB w base e v l) : ∃ ao n c, v = .slice ao n c ∧ IsB w ao n c l := by
  obtain ⟨ao, c, h1, h2⟩ := h.isB
  exact ⟨ao, _, c, h1, h2⟩

set_option maxHeartbeats 400000 in
theorem order_walk (a b : Int) (W : World) (ha1 : -9223372036854775808 ≤ a) (ha2 : a ≤ 9223372036854775807) (hb1 : -9223372036854775808 ≤ b) (hb2 : b ≤ 9223372036854775807) : Calls Try.prog 4 #[.int .i64 a, .int .i64 b] W fun e w' => e = .returned (.bool true) ∧ Below W.heap.size W w' := by
  have F1 : ((strB (be8 a)).size : Int) = 8 := by rw [strB_size]; rfl
  have F2 : ((strB (be8 a)).toList == (strB (be8 b)).toList) = (a == b) := by
    rw [strB_toList, strB_toList]
    by_cases h : a = b
    · subst h; simp
    · have h2 : ¬ be8 a = be8 b := fun e => h (be8_inj a b ha1 ha2 hb1 hb2 e)
      rw [beq_eq_false_iff_ne.2 h, beq_eq_false_iff_ne.2 h2]
  have F3 : 0 ≤ a → 0 ≤ b → Op.bytesLess (strB (be8 a)).toList (strB (be8 b)).toList = decide (a < b) := by
    intro h0 h1
    rw [strB_toList, strB_toList]
    exact less_be8 a b h0 ha2 h1 hb2
  have HF1 := Lib.hid F1
  have HF2 := Lib.hid F2
  have HF3 := Lib.hid F3
  clear F1 F2 F3
  go_enter Try.func4, Try.ntmps4
  go_wp2_with fail
  refine (awake_any _).mono ?_
  rintro e w0 ⟨rfl, hb0⟩
  have hz0 := hb0.size
  go_wp2_with fail
  go_region_with
    (first
      | (go_at_call 12; refine (i64_any none 0 0 [] _ _ (isB_nil _) (by decide)).mono ?_; rintro e wB ⟨v, rfl, hown2, hbB⟩; have hcv3 := conv_any wB _ _ _ _ (hbs1.below hbB); obtain ⟨a2, n2, c2, rfl, hbs2⟩ := own_some hown2; have hcv2 := conv_any wB _ _ _ _ hbs2; clear hown2)
      | (go_at_call 12; refine (i64_any none 0 0 [] _ _ (isB_nil _) (by decide)).mono ?_; rintro e wA ⟨v, rfl, hown, hbA⟩; obtain ⟨a1, n1, c1, rfl, hbs1⟩ := own_some hown; have hcv1 := conv_any wA _ _ _ _ hbs1; clear hown))
  all_goals
    have hB : Below W.heap.size W wB := (hb0.trans ((Below.refl _ _).drew.trans (hbA.mono hz0))).trans (hbB.mono (Nat.le_trans hz0 hbA.size))
    clear hcv1 hcv2 hcv3 hbs1 hbs2 hbA hbB hb0
    have F1 := HF1.out
    have F2 := HF2.out
    clear HF1 HF2
    generalize strB (be8 a) = s1 at *
    generalize strB (be8 b) = s2 at *
    go_wp2_with fail
  all_goals go_ret
  all_goals first | exact ⟨rfl, hB⟩ | (rename_i g0 g1; have h3 := HF3.out g0 g1; exact ⟨by rw [h3, beq_self_eq_true, Bool.or_true]; rfl, hB⟩)
theorem lit_i64 {z : Int} (h : (Lit.int .i64 z).wf = true) : -9223372036854775808 ≤ z ∧ z ≤ 9223372036854775807 := by
  simp only [Lit.wf, IntKind.min, IntKind.max, IntKind.signed, IntKind.bits, Bool.and_eq_true, decide_eq_true_eq, if_true] at h
  omega
theorem order_said (a b : Int) (W : World) (ha : (Lit.int .i64 a).wf = true) (hb : (Lit.int .i64 b).wf = true) :
    Calls Try.prog 4 #[.int .i64 a, .int .i64 b] W fun e w' => e = .returned (.bool true) ∧ Below W.heap.size W w' :=
  order_walk a b W (lit_i64 ha).1 (lit_i64 ha).2 (lit_i64 hb).1 (lit_i64 hb).2
end Go.Proofs.Ytolijjofbdhanaa
