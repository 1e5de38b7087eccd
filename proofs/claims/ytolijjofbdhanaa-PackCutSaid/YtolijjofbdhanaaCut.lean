/-
  The walk of PackCut.
-/
import Derived.Test.YtolijjofbdhanaaAw
import Derived.Test.YtolijjofbdhanaaBack
namespace Go.Proofs.Ytolijjofbdhanaa
open Go.RowKit

theorem own_len {w : World} {base : Nat} {e : TypeId} {v : Value} {l : List UInt8} (h : OwnB w base e v l) (n : Nat) (hn : l.length = n) :
    ∃ ao c, v = .slice ao n c ∧ IsB w ao n c l ∧ n ≤ c := by
  subst hn
  obtain ⟨ao, c, h1, h2, h3, _⟩ := own_more h
  exact ⟨ao, c, h1, h2, h3⟩

set_option maxHeartbeats 400000 in
theorem cut_walk (s : ByteArray) (v cut : Int) (W : World) (hs : s.size ≤ 9223372036854775807) (hv1 : -9223372036854775808 ≤ v) (hv2 : v ≤ 9223372036854775807) (hc1 : -9223372036854775808 ≤ cut) (hc2 : cut ≤ 9223372036854775807) :
    Calls Try.prog 6 #[.string s, .int .i64 v, .int .i64 cut] W fun e w' => e = .returned (.bool true) ∧ Below W.heap.size W w' := by
  by_cases hlong : 200 < s.size
  · go_enter Try.func6, Try.ntmps6
    go_wp2_with fail
    refine (awake_any _).mono ?_
    rintro e w0 ⟨rfl, hb0⟩
    go_wp2_with fail
    go_ret
    exact ⟨rfl, hb0⟩
  · go_enter Try.func6, Try.ntmps6
    go_wp2_with fail
    refine (awake_any _).mono ?_
    rintro e w0 ⟨rfl, hb0⟩
    have hz0 := hb0.size
    go_wp2_with fail
    refine (text_any none 0 0 [] s _ (isB_nil _) (by decide) (by omega)).mono ?_
    rintro e w1 ⟨v1, rfl, hown1, hb1⟩
    rw [List.nil_append] at hown1
    obtain ⟨a1, c1, rfl, hbs1, hcc1⟩ := own_len hown1 (8 + s.size) (txt_len s)
    clear hown1
    have HB1 := Lib.hid hbs1; clear hbs1
    go_wp2_with fail
    refine (i64_any a1 _ c1 _ v _ HB1.out (by omega)).mono ?_
    rintro e w2 ⟨v2, rfl, hown2, hb2⟩
    obtain ⟨a2, c2, rfl, hbs2, hcc2⟩ := own_len hown2 (16 + s.size) (by rw [List.length_append, txt_len, be8_len]; omega)
    have hB2 : Below W.heap.size W w2 := (hb0.trans (hb1.mono hz0)).trans (hb2.mono (Nat.le_trans hz0 hb1.size))
    have hz2 := hB2.size
    clear hown2 HB1 hb0 hb1 hb2 hz0 hcc1
    have HB2 := Lib.hid hbs2; clear hbs2
    by_cases h1 : cut < 0
    · go_wp2_with fail
      go_ret
      exact ⟨rfl, hB2⟩
    · by_cases h2 : (16 + s.size : Int) ≤ cut
      · go_wp2_with fail
        go_ret
        exact ⟨rfl, hB2⟩
      · obtain ⟨k, rfl⟩ := Int.eq_ofNat_of_zero_le (show 0 ≤ cut by omega)
        have hk : k < 16 + s.size := by omega
        have hk2 : k ≤ c2 := by omega
        go_wp2_with fail
        refine (read_any a2 k c2 _ _ (isB_take HB2.out k (by omega)) (by omega)).mono ?_
        rintro e w3 ⟨a, rfl, hr, ha1, ha2, hb3⟩
        have hB3 := hB2.trans (hb3.mono hz2)
        have hge : W.heap.size ≤ a := by omega
        have hm := cut_math s v k hk (by omega)
        have hl : (List.take k (txt s ++ be8 v)).length ≤ 140737488355328 := by rw [List.length_take]; omega
        generalize List.take k (txt s ++ be8 v) = B at hr hm hl
        clear hB2 hb3 ha1 HB2 hk2 hcc2
        have HM := Lib.hid hm; clear hm
        have HR := Lib.hid hr; clear hr
        have HL := Lib.hid hl; clear hl
        have hz3 := hB3.size
        go_wp2_with fail
        refine (rdText_any a _ _ (s.size : Int) _ HR.out HL.out).mono ?_
        rintro e w4 ⟨rfl, hr4, ho4⟩
        go_wp2_with fail
        have hl4 := Nat.le_trans (rT_len B false (s.size : Int)) HL.out
        refine (rdI64_any a _ _ _ hr4 hl4).mono ?_
        rintro e w5 ⟨rfl, hr5, ho5⟩
        rw [HM.out] at hr5 ⊢
        simp only at hr5 ⊢
        have ho35 := ho4.trans ho5
        clear hr4 ho4 ho5 hl4 HR HL HM
        go_wp2_with fail
        refine (bad_any a _ _ _ hr5).mono ?_
        rintro e v1 ⟨rfl, rfl⟩
        go_wp2_with fail
        refine (end_any a _ _ _ hr5).mono ?_
        rintro e v1 ⟨rfl, rfl⟩
        go_wp2_with fail
        refine (rdI64_any a _ _ _ hr5 (by decide)).mono ?_
        rintro e w6 ⟨rfl, hr6, ho6⟩
        rw [rI_short [] true (by decide)] at hr6 ⊢
        simp only at hr6 ⊢
        go_wp2_with fail
        refine (rdText_any a _ _ 9 _ hr6 (by decide)).mono ?_
        rintro e w7 ⟨rfl, hr7, ho7⟩
        rw [rT_short [] true 9 (by decide) (by decide)] at hr7 ⊢
        simp only at hr7 ⊢
        go_wp2_with fail
        refine (rdCount_any a _ _ 9 _ hr7 (by decide)).mono ?_
        rintro e w8 ⟨rfl, hr8, ho8⟩
        rw [rC_short [] true 9 (by decide) (by decide)] at hr8 ⊢
        simp only at hr8 ⊢
        go_wp2_with fail
        go_ret
        exact ⟨rfl, hB3.trans ((((ho35.trans ho6).trans ho7).trans ho8).below hz3 (by simpa using hge))⟩
theorem lit_i64' {z : Int} (h : (Lit.int .i64 z).wf = true) : -9223372036854775808 ≤ z ∧ z ≤ 9223372036854775807 := by
  simp only [Lit.wf, IntKind.min, IntKind.max, IntKind.signed, IntKind.bits, Bool.and_eq_true, decide_eq_true_eq, if_true] at h
  omega
theorem cut_said (s : ByteArray) (v cut : Int) (W : World) (hs : s.size ≤ 140737488351232) (hv : (Lit.int .i64 v).wf = true) (hc : (Lit.int .i64 cut).wf = true) :
    Calls Try.prog 6 #[.string s, .int .i64 v, .int .i64 cut] W fun e w' => e = .returned (.bool true) ∧ Below W.heap.size W w' :=
  cut_walk s v cut W (by omega) (lit_i64' hv).1 (lit_i64' hv).2 (lit_i64' hc).1 (lit_i64' hc).2
end Go.Proofs.Ytolijjofbdhanaa
