/-
  The walk of PackKnown.
-/
import Derived.Test.YtolijjofbdhanaaAw
namespace Go.Proofs.Ytolijjofbdhanaa
open Go.RowKit

theorem k1 : rT (txt sAb) false 1 = ⟨⟨#[]⟩, [], true⟩ := by
  have h1 : rI (txt sAb) false = ⟨2, [97, 98], false⟩ := by
    unfold rI; rw [txtAb, if_neg (by decide)]
    have : val8 [0, 0, 0, 0, 0, 0, 0, 2, 97, 98] = 2 := by decide +kernel
    rw [this]; rfl
  have h2 : rC (txt sAb) false 1 = ⟨0, [], true⟩ := by unfold rC; rw [h1, if_pos (by decide)]
  unfold rT; rw [h2, if_neg (by decide)]; rfl
theorem k2 (bad : Bool) : rI [] bad = ⟨0, [], true⟩ := rfl
theorem k3 : be8s [-1, 7] = [255, 255, 255, 255, 255, 255, 255, 255, 0, 0, 0, 0, 0, 0, 0, 7] := by decide +kernel
theorem k4 : rI [255, 255, 255, 255, 255, 255, 255, 255, 0, 0, 0, 0, 0, 0, 0, 7] false = ⟨-1, [0, 0, 0, 0, 0, 0, 0, 7], false⟩ := by
  unfold rI; rw [if_neg (by decide)]
  have : val8 [255, 255, 255, 255, 255, 255, 255, 255, 0, 0, 0, 0, 0, 0, 0, 7] = -1 := by decide +kernel
  rw [this]; rfl
theorem k5 : rC [0, 0, 0, 0, 0, 0, 0, 7] false 6 = ⟨0, [], true⟩ := by
  have h1 : rI [0, 0, 0, 0, 0, 0, 0, 7] false = ⟨7, [], false⟩ := by
    unfold rI; rw [if_neg (by decide)]
    have : val8 [0, 0, 0, 0, 0, 0, 0, 7] = 7 := by decide +kernel
    rw [this]; rfl
  unfold rC; rw [h1, if_pos (by decide)]
theorem k6 : rT [] false 9 = ⟨⟨#[]⟩, [], true⟩ := by
  have h2 : rC [] false 9 = ⟨0, [], true⟩ := by unfold rC; rw [k2, if_neg (by decide)]
  unfold rT; rw [h2, if_neg (by decide)]; rfl

theorem own_bytes {w : World} {base : Nat} {e : TypeId} {v : Value} {l : List UInt8} (h : OwnB w base e v l) (n : Nat) (hn : l.length = n) : ∃ ao c, v = .slice ao n c ∧ IsB w ao n c l := by
  subst hn; exact h.isB
set_option maxHeartbeats 400000 in
theorem known_walk (W : World) : Calls Try.prog 8 #[] W fun e w' => e = .returned (.bool true) ∧ Below W.heap.size W w' := by
  go_enter Try.func8, Try.ntmps8
  go_wp2_with fail
  refine (awake_any _).mono ?_
  rintro e w0 ⟨rfl, hb0⟩
  have hz0 := hb0.size
  go_wp2_with fail
  refine (text_any none 0 0 [] sAb _ (isB_nil _) (by decide) (by decide)).mono ?_
  rintro e w1 ⟨v, rfl, hown, hb1⟩
  have hz1 := hb1.size
  rw [List.nil_append] at hown
  obtain ⟨ao, c, rfl, hbs⟩ := own_bytes hown 10 (by decide +kernel)
  clear hown
  go_wp2_with fail
  refine (read_any ao 10 c _ _ hbs (by decide)).mono ?_
  rintro e w2 ⟨a, rfl, hr, ha1, ha2, hb2⟩
  have hb : Below W.heap.size W w2 := (hb0.trans (hb1.mono hz0)).trans (hb2.mono (by omega))
  have hge : W.heap.size ≤ a := by omega
  clear hb0 hb1 hb2 hbs hz0 hz1 ha1
  go_wp2_with fail
  refine (rdText_any a _ _ 1 _ hr (by decide +kernel)).mono ?_
  rintro e w3 ⟨rfl, hr3, ho3⟩
  rw [k1] at hr3 ⊢
  simp only at hr3 ⊢
  clear hr
  go_wp2_with fail
  refine (rdI64_any a _ _ _ hr3 (by decide)).mono ?_
  rintro e w4 ⟨rfl, hr4, ho4⟩
  rw [k2] at hr4 ⊢
  simp only at hr4 ⊢
  clear hr3
  have hz2 := hb.size
  have hB : Below W.heap.size W w4 := hb.trans ((ho3.trans ho4).below hz2 (by simpa using hge))
  have ha4 : a < w4.heap.size := Nat.lt_of_lt_of_le ha2 (ho3.trans ho4).size
  clear hb ho3 ho4 hz2 ha2
  have hz4 := hB.size
  go_wp2_with fail
  refine (all_any none 0 0 [] _ 2 2 [-1, 7] _ (isB_nil _) (isI_new _ [-1, 7] _ (by rfl) _ _ _ rfl 2 rfl 2) (by decide) (by decide)).mono ?_
  rintro e w5 ⟨v5, rfl, hown5, hb5⟩
  rw [List.nil_append, k3] at hown5
  obtain ⟨ao5, c5, rfl, hbs5⟩ := own_bytes hown5 16 (by decide +kernel)
  clear hown5
  go_wp2_with fail
  refine (read_any ao5 16 c5 _ _ hbs5 (by decide)).mono ?_
  rintro e w6 ⟨a6, rfl, hr6, ha61, ha62, hb6⟩
  have hB6 : Below W.heap.size W w6 := ((hB.alloc hz4 _).trans (hb5.mono (by simp; omega))).trans (hb6.mono (by have := hb5.size; simp at this; omega))
  have hr46 : IsR w6 a _ [] true := (hr4.only (((Below.refl _ _).alloc (Nat.le_refl _) _).trans (hb5.mono (by simp)))).only hb6
  have hlt6 : w4.heap.size < w5.heap.size := by have := hb5.size; simp at this; omega
  have hne6 : a ∉ [a6] := by simp; omega
  have hge6 : W.heap.size ≤ a6 := by omega
  have hz6 := hB6.size
  clear hB hb5 hb6 hr4 hbs5
  go_wp2_with fail
  refine (rdI64_any a6 _ _ _ hr6 (by decide)).mono ?_
  rintro e w7 ⟨rfl, hr7, ho7⟩
  rw [k4] at hr7 ⊢
  simp only at hr7 ⊢
  clear hr6
  go_wp2_with fail
  refine (rdCount_any a6 _ _ 6 _ hr7 (by decide)).mono ?_
  rintro e w8 ⟨rfl, hr8, ho8⟩
  rw [k5] at hr8 ⊢
  simp only at hr8 ⊢
  clear hr7
  have ho68 := ho7.trans ho8
  have hr48 := hr46.keep ho68 hne6 (fun k hk => by simp; omega)
  have hB8 : Below W.heap.size W w8 := hB6.trans (ho68.below hz6 (by simpa using hge6))
  have hz8 := hB8.size
  clear hB6 hr46 ho7 ho8 ho68 hz6
  go_wp2_with fail
  refine (read_any none 0 0 [] _ (isB_nil _) (by decide)).mono ?_
  rintro e w9 ⟨a9, rfl, hr9, ha91, ha92, hb9⟩
  have hB9 : Below W.heap.size W w9 := hB8.trans (hb9.mono hz8)
  have hr49 := hr48.only hb9
  have hr89 := hr8.only hb9
  have hz9 := hB9.size
  have hge9 : W.heap.size ≤ a9 := by omega
  clear hB8 hb9 hr48 hr8 hz8
  go_wp2_with fail
  refine (bad_any a _ _ _ hr49).mono ?_
  rintro e v1 ⟨rfl, rfl⟩
  go_wp2_with fail
  refine (end_any a _ _ _ hr49).mono ?_
  rintro e v1 ⟨rfl, rfl⟩
  clear hr49
  go_wp2_with fail
  refine (bad_any a6 _ _ _ hr89).mono ?_
  rintro e v1 ⟨rfl, rfl⟩
  clear hr89
  go_wp2_with fail
  refine (end_any a9 _ _ _ hr9).mono ?_
  rintro e v1 ⟨rfl, rfl⟩
  go_wp2_with fail
  refine (bad_any a9 _ _ _ hr9).mono ?_
  rintro e v1 ⟨rfl, rfl⟩
  go_wp2_with fail
  refine (rdText_any a9 _ _ 9 _ hr9 (by decide)).mono ?_
  rintro e w10 ⟨rfl, hr10, ho10⟩
  rw [k6] at hr10 ⊢
  simp only at hr10 ⊢
  have hB10 : Below W.heap.size W w10 := hB9.trans (ho10.below hz9 (by simpa using hge9))
  have hz10 := hB10.size
  clear hr9 ho10 hB9 hz9
  go_wp2_with fail
  refine (bad_any a9 _ _ _ hr10).mono ?_
  rintro e v1 ⟨rfl, rfl⟩
  go_wp2_with fail
  refine (all_any none 0 0 [] none 0 0 [] _ (isB_nil _) (isI_nil _) (by decide) (by decide)).mono ?_
  rintro e w11 ⟨v11, rfl, hown11, hb11⟩
  obtain ⟨ao11, c11, rfl, hbs11⟩ := own_bytes hown11 0 rfl
  clear hown11 hbs11
  go_wp2
  go_ret
  exact ⟨rfl, hB10.trans (hb11.mono hz10)⟩
end Go.Proofs.Ytolijjofbdhanaa
