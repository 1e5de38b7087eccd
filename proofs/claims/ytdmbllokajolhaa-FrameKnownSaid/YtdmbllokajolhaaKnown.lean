/-
  The walk of FrameKnown.
-/
import Derived.Test.YtdmbllokajolhaaAw
namespace Go.Proofs.Ytdmbllokajolhaa
open Go.RowKit

theorem k12 : scanAll (List.replicate 12 0) = ([], 0, 2) := by
  have := scanAll_stop [] (List.replicate 12 0) (fun r hr => by cases hr) (by decide) (by decide +kernel)
  rw [frames_nil, List.nil_append] at this
  rw [this]
  decide +kernel
theorem k11 : scanAll (List.replicate 11 0) = ([], 0, 1) := by
  have := scanAll_stop [] (List.replicate 11 0) (fun r hr => by cases hr) (by decide) (by decide +kernel)
  rw [frames_nil, List.nil_append] at this
  rw [this]
  decide +kernel
theorem k0 : scanAll [] = ([], 0, 0) := rfl
theorem kTorn (r : List UInt8) (hr : r.length = 20000) : scanAll ((frameF r).take 20011) = ([], 0, 1) := by
  have := scanAll_torn [] r 20011 (fun r hr => by cases hr) (by omega) (by omega)
  rw [frames_nil, List.nil_append] at this
  rw [this]; rfl

/-- n bytes of nought, behind a name -/
def zeros (n : Nat) : List UInt8 := List.replicate n 0
theorem zeros_len (n : Nat) : (zeros n).length = n := List.length_replicate

set_option maxHeartbeats 1000000 in
theorem known_walk (W : World) : Calls Try.prog 3 #[] W fun e w' => e = .returned (.bool true) ∧ Below W.heap.size W w' := by
  go_enter Try.func3, Try.ntmps3
  go_wp2_with fail
  refine (awake_any _).mono ?_
  rintro e w0 ⟨rfl, hb0⟩
  have hz0 := hb0.size
  go_wp2_with (at_make; go_must (refine wpList_make_bytes rfl _ _ 23 rfl w0.heap.size 5 Try.underlying23 info5 20001 rfl rfl (by decide) (Nat.le_refl _) ?_); intro w1 hown1 hb1 hlt1)
  have hB1 : Below W.heap.size W w1 := hb0.trans (hb1.mono hz0)
  clear hown1 hb0 hb1
  refine (put_long none 0 0 _ 20001 20001 _ (by decide) (by decide)).mono ?_
  rintro e w2 ⟨rfl, rfl⟩
  have hz1 := hB1.size
  go_wp2_with (at_make; go_must (refine wpList_make_bytes rfl _ _ 23 rfl w1.heap.size 5 Try.underlying23 info5 20000 rfl rfl (by decide) (Nat.le_refl _) ?_); intro w3 hown3 hb3 hlt3)
  have hB3 : Below W.heap.size W w3 := hB1.trans (hb3.mono hz1)
  obtain ⟨a3, c3, hv3, hbs3⟩ := own_len hown3 20000 (by rw [List.length_replicate])
  obtain ⟨rfl, rfl⟩ : a3 = some ⟨w1.heap.size, 0, none⟩ ∧ c3 = 20000 := by
    simp only [Value.slice.injEq] at hv3
    exact ⟨hv3.1.symm, hv3.2.2.symm⟩
  generalize hzz : List.replicate 20000 (0 : UInt8) = zz at hbs3
  have hzl : zz.length = 20000 := by rw [← hzz, List.length_replicate]
  clear hzz hv3 hown3 hb3 hB1
  have H3 := Lib.hid hbs3; clear hbs3
  refine (put_ok none 0 0 [] _ 20000 20000 zz _ (isB_nil _) H3.out (by decide) (by decide)).mono ?_
  rintro e w4 ⟨v4, rfl, hown4, hb4⟩
  rw [List.nil_append] at hown4
  obtain ⟨a4, c4, rfl, hbs4, hc4, hcm4⟩ := own_room hown4 20012 (by rw [frameF_len, hzl])
  have hB4 : Below W.heap.size W w4 := hB3.trans (hb4.mono hB3.size)
  have hkt := kTorn zz hzl
  have h11 := isB_take hbs4 20011 (by decide)
  generalize (frameF zz).take 20011 = zt at h11 hkt
  clear hown4 hb4 hB3 H3 hbs4 hzl
  have H4 := Lib.hid h11; clear h11
  have HK := Lib.hid hkt; clear hkt
  have g4 : (20011 : Int) ≤ (c4 : Int) := by omega
  go_wp2_with fail
  refine (scan_any a4 20011 c4 _ _ H4.out (by decide) (by omega) hcm4).mono ?_
  rw [HK.out]
  rintro e w5 ⟨v5, he, hown5, hb5⟩
  unfold Recs at he
  subst he
  have hB5 : Below W.heap.size W w5 := hB4.trans (hb5.mono hB4.size)
  obtain ⟨a5, c5, rfl, _, _⟩ := hown5.isBB 0 rfl
  clear hown5 hb5 hB4 H4 HK
  go_wp2_with (at_make; go_must (refine wpList_make_bytes rfl _ _ 23 rfl w5.heap.size 5 Try.underlying23 info5 12 rfl rfl (by decide) (Nat.le_refl _) ?_); intro w6 hown6 hb6 hlt6)
  have hB6 : Below W.heap.size W w6 := hB5.trans (hb6.mono hB5.size)
  obtain ⟨a6, c6, hv6, hbs6⟩ := own_len hown6 12 (by rw [List.length_replicate])
  obtain ⟨rfl, rfl⟩ : a6 = some ⟨w5.heap.size, 0, none⟩ ∧ c6 = 12 := by
    simp only [Value.slice.injEq] at hv6
    exact ⟨hv6.1.symm, hv6.2.2.symm⟩
  have H6 := Lib.hid hbs6; clear hbs6 hv6 hown6 hb6 hB5
  refine (scan_any _ 12 12 _ _ H6.out (by decide) (by decide) (by decide)).mono ?_
  rw [k12]
  rintro e w7 ⟨v7, he, hown7, hb7⟩
  unfold Recs at he
  subst he
  have hB7 : Below W.heap.size W w7 := hB6.trans (hb7.mono hB6.size)
  obtain ⟨a7, c7, rfl, _, _⟩ := hown7.isBB 0 rfl
  clear hown7 hb7 hB6 H6
  go_wp2_with (at_make; go_must (refine wpList_make_bytes rfl _ _ 23 rfl w7.heap.size 5 Try.underlying23 info5 11 rfl rfl (by decide) (Nat.le_refl _) ?_); intro w8 hown8 hb8 hlt8)
  have hB8 : Below W.heap.size W w8 := hB7.trans (hb8.mono hB7.size)
  obtain ⟨a8, c8, hv8, hbs8⟩ := own_len hown8 11 (by rw [List.length_replicate])
  obtain ⟨rfl, rfl⟩ : a8 = some ⟨w7.heap.size, 0, none⟩ ∧ c8 = 11 := by
    simp only [Value.slice.injEq] at hv8
    exact ⟨hv8.1.symm, hv8.2.2.symm⟩
  have H8 := Lib.hid hbs8; clear hbs8 hv8 hown8 hb8 hB7
  refine (scan_any _ 11 11 _ _ H8.out (by decide) (by decide) (by decide)).mono ?_
  rw [k11]
  rintro e w9 ⟨v9, he, hown9, hb9⟩
  unfold Recs at he
  subst he
  have hB9 : Below W.heap.size W w9 := hB8.trans (hb9.mono hB8.size)
  obtain ⟨a9, c9, rfl, _, _⟩ := hown9.isBB 0 rfl
  clear hown9 hb9 hB8 H8
  go_wp2_with fail
  refine (scan_any none 0 0 [] _ (isB_nil _) (by decide) (by decide) (by decide)).mono ?_
  rw [k0]
  rintro e w10 ⟨v10, he, hown10, hb10⟩
  unfold Recs at he
  subst he
  have hB10 : Below W.heap.size W w10 := hB9.trans (hb10.mono hB9.size)
  obtain ⟨a10, c10, rfl, _, _⟩ := hown10.isBB 0 rfl
  clear hown10 hb10 hB9
  go_wp2_with fail
  go_ret
  exact ⟨rfl, hB10⟩
end Go.Proofs.Ytdmbllokajolhaa
