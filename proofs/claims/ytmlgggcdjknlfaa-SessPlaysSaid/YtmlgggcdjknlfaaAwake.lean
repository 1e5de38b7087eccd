/-
  What the document tells of one whose time is over.
-/
import Derived.Test.YtmlgggcdjknlfaaIds
namespace Go.Proofs.Ytmlgggcdjknlfaa
open Go.RowKit

def awakeS : Ss := openS (newS 3) 2
theorem awake_t1 : overIds (awakeS.now + 1) awakeS.l = [] := by rfl
theorem awake_t2 : overIds ((tickS awakeS).now + 1) (tickS awakeS).l = [1] := by rfl
theorem awake_t3 : findS (tickS (tickS awakeS)).l 1 = -1 := by rfl
set_option maxHeartbeats 2000000 in
theorem awake_any (w : World) : Calls Try.prog 9 #[] w fun e w' => e = .returned (.bool true) ∧ Below w.heap.size w w' := by
  have H0 := Lib.hid (new_ok w.heap.size 3 w (by decide) (by decide) (Nat.le_refl _))
  go_enter Try.func9, Try.ntmps9
  go_wp2_with fail
  refine H0.out.mono ?_
  rintro e w1 ⟨rfl, hs1, hb1, hz1⟩
  have HO := Lib.hid (open_ok w.heap.size w.heap.size none (newS 3) 2 w1 hs1 (by decide) (by decide) (by decide) (by decide) (by decide) (by decide) (by decide) (by decide))
  clear hs1
  have HB1 := Lib.hid hb1; clear hb1 hz1
  go_wp2_with fail
  refine HO.out.mono ?_
  rintro e w2 ⟨g2, rfl, hs2, ho2, hg2⟩
  have HS2 := Lib.hid hs2; clear hs2
  have HO2 := Lib.hid ho2; clear ho2
  have hT1 := tick_any w.heap.size w.heap.size g2 awakeS w2 HS2.out (by decide) (by decide) (by decide)
  rw [awake_t1] at hT1
  have HT1 := Lib.hid hT1; clear hT1
  go_wp2_with fail
  refine HT1.out.mono ?_
  rintro e w3 ⟨v3, rfl, hv3, hs3, ho3⟩
  obtain ⟨a3, c3, rfl, hi3⟩ := hv3.isI
  have hT2 := tick_any w.heap.size w.heap.size g2 (tickS awakeS) w3 hs3 (by decide) (by decide) (by decide)
  rw [awake_t2] at hT2
  have HT2 := Lib.hid hT2; clear hT2
  have HO3 := Lib.hid ho3; clear ho3
  clear hs3 hi3 hv3
  go_wp2_with fail
  refine HT2.out.mono ?_
  rintro e w4 ⟨v4, rfl, hv4, hs4, ho4⟩
  obtain ⟨a4, c4, rfl, hi4⟩ := hv4.isI
  have HO4 := Lib.hid ho4; clear ho4
  have HS4 := Lib.hid hs4; clear hs4
  have HI4 := Lib.hid hi4; clear hi4
  clear hv4
  have HL4 := Lib.hid (isI_new w4 [1] _ (by rfl) 2 (0, 0) w4.heap.size rfl 1 rfl 1)
  have HI5 := Lib.hid (HI4.out.alloc (.cells #[.int .i64 1] 2))
  have HS5 := Lib.hid (HS4.out.keep ((Only.refl [] w4).alloc (.cells #[.int .i64 1] 2)) (by simp) (fun b _ => by simp))
  go_wp2_with fail
  refine (ids_any a4 1 c4 [1] _ 1 1 [1] _ HI5.out HL4.out (by decide) (by decide)).mono ?_
  rintro e w5 ⟨rfl, d, rfl⟩
  have HS6 := Lib.hid (HS5.out.heap (w' := (w4.alloc (.cells #[.int .i64 1] 2)).drewN d) rfl)
  rw [show sameI [1] [1] = true from rfl]
  go_wp2_with fail
  have hlv := live_any w.heap.size w.heap.size g2 (tickS (tickS awakeS)) 1 _ HS6.out (by decide)
  rw [awake_t3] at hlv
  refine hlv.mono ?_
  clear hlv
  rintro e w6 ⟨rfl, hb6⟩
  have HS7 := Lib.hid (HS6.out.below hb6)
  have HB6 := Lib.hid hb6; clear hb6
  go_wp2_with fail
  refine (now_any w.heap.size w.heap.size g2 (tickS (tickS awakeS)) w6 HS7.out).mono ?_
  rintro e w7 ⟨rfl, rfl⟩
  rw [show (tickS (tickS awakeS)).now = 2 from rfl]
  have hall : Below w.heap.size w w6 := by
    have hg : ∀ k ∈ w.heap.size :: g2.toList, w.heap.size ≤ k := by
      intro k hk
      rcases hg2 with rfl | ⟨j, rfl, hj⟩
      · simp at hk; omega
      · have := HB1.out.size
        simp at hk; omega
    have o1 : Only (w.heap.size :: g2.toList) w w6 := by
      refine (Only.ofBelow HB1.out _).trans ((HO2.out.mono ?_).trans (HO3.out.trans (HO4.out.trans ((((Only.refl _ w4).alloc _).drewN d).trans (Only.ofBelow HB6.out _)))))
      intro k hk
      simp at hk
      simp [hk]
    exact o1.below (Nat.le_refl _) hg
  have HALL := Lib.hid hall; clear hall
  go_wp2_with fail
  go_ret
  exact ⟨rfl, HALL.out⟩
end Go.Proofs.Ytmlgggcdjknlfaa
