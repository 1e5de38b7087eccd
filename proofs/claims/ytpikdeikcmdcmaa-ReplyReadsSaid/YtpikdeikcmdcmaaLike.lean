/-
  Whether two results are alike, the program's and the document's.
-/
import Derived.Test.YtpikdeikcmdcmaaRes
namespace Go.Proofs.Ytpikdeikcmdcmaa
open Go.RowKit
theorem below_two (w : World) (o p : Obj) : Below w.heap.size w ((w.alloc o).alloc p) :=
  ((Below.refl _ _).alloc (Nat.le_refl _) o).alloc (by simp) p
theorem below_drew {B : Nat} {a w : World} (h : Below B a w) (d : Nat) : Below B a (w.drewN d) := by
  induction d generalizing w with
  | zero => exact h
  | succ d ih => exact (ih h).drew

set_option maxHeartbeats 1000000 in
theorem alike_any (x y : Re) (v u : Value) (w : World) (h1 : NamesAt w v x.names) (h2 : NamesAt w u y.names) :
    Calls Try.prog 31 #[aggR x v, aggR y u] w fun e w' => e = .returned (.bool (decide (x = y))) ∧ Below w.heap.size w w' := by
  obtain ⟨ao, n, c, rfl, i1, b1⟩ := h1
  obtain ⟨bo, q, c2, rfl, i2, b2⟩ := h2
  cases x with
  | mk xe xp xd xn xa xb xc xg xh xi xj =>
  cases y with
  | mk ye yp yd yn ya yb yc yg yh yi yj =>
  simp only [aggR] at *
  by_cases h1 : xe = ye
  · subst h1
    have g1 : (xe == xe) = true := by simp
    by_cases h2 : xp = yp
    · subst h2
      have g2 : (xp.toList == xp.toList) = true := by simp
      by_cases h3 : xd = yd
      · subst h3
        have g3 : (xd.toList == xd.toList) = true := by simp
        go_enter Try.func31, Try.ntmps31
        go_wp2_with fail
        · refine (sameS43_any _ _ _ _ _ _ _ _ _ (i1.below (below_two _ _ _)) (i2.below (below_two _ _ _)) b1 b2).mono ?_
          rintro e w' ⟨rfl, d, rfl⟩
          go_wp2_with fail
          go_ret
          exact ⟨by simp_all [sameS], below_drew (below_two _ _ _) _⟩
        all_goals go_ret
        all_goals exact ⟨by simp_all, below_two _ _ _⟩

      · have g3 : (xd.toList == yd.toList) = false := by simpa using fun e => h3 (toList_inj e)
        go_enter Try.func31, Try.ntmps31
        go_wp2_with fail
        go_ret
        exact ⟨by simp [h3], below_two _ _ _⟩
    · have g2 : (xp.toList == yp.toList) = false := by simpa using fun e => h2 (toList_inj e)
      go_enter Try.func31, Try.ntmps31
      go_wp2_with fail
      go_ret
      exact ⟨by simp [h2], below_two _ _ _⟩
  · have g1 : (xe == ye) = false := by simpa using h1
    go_enter Try.func31, Try.ntmps31
    go_wp2_with fail
    go_ret
    exact ⟨by simp [h1], below_two _ _ _⟩

set_option maxHeartbeats 1000000 in
theorem one_any (x y : Re) (v u : Value) (w : World) (h1 : NamesAt w v x.names) (h2 : NamesAt w u y.names) :
    Calls Try.prog 34 #[aggR x v, aggR y u] w fun e w' => e = .returned (.bool (decide (x = y))) ∧ Below w.heap.size w w' := by
  obtain ⟨ao, n, c, rfl, i1, b1⟩ := h1
  obtain ⟨bo, q, c2, rfl, i2, b2⟩ := h2
  cases x with
  | mk xe xp xd xn xa xb xc xg xh xi xj =>
  cases y with
  | mk ye yp yd yn ya yb yc yg yh yi yj =>
  simp only [aggR] at *
  by_cases h1 : xe = ye
  · subst h1
    have g1 : (xe == xe) = true := by simp
    by_cases h2 : xp = yp
    · subst h2
      have g2 : (xp.toList == xp.toList) = true := by simp
      by_cases h3 : xd = yd
      · subst h3
        have g3 : (xd.toList == xd.toList) = true := by simp
        go_enter Try.func34, Try.ntmps34
        go_wp2_with fail
        refine (sameS44_any _ _ _ _ _ _ _ _ _ (i1.below (below_two _ _ _)) (i2.below (below_two _ _ _)) b1 b2).mono ?_
        rintro e w' ⟨rfl, d, rfl⟩
        by_cases h4 : xn = yn
        · subst h4
          have g4 : sameS xn xn = true := by simp [sameS]
          go_wp2_with fail
          all_goals go_ret
          all_goals exact ⟨by simp_all, below_drew (below_two _ _ _) _⟩
        · have g4 : sameS xn yn = false := by simp [sameS, h4]
          go_wp2_with fail
          go_ret
          exact ⟨by simp [h4], below_drew (below_two _ _ _) _⟩

      · have g3 : (xd.toList == yd.toList) = false := by simpa using fun e => h3 (toList_inj e)
        go_enter Try.func34, Try.ntmps34
        go_wp2_with fail
        go_ret
        exact ⟨by simp [h3], below_two _ _ _⟩
    · have g2 : (xp.toList == yp.toList) = false := by simpa using fun e => h2 (toList_inj e)
      go_enter Try.func34, Try.ntmps34
      go_wp2_with fail
      go_ret
      exact ⟨by simp [h2], below_two _ _ _⟩
  · have g1 : (xe == ye) = false := by simpa using h1
    go_enter Try.func34, Try.ntmps34
    go_wp2_with fail
    go_ret
    exact ⟨by simp [h1], below_two _ _ _⟩
end Go.Proofs.Ytpikdeikcmdcmaa
