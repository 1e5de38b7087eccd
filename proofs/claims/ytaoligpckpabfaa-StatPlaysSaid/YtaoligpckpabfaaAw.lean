/-
  What the document tells of a new node. No condition.
-/
import Derived.Test.YtaoligpckpabfaaNd2
import Derived.Test.YtaoligpckpabfaaQuiet
namespace Go.Proofs.Ytaoligpckpabfaa
open Go.RowKit
theorem newZ_wf (z o : Int) (d : ByteArray) : WfN (newZ z o d) := ⟨by unfold newZ I64; simp, by unfold newZ I64; simp, by unfold newZ I64; simp⟩
/-- a new node in a block of its own -/
theorem isNd_new (w : World) (z o : Int) (d : ByteArray) (A : List Nat) (H : Nat) (hH : H = w.heap.size) (hA : H ∈ A) : IsNd (w.alloc (.cells (cellsN (newZ z o d) (.slice none 0 0)) 27)) A H (newZ z o d) := by
  subst hH
  exact ⟨⟨none, 0, 0, heap_new _ _, isS_nil _, by omega, fun p hp => by cases hp⟩, hA⟩
theorem IsNd.cells {w : World} {A : List Nat} {a : Nat} {s : Nd} (h : IsNd w A a s) : ∃ ao c, (∀ j, w.cell? ⟨a, j, none⟩ = (cellsN s (.slice ao s.names.length c))[j]?) ∧ IsS w ao s.names.length c s.names := by
  obtain ⟨⟨ao, n, c, h1, h2, h3, h4⟩, h5⟩ := h
  obtain rfl : s.names.length = n := h2.len
  exact ⟨ao, c, fun j => cell_heap h1 j, h2⟩
theorem below_of_only {w w1 w2 : World} {B a : Nat} (h1 : Below B w w1) (h2 : Only [a] w1 w2) (ha : B ≤ a) (hB : B ≤ w.heap.size) : Below B w w2 :=
  h1.trans (h2.below (Nat.le_trans hB h1.size) (by simpa using ha))
theorem add_awake : addZ (newZ 5 0 ⟨#[97, 98]⟩) ⟨#[120]⟩ = ⟨5, 5, 0, 1, 0, 2, 1, ⟨#[97, 98]⟩, 1, [⟨#[120]⟩]⟩ := by kernel_rfl
theorem here_awake : hereS (newZ 5 0 ⟨#[97, 98]⟩).names ⟨#[120]⟩ = false := by kernel_rfl
set_option maxHeartbeats 1000000 in
theorem awake_any (w : World) : Calls Try.prog 9 #[] w fun e w' => e = .returned (.bool true) ∧ Below w.heap.size w w' := by
  go_enter Try.func9, Try.ntmps9
  go_wp2_with fail
  refine (new_any _ _ _ _).mono ?_
  rintro e w1 ⟨rfl, hb1⟩
  have hn := isNd_new w1 5 0 ⟨#[97, 98]⟩ [w1.heap.size] w1.heap.size rfl (by simp)
  have HC := Lib.hid (add_any _ _ _ ⟨#[120]⟩ _ hn (newZ_wf _ _ _) (by simp) (by simp [newZ]))
  have HB := Lib.hid (hb1.alloc hb1.size (.cells (cellsN (newZ 5 0 ⟨#[97, 98]⟩) (.slice none 0 0)) 27))
  have hsz := hb1.size
  simp only [aggN, cellsN, newZ]
  go_wp2_with fail
  refine HC.out.mono ?_
  rw [here_awake, add_awake]
  rintro e w2 ⟨rfl, hi2, ho2⟩
  obtain ⟨ao, c, hc, _⟩ := hi2.cells
  have hc0 := hc 0
  have hc2 := hc 2
  have hc3 := hc 3
  have hc5 := hc 5
  have hc6 := hc 6
  have hc8 := hc 8
  have hc9 := hc 9
  have HBE := Lib.hid (below_of_only HB.out ho2 hsz (Nat.le_refl _))
  have HE := Lib.hid (eph_any _ _ _ w2 hi2)
  simp only [cellsN] at hc0 hc2 hc3 hc5 hc6 hc8 hc9
  clear hc hi2 ho2 hn HB HC
  generalize w1.heap.size = a at *
  go_wp2_with fail
  refine HE.out.mono ?_
  rintro e w3 ⟨rfl, rfl⟩
  go_wp2_with fail
  go_ret
  exact ⟨rfl, HBE.out⟩
end Go.Proofs.Ytaoligpckpabfaa
