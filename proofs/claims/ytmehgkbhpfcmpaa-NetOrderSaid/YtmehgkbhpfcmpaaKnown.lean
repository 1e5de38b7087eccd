/-
  NetKnown: the walk.
-/
import Derived.Test.YtmehgkbhpfcmpaaCopy
namespace Go.Proofs.Ytmehgkbhpfcmpaa
open Go.RowKit

set_option maxHeartbeats 1000000 in
theorem new_bad (nodes room : Int) (w : World) (h : nodes < 1 ∨ (1 ≤ nodes ∧ 64 < nodes) ∨ (1 ≤ nodes ∧ nodes ≤ 64 ∧ room < 1)) :
    Calls Try.prog 9 #[.int .i64 nodes, .int .i64 room] w fun e w' => e = .returned (.tuple #[.pointer none, .int .i64 1]) ∧ w = w' := by
  rcases h with q1 | ⟨q1, q2⟩ | ⟨q1, q2, q3⟩
  all_goals
    go_enter Try.func9, Try.ntmps9
    go_wp2_with fail
    go_ret2
    exact ⟨rfl, rfl⟩
/-- messages without numbers, laid one behind the other -/
theorem ready_nil (wp : World) (l : List Ms) (hns : ∀ m ∈ l, m.ns = []) (cs : Array Value) (hcs : cs = (row5 (l.map fun m => (⟨m, .slice none 0 0⟩ : Mv))).toArray) : Ready wp (wp.alloc (.cells cs 32)) wp.heap.size l := by
  have hh := heap_new wp (.cells cs 32)
  have hcell : ∀ i j, i < l.length → j < 5 → (wp.alloc (.cells cs 32)).cell? ⟨wp.heap.size, i * 5 + j, none⟩ = (cells5 ⟨l.getD i m0, .slice none 0 0⟩)[j]? := by
    intro i j hi hj
    rw [cell_heap hh, hcs, List.getElem?_toArray, row5_at _ i j (by simpa using hi) hj]
    simp [hi]
  have hn : ∀ i, i < l.length → (l.getD i m0).ns = [] := fun i hi => hns _ (by simp [hi])
  refine ⟨(Below.refl _ _).alloc (Nat.le_refl _) _, Nat.le_refl _, ⟨?_, ?_⟩, ?_, ⟨_, _, hh⟩⟩
  · intro i hi
    refine ⟨none, 0, hcell i 0 hi (by decide), hcell i 1 hi (by decide), hcell i 2 hi (by decide), ?_, hcell i 4 hi (by decide), ?_⟩
    · rw [hcell i 3 hi (by decide), hn i hi]; rfl
    · rw [hn i hi]; exact isI_nil _
  · intro i hi
    rw [hn i hi]; exact Nat.zero_le _
  · intro i off c j hi hc
    rw [hcell i 3 hi (by decide)] at hc
    simp [cells5] at hc
def kn1 : Nt := ⟨2, 1, [⟨0, 1, 0, []⟩]⟩
set_option maxHeartbeats 8000000 in
set_option maxRecDepth 100000 in
theorem known_said (W : World) : Calls Try.prog 4 #[] W fun e w' => e = .returned (.bool true) ∧ Below W.heap.size W w' := by
  go_enter Try.func4, Try.ntmps4
  go_wp2_with fail
  refine (awake_any W).mono ?_
  rintro e w1 ⟨rfl, hb1⟩
  have HB1 := Lib.hid hb1; clear hb1
  go_wp2_with fail
  refine (new_bad 0 1 w1 (.inl (by decide))).mono ?_
  rintro e w2 ⟨rfl, rfl⟩
  go_wp2_with fail
  refine (new_bad 65 1 w1 (.inr (.inl (by decide)))).mono ?_
  rintro e w2 ⟨rfl, rfl⟩
  go_wp2_with fail
  refine (new_bad 2 0 w1 (.inr (.inr (by decide)))).mono ?_
  rintro e w2 ⟨rfl, rfl⟩
  go_wp2_with fail
  refine (new_ours W w1 W.heap.size 2 1 (by decide) (by decide) (by decide) (by decide) HB1.out HB1.out.size).mono ?_
  rintro e w2 ⟨a, rfl, hu⟩
  have HU2 := Lib.hid hu; clear hu
  go_wp2_with fail
  refine (send_ours HU2.out (ready_nil w2 [⟨0, 2, 0, []⟩, ⟨0, 1, 0, []⟩, ⟨0, 1, 0, []⟩] (by simp) _ rfl) 3 (by decide) (by decide) (by decide) (by decide) 1 3 rfl kn1 rfl rfl).mono ?_
  rintro e w3 ⟨rfl, hu⟩
  have HU3 := Lib.hid hu; clear hu
  go_wp2_with fail
  refine (copy_no HU3.out 0 (.inr (by decide))).mono ?_
  rintro e w4 ⟨rfl, hu⟩
  have HU4 := Lib.hid hu; clear hu
  go_wp2_with fail
  refine (at_no HU4.out 1 rfl).mono ?_
  rintro e w5 ⟨rfl, hu⟩
  unfold msgV
  have HU5 := Lib.hid (hu.later ((Below.refl _ _).alloc (Nat.le_refl _) zeros5)); clear hu
  unfold zeros5 at HU5
  have HL := Lib.hid (lose_some HU5.out 0 (by decide) (by decide))
  go_wp2_with fail
  refine HL.out.mono ?_
  rintro e w6 ⟨rfl, hu⟩
  have HU6 := Lib.hid hu; clear hu
  have HLN := Lib.hid (len_ours HU6.out)
  rw [show ((loseN kn1 0).l.length : Int) = 0 from rfl] at HLN
  go_wp2_with fail
  refine HLN.out.mono ?_
  rintro e w7 ⟨rfl, rfl⟩
  go_wp2_with fail
  refine (lose_none HU6.out 0 rfl).mono ?_
  rintro e w7 ⟨rfl, hu⟩
  have HU7 := Lib.hid hu; clear hu
  go_wp2_with fail
  refine (send_none HU7.out).mono ?_
  rintro e w8 ⟨rfl, hu⟩
  have HB8 := Lib.hid hu.below; clear hu
  go_wp2_with fail
  go_ret
  exact ⟨rfl, HB8.out⟩
end Go.Proofs.Ytmehgkbhpfcmpaa
