/-
  The walk of VecKnown: it returns true, and no memory that was there turns. No condition.
-/
import Derived.Test.YteiaejehdjekmaaAw
namespace Go.Proofs.Yteiaejehdjekmaa
open Go.RowKit

theorem far1 {a b : Nat} (h : a ≠ b) : a ∉ [b] := by simpa using h
/-- pointers in a new block -/
theorem them_new (w : World) (g : Nat) (ps : List (Nat × Nat)) (ms : List (List Int)) (hlen : ms.length = ps.length) (h : ∀ i, i < ps.length → IsV 48 w (ps.getD i (0, 0)).1 (ps.getD i (0, 0)).2 (ms.getD i []) ∧ (ps.getD i (0, 0)).2 ≠ g ∧ (ps.getD i (0, 0)).1 ≠ g)
    (hg : g < w.heap.size) (vs : Array Value) (hv : vs = (ps.map fun p => Value.pointer (some ⟨p.1, 0, none⟩)).toArray) (H : Nat) (hH : H = w.heap.size) (n : Nat) (hn : n = ps.length) (t : TypeId) :
    Them (w.alloc (.cells vs t)) H n g ms := by
  subst hH hv hn
  refine ⟨hlen, by omega, fun i hi => ?_⟩
  obtain ⟨h1, h2, h3⟩ := h i hi
  refine ⟨(ps.getD i (0, 0)).1, (ps.getD i (0, 0)).2, ?_, h1.only ((Only.refl [] w).alloc _) (by simp) (by simp), h2, h3⟩
  rw [World.cell?_alloc_mark]
  simp [hi]

theorem IsV.lt {T : TypeId} {w : World} {a g : Nat} {l : List Int} (h : IsV T w a g l) : g < w.heap.size := lt_of_heap h.row
theorem IsV.lta {T : TypeId} {w : World} {a g : Nat} {l : List Int} (h : IsV T w a g l) : a < w.heap.size := lt_of_heap h.ptr
theorem IsV.below {T : TypeId} {w w' : World} {a g : Nat} {l : List Int} (h : IsV T w a g l) (hb : Below w.heap.size w w') : IsV T w' a g l :=
  h.only (Only.ofBelow hb []) (by simp) (by simp)
theorem IsV.draws {T : TypeId} {w : World} {a g : Nat} {l : List Int} (h : IsV T w a g l) (n : Nat) : IsV T (w.drewN n) a g l := h.only ((Only.refl [] w).drewN n) (by simp) (by simp)

set_option maxHeartbeats 1000000 in
theorem known_walk (w : World) : Calls Try.prog 4 #[] w fun e w' => e = .returned (.bool true) ∧ Below w.heap.size w w' := by
  go_enter Try.func4, Try.ntmps4
  go_wp2_with fail
  refine (awake_any _).mono ?_
  rintro e w1 ⟨rfl, hb⟩
  go_wp2_with fail
  refine (new_bad 0 _ (by omega)).mono ?_
  rintro e w' ⟨rfl, rfl⟩
  go_wp2_with fail
  refine (new_bad 5 _ (by omega)).mono ?_
  rintro e w' ⟨rfl, rfl⟩
  go_wp2_with fail
  refine (new_ok 2 _ (by omega) (by omega)).mono ?_
  rintro e w2 ⟨rfl, hv, ho, hs⟩
  have hb2 : Below w.heap.size w w2 := hb.trans (ho.below hb.size (by intro k hk; cases hk))
  have hB1 := hb.size
  clear hb ho
  generalize w1.heap.size = B at hv hs hB1
  go_wp2_with fail
  refine (new_ok 3 _ (by omega) (by omega)).mono ?_
  rintro e w3 ⟨rfl, hx, ho, hs3⟩
  rw [hs] at hx hs3 ⊢
  have hv3 := hv.only ho (by simp) (by simp)
  have hb3 : Below w.heap.size w w3 := hb2.trans (ho.below hb2.size (by intro k hk; cases hk))
  clear hv hb2 ho hs
  go_wp2_with fail
  refine (see_any _ _ _ 1 7 _ hx).mono ?_
  rintro e w4 ⟨rfl, hx4, ho⟩
  have hv4 := hv3.only ho (far1 (by omega)) (far1 (by omega))
  have hb4 : Below w.heap.size w w4 := hb3.trans (ho.below hb3.size (by intro k hk; simp at hk; omega))
  rw [show seeL (List.replicate 3 0) 1 7 = [0, 7, 0] from by decide] at hx4
  clear hv3 hb3 ho hx
  go_wp2_with fail
  refine (see_any _ _ _ 2 9 _ hx4).mono ?_
  rintro e w5 ⟨rfl, hx5, ho⟩
  have hv5 := hv4.only ho (far1 (by omega)) (far1 (by omega))
  have hb5 : Below w.heap.size w w5 := hb4.trans (ho.below hb4.size (by intro k hk; simp at hk; omega))
  rw [show seeL [0, 7, 0] 2 9 = [0, 7, 9] from by decide] at hx5
  clear hv4 hb4 ho hx4
  go_wp2_with fail
  refine (see_any _ _ _ 0 3 _ hv5).mono ?_
  rintro e w6 ⟨rfl, hv6, ho⟩
  have hx6 := hx5.only ho (far1 (by omega)) (far1 (by omega))
  have hb6 : Below w.heap.size w w6 := hb5.trans (ho.below hb5.size (by intro k hk; simp at hk; omega))
  rw [show seeL (List.replicate 2 0) 0 3 = [3, 0] from by decide] at hv6
  clear hv5 hb5 ho hx5
  have hth := them_new w6 B [(B + 2 + 1, B + 2), (B + 2 + 1, B + 2)] [[0, 7, 9], [0, 7, 9]] rfl (fun i hi => by
    match i, hi with
    | 0, _ => exact ⟨hx6, by show B + 2 ≠ B; omega, by show B + 2 + 1 ≠ B; omega⟩
    | 1, _ => exact ⟨hx6, by show B + 2 ≠ B; omega, by show B + 2 + 1 ≠ B; omega⟩) hv6.lt #[.pointer (some ⟨B + 2 + 1, 0, none⟩), .pointer (some ⟨B + 2 + 1, 0, none⟩)] rfl w6.heap.size rfl 2 rfl 24
  have hv6' := hv6.only ((Only.refl [] _).alloc (.cells #[.pointer (some ⟨B + 2 + 1, 0, none⟩), .pointer (some ⟨B + 2 + 1, 0, none⟩)] 24)) (by simp) (by simp)
  have hx6' := hx6.only ((Only.refl [] _).alloc (.cells #[.pointer (some ⟨B + 2 + 1, 0, none⟩), .pointer (some ⟨B + 2 + 1, 0, none⟩)] 24)) (by simp) (by simp)
  have hb6' : Below w.heap.size w _ := hb6.alloc hb6.size (.cells #[.pointer (some ⟨B + 2 + 1, 0, none⟩), .pointer (some ⟨B + 2 + 1, 0, none⟩)] 24)
  clear hv6 hx6 hb6
  have HT := Lib.hid hth
  clear hth
  go_wp2_with fail
  refine (join_any _ _ _ _ 2 2 _ _ hv6' HT.out (by omega)).mono ?_
  rintro e w7 ⟨rfl, hv7, ho⟩
  have hx7 := hx6'.only ho (far1 (by omega)) (far1 (by omega))
  have hb7 : Below w.heap.size w w7 := hb6'.trans (ho.below hb6'.size (by intro k hk; simp at hk; omega))
  rw [show joinAll [3, 0] [[0, 7, 9], [0, 7, 9]] = [3, 7] from by decide] at hv7
  clear hv6' hx6' hb6' ho HT
  go_wp2_with fail
  refine (within_any _ _ _ _ _ _ _ hv7 hx7).mono ?_
  rintro e w8 ⟨rfl, d, rfl⟩
  rw [show withinB [3, 7] [0, 7, 9] = false from by decide]
  have hv8 := hv7.draws d
  have hb8 := below_drewN hb7 d
  clear hv7 hx7 hb7
  generalize w7.drewN d = w8 at hv8 hb8
  go_wp2_with fail
  refine (see_any _ _ _ 2 1 _ hv8).mono ?_
  rintro e w9 ⟨rfl, hv9, ho⟩
  have hb9 : Below w.heap.size w w9 := hb8.trans (ho.below hb8.size (by intro k hk; simp at hk; omega))
  rw [show seeB [3, 7] 2 1 = false from by decide]
  rw [show seeL [3, 7] 2 1 = [3, 7] from by decide] at hv9
  clear hv8 hb8 ho
  go_wp2_with fail
  refine (see_any _ _ _ (-1) 1 _ hv9).mono ?_
  rintro e w10 ⟨rfl, hv10, ho⟩
  have hb10 : Below w.heap.size w w10 := hb9.trans (ho.below hb9.size (by intro k hk; simp at hk; omega))
  rw [show seeB [3, 7] (-1) 1 = false from by decide]
  rw [show seeL [3, 7] (-1) 1 = [3, 7] from by decide] at hv10
  clear hv9 hb9 ho
  go_wp2_with fail
  refine (ready_any _ _ _ 2 99 _ hv10).mono ?_
  rintro e w' ⟨rfl, rfl⟩
  rw [show readyB [3, 7] 2 99 = false from by decide]
  go_wp2_with fail
  refine (at_any _ _ _ 9 _ hv10).mono ?_
  rintro e w' ⟨rfl, rfl⟩
  rw [show atL [3, 7] 9 = 0 from by decide]
  go_wp2_with fail
  refine (all_any _ _ _ _ hv10).mono ?_
  rintro e w11 ⟨v, rfl, hown, hb⟩
  have hv11 := hv10.below hb
  have hb11 : Below w.heap.size w w11 := hb10.trans (hb.mono hb10.size)
  obtain ⟨ao, c, rfl, hI⟩ := hown.isI
  clear hv10 hb10 hb hown
  go_wp2_with fail
  have hI2 := isI_new w11 [3, 7] #[.int .i64 3, .int .i64 7] (by rfl) 2 (0, 0) w11.heap.size rfl 2 rfl 2
  refine (same_any _ _ _ [3, 7] _ _ _ [3, 7] _ (hI.alloc _) hI2 (by decide) (by omega)).mono ?_
  rintro e w' ⟨rfl, d2, rfl⟩
  rw [show sameB [3, 7] [3, 7] = true from by decide]
  have hv12 := (hv11.only ((Only.refl [] _).alloc (.cells #[.int .i64 3, .int .i64 7] 2)) (by simp) (by simp)).draws d2
  have hb12 := below_drewN (hb11.alloc hb11.size (.cells #[.int .i64 3, .int .i64 7] 2)) d2
  clear hv11 hb11 hI hI2
  generalize (w11.alloc (.cells #[.int .i64 3, .int .i64 7] 2)).drewN d2 = w12 at hv12 hb12
  go_wp2_with fail
  refine (within_any _ _ _ _ _ _ _ hv12 hv12).mono ?_
  rintro e w' ⟨rfl, d3, rfl⟩
  rw [show withinB [3, 7] [3, 7] = true from by decide]
  have hv13 := hv12.draws d3
  have hb13 := below_drewN hb12 d3
  clear hv12 hb12
  generalize w12.drewN d3 = w13 at hv13 hb13
  go_wp2_with fail
  refine (see_any _ _ _ 0 (-4) _ hv13).mono ?_
  rintro e w14 ⟨rfl, hv14, ho⟩
  have hb14 : Below w.heap.size w w14 := hb13.trans (ho.below hb13.size (by intro k hk; simp at hk; omega))
  rw [show seeB [3, 7] 0 (-4) = false from by decide]
  go_wp2
  go_ret
  exact ⟨rfl, hb14⟩

end Go.Proofs.Yteiaejehdjekmaa
