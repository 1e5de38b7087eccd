/-
  The walk of VecJoins: it returns true, and no memory that was there turns. Condition: each slice has at most 17592186044415 elements.
-/
import Derived.Test.YteiaejehdjekmaaRises
import Derived.StillTailTactics
namespace Go.Proofs.Yteiaejehdjekmaa
open Go.RowKit

set_option maxHeartbeats 400000 in
theorem joins_out (ao bo co : Option Addr) (n c n2 c2 n3 c3 : Nat) (w : World) (t1 t2 t3 : Bool) (h1 : decide ((n : Int) < 1) = t1) (h2 : t1 = false → decide (4 < (n : Int)) = t2) (h3 : t1 = false → t2 = false → ((n2 : Int) != (n : Int)) = t3) (h4 : t1 = false → t2 = false → t3 = false → ((n3 : Int) != (n : Int)) = true) :
    Calls Try.prog 7 #[.slice ao n c, .slice bo n2 c2, .slice co n3 c3] w fun e w' => e = .returned (.bool true) ∧ Below w.heap.size w w' := by
  go_enter Try.func7, Try.ntmps7
  go_wp2_with fail
  refine (awake_any _).mono ?_
  rintro e w1 ⟨rfl, hb⟩
  go_wp2_with fail
  all_goals go_ret
  all_goals exact ⟨rfl, hb⟩

theorem jl {n : Nat} {l m : List Int} (hl : l.length = n) (hm : m.length = n) : (joinL l m).length = n ∧ ∀ j, j < n → (joinL l m).getD j 0 = max (l.getD j 0) (m.getD j 0) :=
  ⟨by rw [joinL_len, hl], fun j hj => joinL_at l m (by rw [hl, hm]) j (by rw [hl]; exact hj)⟩

/-- whichever order, once or often: the same -/
theorem joins_law (n : Nat) (a b c : List Int) (ha : a.length = n) (hb : b.length = n) (hc : c.length = n) :
    joinAll (List.replicate n 0) [a, b, c] = joinAll (joinAll (List.replicate n 0) [c, a]) [b, c, a] := by
  have l0 : (List.replicate n (0 : Int)).length = n := by simp
  obtain ⟨p1, q1⟩ := jl l0 ha
  obtain ⟨p2, q2⟩ := jl p1 hb
  obtain ⟨p3, q3⟩ := jl p2 hc
  obtain ⟨r1, s1⟩ := jl l0 hc
  obtain ⟨r2, s2⟩ := jl r1 ha
  obtain ⟨r3, s3⟩ := jl r2 hb
  obtain ⟨r4, s4⟩ := jl r3 hc
  obtain ⟨r5, s5⟩ := jl r4 ha
  simp only [joinAll, List.foldl]
  apply list_eq
  · rw [p3, r5]
  · intro j hj
    rw [p3] at hj
    rw [q3 j hj, q2 j hj, q1 j hj, s5 j hj, s4 j hj, s3 j hj, s2 j hj, s1 j hj]
    clear q3 q2 q1 s5 s4 s3 s2 s1
    generalize (List.replicate n (0 : Int)).getD j 0 = x, a.getD j 0 = y, b.getD j 0 = z, c.getD j 0 = u
    omega

theorem index_three (v : Nat → Value) (k : Nat) (hk : k < 3) (w : World) : (Instr.index 45 (.agg #[v 0, v 1, v 2]) (.int .i64 (k : Int))).run Try.prog w = .ok (v k) w := by
  rcases (by omega : k = 0 ∨ k = 1 ∨ k = 2) with rfl | rfl | rfl
  · show (Instr.index 45 (.agg #[v 0, v 1, v 2]) (.int .i64 0)).run Try.prog w = .ok (v 0) w
    kernel_rfl
  · show (Instr.index 45 (.agg #[v 0, v 1, v 2]) (.int .i64 1)).run Try.prog w = .ok (v 1) w
    kernel_rfl
  · show (Instr.index 45 (.agg #[v 0, v 1, v 2]) (.int .i64 2)).run Try.prog w = .ok (v 2) w
    kernel_rfl

/-- what lies in the law's array after k of the three were made -/
def pt (A k i : Nat) : Value := if i < k then .pointer (some ⟨A + 1 + 2 * i + 1, 0, none⟩) else .pointer none

structure St (w wr : World) (A n k : Nat) (L : Nat → List Int) : Prop where
  row : wr.heap[A]? = some (.cells #[pt A k 0, pt A k 1, pt A k 2] 44 (0, 0))
  vs : ∀ i, i < k → IsV 48 wr (A + 1 + 2 * i + 1) (A + 1 + 2 * i) (seen n (L i))
  size : wr.heap.size = A + 1 + 2 * k
  below : Below w.heap.size w wr

theorem St.start {w w1 : World} (h : Below w.heap.size w w1) (n : Nat) (L : Nat → List Int) : St w (w1.alloc (.cells #[.pointer none, .pointer none, .pointer none] 44)) w1.heap.size n 0 L :=
  ⟨heap_new _ _, fun i hi => by omega, by simp, h.alloc h.size _⟩
theorem pt_at (A k i : Nat) (hi : i < 3) : (#[pt A k 0, pt A k 1, pt A k 2] : Array Value)[i]? = some (pt A k i) := by
  rcases (by omega : i = 0 ∨ i = 1 ∨ i = 2) with rfl | rfl | rfl <;> rfl
theorem pt_set (A k : Nat) (hk : k < 3) : (#[pt A k 0, pt A k 1, pt A k 2] : Array Value).setIfInBounds k (.pointer (some ⟨A + 1 + 2 * k + 1, 0, none⟩)) = #[pt A (k + 1) 0, pt A (k + 1) 1, pt A (k + 1) 2] := by
  rcases (by omega : k = 0 ∨ k = 1 ∨ k = 2) with rfl | rfl | rfl <;> rfl

/-- inside the round: one is made, its pointer stored, j places seen -/
structure Mid (w wr : World) (A n k j : Nat) (L : Nat → List Int) : Prop where
  row : wr.heap[A]? = some (.cells #[pt A (k + 1) 0, pt A (k + 1) 1, pt A (k + 1) 2] 44 (0, 0))
  vs : ∀ i, i < k → IsV 48 wr (A + 1 + 2 * i + 1) (A + 1 + 2 * i) (seen n (L i))
  cur : IsV 48 wr (A + 1 + 2 * k + 1) (A + 1 + 2 * k) (rjoinTo (List.replicate n 0) (L k) j)
  size : wr.heap.size = A + 1 + 2 * (k + 1)
  below : Below w.heap.size w wr

theorem Mid.start {w wr w2 : World} {A n k : Nat} {L : Nat → List Int} (h : St w wr A n k L) (hA : w.heap.size ≤ A) (hk : k < 3) (hv : IsV 48 w2 (A + 1 + 2 * k + 1) (A + 1 + 2 * k) (List.replicate n 0)) (ho : Only [] wr w2) (hs : w2.heap.size = A + 1 + 2 * k + 2) :
    Mid w (w2.setCell ⟨A, k, none⟩ (.pointer (some ⟨A + 1 + 2 * k + 1, 0, none⟩))) A n k 0 L := by
  have hr := ho.keeps h.row (by simp)
  have hset : Only [A] w2 (w2.setCell ⟨A, k, none⟩ (.pointer (some ⟨A + 1 + 2 * k + 1, 0, none⟩))) := (Only.refl _ _).setCell (by simp) _
  refine ⟨?_, fun i hi => ((h.vs i hi).only ho (by simp) (by simp)).only hset (far1 (by omega)) (far1 (by omega)), hv.only hset (far1 (by omega)) (far1 (by omega)), by simp [World.setCell]; omega, ?_⟩
  · rw [heap_set hr, pt_set A k hk]
  · have hz := h.below.size
    exact (h.below.trans (ho.below hz (by intro q hq; cases hq))).trans (hset.below (by have := ho.size; omega) (by intro q hq; have := List.mem_singleton.1 hq; omega))
theorem Mid.next {w wr w2 : World} {A n k j : Nat} {L : Nat → List Int} (h : Mid w wr A n k j L) (hA : w.heap.size ≤ A) (hv : IsV 48 w2 (A + 1 + 2 * k + 1) (A + 1 + 2 * k) (rjoinTo (List.replicate n 0) (L k) (j + 1))) (ho : Only [A + 1 + 2 * k] wr w2) (hs : w2.heap.size = wr.heap.size) :
    Mid w w2 A n k (j + 1) L :=
  ⟨ho.keeps h.row (far1 (by omega)), fun i hi => (h.vs i hi).only ho (far1 (by omega)) (far1 (by omega)), hv, by rw [hs]; exact h.size, h.below.trans (ho.below h.below.size (by intro q hq; have := List.mem_singleton.1 hq; omega))⟩
theorem Mid.drew {w wr : World} {A n k j : Nat} {L : Nat → List Int} (h : Mid w wr A n k j L) : Mid w wr.drew A n k j L :=
  ⟨h.row, fun i hi => (h.vs i hi).drew, h.cur.drew, h.size, h.below.drew⟩
theorem Mid.done {w wr : World} {A n k : Nat} {L : Nat → List Int} (h : Mid w wr A n k n L) : St w wr A n (k + 1) L := by
  refine ⟨h.row, fun i hi => ?_, h.size, h.below⟩
  by_cases hik : i = k
  · subst hik; exact h.cur
  · exact h.vs i (by omega)

set_option maxHeartbeats 2000000 in
theorem joins_in (AO : Nat → Option Addr) (n : Nat) (CC : Nat → Nat) (L : Nat → List Int) (w : World) (hL : ∀ k, k < 3 → IsI w (AO k) n (CC k) (L k)) (h1 : 1 ≤ n) (h4 : n ≤ 4) :
    Calls Try.prog 7 #[.slice (AO 0) n (CC 0), .slice (AO 1) n (CC 1), .slice (AO 2) n (CC 2)] w fun e w' => e = .returned (.bool true) ∧ Below w.heap.size w w' := by
  have d1 : decide ((n : Int) < 1) = false := by simp; omega
  have d2 : decide ((4 : Int) < (n : Int)) = false := by simp; omega
  have d3 : ((n : Int) != (n : Int)) = false := by simp
  have HL := Lib.hid hL
  clear hL
  generalize hA0 : AO 0 = a0
  generalize hA1 : AO 1 = a1
  generalize hA2 : AO 2 = a2
  generalize hC0 : CC 0 = c0
  generalize hC1 : CC 1 = c1
  generalize hC2 : CC 2 = c2
  have hix : ∀ k : Nat, k < 3 → ∀ w, (Instr.index 45 (.agg #[.slice a0 n c0, .slice a1 n c1, .slice a2 n c2]) (.int .i64 (k : Int))).run Try.prog w = .ok (.slice (AO k) n (CC k)) w := by
    intro k hk w
    rw [← hA0, ← hA1, ← hA2, ← hC0, ← hC1, ← hC2]
    exact index_three (fun k => .slice (AO k) n (CC k)) k hk w
  have HIX := Lib.hid hix
  clear hA0 hA1 hA2 hC0 hC1 hC2 hix
  go_enter Try.func7, Try.ntmps7
  go_wp2_with fail
  refine (awake_any _).mono ?_
  rintro e w1 ⟨rfl, hb⟩
  have hA := hb.size
  have hst := St.start hb n L
  have HAdr := Lib.hid hb
  clear hb
  go_wp2_with fail
  generalize w1.alloc (.cells #[.pointer none, .pointer none, .pointer none] 44) = w2 at hst
  generalize w1.heap.size = A at hst hA
  clear HAdr
  go_loopw [8] (fun i wr => ∃ k : Nat, k ≤ 3 ∧ i = .int .i64 k ∧ St w wr A n k L) (fun i _ => 3 - (intOf i).toNat)
  case atStart => exact ⟨0, Nat.zero_le _, rfl, hst⟩
  case round =>
    obtain ⟨k, hk, rfl, hS⟩ := hrel
    clear hst
    by_cases hlt : k < 3
    · have ix := HIX.out k hlt
      have hsz := hS.size
      go_wp2_with fail
      refine (new_ok n _ h1 h4).mono ?_
      rintro e w3 ⟨rfl, hv, ho, hs⟩
      rw [hsz] at hv hs ⊢
      have hr := ho.keeps hS.row (by simp)
      have q0 : w3.cell? ⟨A, k, none⟩ = some (.pointer none) := by
        rw [cell_heap hr, pt_at A k k hlt]
        simp [pt]
      have f0 := free_heap hr k
      have hM := Mid.start hS hA hlt hv ho hs
      have HM := Lib.hid hM
      clear hM hr hv ho hS hs hsz
      go_wp2_with fail
      generalize w3.setCell ⟨A, k, none⟩ (.pointer (some ⟨A + 1 + 2 * k + 1, 0, none⟩)) = w4 at HM
      clear q0 f0
      go_loopw [9] (fun i wr => ∃ j : Nat, j ≤ n ∧ i = .int .i64 j ∧ Mid w wr A n k j L) (fun i _ => n - (intOf i).toNat)
      case atStart => exact ⟨0, Nat.zero_le _, rfl, HM.out⟩
      case round =>
        obtain ⟨j, hj, rfl, hM⟩ := hrel
        clear HM
        by_cases hltj : j < n
        · rcases (HL.out k hlt).at_ with h0 | ⟨b, off, hao, hcl⟩
          · omega
          rw [hao] at ix
          have c0 := cell_later hM.below (hcl j hltj)
          have q1 : wr.cell? ⟨A, k, none⟩ = some (.pointer (some ⟨A + 1 + 2 * k + 1, 0, none⟩)) := by
            rw [cell_heap hM.row, pt_at A (k + 1) k hlt]
            simp [pt]
          have HR := Lib.hid (show rjoinTo (List.replicate n 0) (L k) (j + 1) = seeL (rjoinTo (List.replicate n 0) (L k) j) (j : Int) ((L k).getD j 0) from rfl)
          generalize (L k).getD j 0 = z at c0 HR
          have HMM := Lib.hid hM.drew
          clear hM hcl hao
          go_wp2_with fail
          go_still_tail 13, (by kernel_rfl)
          change wpList _ _ _ _ _ wr.drew
          generalize wr.drew = wd at HMM
          clear q1 c0 ix
          go_wp2_with fail
          refine (see_all _ _ _ _ _ _ HMM.out.cur).mono ?_
          rintro e w5 ⟨rfl, hv5, ho5, hs5⟩
          rw [← HR.out] at hv5
          have HM2 := Lib.hid (HMM.out.next hA hv5 ho5 hs5)
          clear hv5 ho5 hs5 HR HMM
          go_wp2_with fail
          go_roundw
          case rel => exact ⟨j + 1, by omega, by go_num, HM2.out⟩
          case measure => simp [intOf]; omega
        · obtain rfl : j = n := by omega
          have HD := Lib.hid hM.done
          clear hM ix
          go_wp2_with fail
          go_roundw
          case rel => exact ⟨k + 1, by omega, by go_num, HD.out⟩
          case measure => simp [intOf]; omega
    · obtain rfl : k = 3 := by omega
      have hsz := hS.size
      have v0 := hS.vs 0 (by omega)
      have v1 := hS.vs 1 (by omega)
      have v2 := hS.vs 2 (by omega)
      have hr := hS.row
      have hb := hS.below
      clear hS
      simp only [Nat.mul_zero, Nat.add_zero, Nat.mul_one] at v0 v1 v2
      have e0 := seen_len n (L 0)
      have e1 := seen_len n (L 1)
      have e2 := seen_len n (L 2)
      generalize seen n (L 0) = X at v0 e0
      generalize seen n (L 1) = Y at v1 e1
      generalize seen n (L 2) = Z at v2 e2
      have E0 := Lib.hid e0
      have E1 := Lib.hid e1
      have E2 := Lib.hid e2
      clear e0 e1 e2 HIX HL
      go_wp2_with fail
      refine (new_ok n _ h1 h4).mono ?_
      rintro e w5 ⟨rfl, hx, ho, hs⟩
      rw [hsz] at hx hs ⊢
      replace hr := ho.keeps hr (by simp)
      replace v0 := v0.only ho (by simp) (by simp)
      replace v1 := v1.only ho (by simp) (by simp)
      replace v2 := v2.only ho (by simp) (by simp)
      replace hb : Below w.heap.size w w5 := hb.trans (ho.below hb.size (by intro q hq; cases hq))
      clear ho hsz
      go_wp2_with fail
      refine (new_ok n _ h1 h4).mono ?_
      rintro e w6 ⟨rfl, hy, ho, hs6⟩
      rw [hs] at hy hs6 ⊢
      replace hr := ho.keeps hr (by simp)
      replace v0 := v0.only ho (by simp) (by simp)
      replace v1 := v1.only ho (by simp) (by simp)
      replace v2 := v2.only ho (by simp) (by simp)
      replace hx := hx.only ho (by simp) (by simp)
      replace hb : Below w.heap.size w w6 := hb.trans (ho.below hb.size (by intro q hq; cases hq))
      clear ho hs
      replace hx : IsV 48 w6 (A + 1 + 6 + 1) (A + 1 + 6) (List.replicate n 0) := hx
      replace hy : IsV 48 w6 (A + 1 + 6 + 2 + 1) (A + 1 + 6 + 2) (List.replicate n 0) := hy
      replace v2 : IsV 48 w6 (A + 1 + 4 + 1) (A + 1 + 4) Z := v2
      clear hs6
      have cells_w7 : ∀ i, i < 3 → w6.cell? ⟨A, i, none⟩ = some (pt A 3 i) := fun i hi => by rw [cell_heap hr, pt_at A 3 i hi]
      have q0 : w6.cell? ⟨A, 0, none⟩ = some (.pointer (some ⟨A + 1 + 1, 0, none⟩)) := cells_w7 0 (by omega)
      have q1 : w6.cell? ⟨A, 1, none⟩ = some (.pointer (some ⟨A + 1 + 2 + 1, 0, none⟩)) := cells_w7 1 (by omega)
      have q2 : w6.cell? ⟨A, 2, none⟩ = some (.pointer (some ⟨A + 1 + 4 + 1, 0, none⟩)) := cells_w7 2 (by omega)
      have HT := Lib.hid (them_new w6 (A + 1 + 6) [(A + 1 + 1, A + 1), (A + 1 + 2 + 1, A + 1 + 2), (A + 1 + 4 + 1, A + 1 + 4)] [X, Y, Z] rfl (fun i hi => by
        match i, hi with
        | 0, _ => exact ⟨v0, by show A + 1 ≠ A + 1 + 6; omega, by show A + 1 + 1 ≠ A + 1 + 6; omega⟩
        | 1, _ => exact ⟨v1, by show A + 1 + 2 ≠ A + 1 + 6; omega, by show A + 1 + 2 + 1 ≠ A + 1 + 6; omega⟩
        | 2, _ => exact ⟨v2, by show A + 1 + 4 ≠ A + 1 + 6; omega, by show A + 1 + 4 + 1 ≠ A + 1 + 6; omega⟩) (hx).lt #[.pointer (some ⟨A + 1 + 1, 0, none⟩), .pointer (some ⟨A + 1 + 2 + 1, 0, none⟩), .pointer (some ⟨A + 1 + 4 + 1, 0, none⟩)] rfl w6.heap.size rfl 3 rfl 24)
      have ha0 : Only [] w6 (w6.alloc (.cells #[.pointer (some ⟨A + 1 + 1, 0, none⟩), .pointer (some ⟨A + 1 + 2 + 1, 0, none⟩), .pointer (some ⟨A + 1 + 4 + 1, 0, none⟩)] 24)) := (Only.refl [] _).alloc _
      replace v0 := v0.only ha0 (by simp) (by simp)
      replace v1 := v1.only ha0 (by simp) (by simp)
      replace v2 := v2.only ha0 (by simp) (by simp)
      replace hx := hx.only ha0 (by simp) (by simp)
      replace hy := hy.only ha0 (by simp) (by simp)
      replace hr := ha0.keeps hr (by simp)
      replace hb : Below w.heap.size w _ := hb.trans (ha0.below hb.size (by intro k hk; cases hk))
      clear ha0 cells_w7
      go_wp2_with fail
      refine (join_any _ _ _ _ 3 3 _ _ hx HT.out (by omega)).mono ?_
      rintro e w7 ⟨rfl, hx', ho⟩
      replace v0 := v0.only ho (far1 (by omega)) (far1 (by omega))
      replace v1 := v1.only ho (far1 (by omega)) (far1 (by omega))
      replace v2 := v2.only ho (far1 (by omega)) (far1 (by omega))
      replace hy := hy.only ho (far1 (by omega)) (far1 (by omega))
      replace hr := ho.keeps hr (far1 (by omega))
      replace hb : Below w.heap.size w w7 := hb.trans (ho.below hb.size (by intro k hk; simp at hk; omega))
      clear hx ho HT q0 q1 q2
      have hx := hx'
      clear hx'
      have cells_w8 : ∀ i, i < 3 → w7.cell? ⟨A, i, none⟩ = some (pt A 3 i) := fun i hi => by rw [cell_heap hr, pt_at A 3 i hi]
      have q0 : w7.cell? ⟨A, 0, none⟩ = some (.pointer (some ⟨A + 1 + 1, 0, none⟩)) := cells_w8 0 (by omega)
      have q1 : w7.cell? ⟨A, 1, none⟩ = some (.pointer (some ⟨A + 1 + 2 + 1, 0, none⟩)) := cells_w8 1 (by omega)
      have q2 : w7.cell? ⟨A, 2, none⟩ = some (.pointer (some ⟨A + 1 + 4 + 1, 0, none⟩)) := cells_w8 2 (by omega)
      have HT := Lib.hid (them_new w7 (A + 1 + 6 + 2) [(A + 1 + 4 + 1, A + 1 + 4), (A + 1 + 1, A + 1)] [Z, X] rfl (fun i hi => by
        match i, hi with
        | 0, _ => exact ⟨v2, by show A + 1 + 4 ≠ A + 1 + 6 + 2; omega, by show A + 1 + 4 + 1 ≠ A + 1 + 6 + 2; omega⟩
        | 1, _ => exact ⟨v0, by show A + 1 ≠ A + 1 + 6 + 2; omega, by show A + 1 + 1 ≠ A + 1 + 6 + 2; omega⟩) (hy).lt #[.pointer (some ⟨A + 1 + 4 + 1, 0, none⟩), .pointer (some ⟨A + 1 + 1, 0, none⟩)] rfl w7.heap.size rfl 2 rfl 24)
      have ha0 : Only [] w7 (w7.alloc (.cells #[.pointer (some ⟨A + 1 + 4 + 1, 0, none⟩), .pointer (some ⟨A + 1 + 1, 0, none⟩)] 24)) := (Only.refl [] _).alloc _
      replace v0 := v0.only ha0 (by simp) (by simp)
      replace v1 := v1.only ha0 (by simp) (by simp)
      replace v2 := v2.only ha0 (by simp) (by simp)
      replace hx := hx.only ha0 (by simp) (by simp)
      replace hy := hy.only ha0 (by simp) (by simp)
      replace hr := ha0.keeps hr (by simp)
      replace hb : Below w.heap.size w _ := hb.trans (ha0.below hb.size (by intro k hk; cases hk))
      clear ha0 cells_w8
      go_wp2_with fail
      refine (join_any _ _ _ _ 2 2 _ _ hy HT.out (by omega)).mono ?_
      rintro e w8 ⟨rfl, hy', ho⟩
      replace v0 := v0.only ho (far1 (by omega)) (far1 (by omega))
      replace v1 := v1.only ho (far1 (by omega)) (far1 (by omega))
      replace v2 := v2.only ho (far1 (by omega)) (far1 (by omega))
      replace hx := hx.only ho (far1 (by omega)) (far1 (by omega))
      replace hr := ho.keeps hr (far1 (by omega))
      replace hb : Below w.heap.size w w8 := hb.trans (ho.below hb.size (by intro k hk; simp at hk; omega))
      clear hy ho HT q0 q1 q2
      have hy := hy'
      clear hy'
      have cells_w9 : ∀ i, i < 3 → w8.cell? ⟨A, i, none⟩ = some (pt A 3 i) := fun i hi => by rw [cell_heap hr, pt_at A 3 i hi]
      have q0 : w8.cell? ⟨A, 0, none⟩ = some (.pointer (some ⟨A + 1 + 1, 0, none⟩)) := cells_w9 0 (by omega)
      have q1 : w8.cell? ⟨A, 1, none⟩ = some (.pointer (some ⟨A + 1 + 2 + 1, 0, none⟩)) := cells_w9 1 (by omega)
      have q2 : w8.cell? ⟨A, 2, none⟩ = some (.pointer (some ⟨A + 1 + 4 + 1, 0, none⟩)) := cells_w9 2 (by omega)
      have HT := Lib.hid (them_new w8 (A + 1 + 6 + 2) [(A + 1 + 2 + 1, A + 1 + 2), (A + 1 + 4 + 1, A + 1 + 4), (A + 1 + 1, A + 1)] [Y, Z, X] rfl (fun i hi => by
        match i, hi with
        | 0, _ => exact ⟨v1, by show A + 1 + 2 ≠ A + 1 + 6 + 2; omega, by show A + 1 + 2 + 1 ≠ A + 1 + 6 + 2; omega⟩
        | 1, _ => exact ⟨v2, by show A + 1 + 4 ≠ A + 1 + 6 + 2; omega, by show A + 1 + 4 + 1 ≠ A + 1 + 6 + 2; omega⟩
        | 2, _ => exact ⟨v0, by show A + 1 ≠ A + 1 + 6 + 2; omega, by show A + 1 + 1 ≠ A + 1 + 6 + 2; omega⟩) (hy).lt #[.pointer (some ⟨A + 1 + 2 + 1, 0, none⟩), .pointer (some ⟨A + 1 + 4 + 1, 0, none⟩), .pointer (some ⟨A + 1 + 1, 0, none⟩)] rfl w8.heap.size rfl 3 rfl 24)
      have ha0 : Only [] w8 (w8.alloc (.cells #[.pointer (some ⟨A + 1 + 2 + 1, 0, none⟩), .pointer (some ⟨A + 1 + 4 + 1, 0, none⟩), .pointer (some ⟨A + 1 + 1, 0, none⟩)] 24)) := (Only.refl [] _).alloc _
      replace v0 := v0.only ha0 (by simp) (by simp)
      replace v1 := v1.only ha0 (by simp) (by simp)
      replace v2 := v2.only ha0 (by simp) (by simp)
      replace hx := hx.only ha0 (by simp) (by simp)
      replace hy := hy.only ha0 (by simp) (by simp)
      replace hr := ha0.keeps hr (by simp)
      replace hb : Below w.heap.size w _ := hb.trans (ha0.below hb.size (by intro k hk; cases hk))
      clear ha0 cells_w9
      go_wp2_with fail
      refine (join_any _ _ _ _ 3 3 _ _ hy HT.out (by omega)).mono ?_
      rintro e w9 ⟨rfl, hy', ho⟩
      replace v0 := v0.only ho (far1 (by omega)) (far1 (by omega))
      replace v1 := v1.only ho (far1 (by omega)) (far1 (by omega))
      replace v2 := v2.only ho (far1 (by omega)) (far1 (by omega))
      replace hx := hx.only ho (far1 (by omega)) (far1 (by omega))
      replace hr := ho.keeps hr (far1 (by omega))
      replace hb : Below w.heap.size w w9 := hb.trans (ho.below hb.size (by intro k hk; simp at hk; omega))
      clear hy ho HT q0 q1 q2
      have hy := hy'
      clear hy'
      rw [← joins_law n X Y Z E0.out E1.out E2.out] at hy
      have hjl : (joinAll (List.replicate n 0) [X, Y, Z]).length = n := by rw [joinAll_len]; simp
      generalize joinAll (List.replicate n 0) [X, Y, Z] = R at hx hy hjl
      have HJ := Lib.hid hjl
      clear hr v0 v1 v2 hjl
      have hw : withinB R R = true := withinB_yes _ _ rfl (fun j _ => by omega)
      have hsm : sameB R R = true := by simp [sameB]
      have HW := Lib.hid hw
      have HSM := Lib.hid hsm
      clear hw hsm
      go_wp2_with fail
      refine (all_any _ _ _ _ hx).mono ?_
      rintro e w10 ⟨v, rfl, hown, hbb⟩
      replace hx := hx.below hbb
      replace hy := hy.below hbb
      replace hb : Below w.heap.size w w10 := hb.trans (hbb.mono hb.size)
      obtain ⟨ao, c', rfl, hI⟩ := hown.isI
      clear hown hbb
      rw [HJ.out] at hI ⊢
      go_wp2_with fail
      refine (all_any _ _ _ _ hy).mono ?_
      rintro e w11 ⟨v, rfl, hown, hbb⟩
      replace hx := hx.below hbb
      replace hy := hy.below hbb
      replace hI := hI.below hbb
      replace hb : Below w.heap.size w w11 := hb.trans (hbb.mono hb.size)
      obtain ⟨ao2, c2', rfl, hI2⟩ := hown.isI
      clear hown hbb
      rw [HJ.out] at hI2 ⊢
      go_wp2_with fail
      refine (same_any _ _ _ R _ _ _ R _ hI hI2 (by omega) (by omega)).mono ?_
      rintro e w' ⟨rfl, d1, rfl⟩
      rw [HSM.out]
      replace hx := hx.draws d1
      replace hy := hy.draws d1
      replace hb := below_drewN hb d1
      clear hI hI2
      generalize w11.drewN d1 = w12 at hx hy hb
      go_wp2_with fail
      refine (within_any _ _ _ _ _ _ _ hx hy).mono ?_
      rintro e w' ⟨rfl, d2, rfl⟩
      rw [HW.out]
      replace hx := hx.draws d2
      replace hy := hy.draws d2
      replace hb := below_drewN hb d2
      generalize w12.drewN d2 = w13 at hx hy hb
      go_wp2_with fail
      refine (within_any _ _ _ _ _ _ _ hy hx).mono ?_
      rintro e w' ⟨rfl, d3, rfl⟩
      rw [HW.out]
      go_wp2
      go_ret
      exact ⟨rfl, below_drewN hb d3⟩

theorem joins_walk (ao : Option Addr) (n c : Nat) (l : List Int) (bo : Option Addr) (n2 c2 : Nat) (m : List Int) (co : Option Addr) (n3 c3 : Nat) (o : List Int) (w : World)
    (hl : IsI w ao n c l) (_ : n ≤ c) (_ : c * 8 ≤ 140737488351232) (_ : ∀ z ∈ l, -9223372036854775808 ≤ z ∧ z ≤ 9223372036854775807)
    (hm : IsI w bo n2 c2 m) (_ : n2 ≤ c2) (_ : c2 * 8 ≤ 140737488351232) (_ : ∀ z ∈ m, -9223372036854775808 ≤ z ∧ z ≤ 9223372036854775807)
    (ho : IsI w co n3 c3 o) (_ : n3 ≤ c3) (_ : c3 * 8 ≤ 140737488351232) (_ : ∀ z ∈ o, -9223372036854775808 ≤ z ∧ z ≤ 9223372036854775807) :
    Calls Try.prog 7 #[.slice ao n c, .slice bo n2 c2, .slice co n3 c3] w fun e w' => e = .returned (.bool true) ∧ Below w.heap.size w w' := by
  by_cases h1 : (n : Int) < 1
  · exact joins_out ao bo co n c n2 c2 n3 c3 w true true true (by simpa using h1) (fun h => by cases h) (fun h => by cases h) (fun h => by cases h)
  · by_cases h2 : (4 : Int) < (n : Int)
    · exact joins_out ao bo co n c n2 c2 n3 c3 w false true true (by simpa using h1) (fun _ => by simpa using h2) (fun _ h => by cases h) (fun _ h => by cases h)
    · by_cases h3 : n2 = n
      · by_cases h4 : n3 = n
        · subst h3
          subst h4
          exact joins_in (fun k => if k = 0 then ao else if k = 1 then bo else co) _ (fun k => if k = 0 then c else if k = 1 then c2 else c3) (fun k => if k = 0 then l else if k = 1 then m else o) w (fun k hk => by
            rcases (by omega : k = 0 ∨ k = 1 ∨ k = 2) with rfl | rfl | rfl
            · exact hl
            · exact hm
            · exact ho) (by omega) (by omega)
        · exact joins_out ao bo co n c n2 c2 n3 c3 w false false false (by simpa using h1) (fun _ => by simpa using h2) (fun _ _ => by simp; omega) (fun _ _ _ => by simp; omega)
      · exact joins_out ao bo co n c n2 c2 n3 c3 w false false true (by simpa using h1) (fun _ => by simpa using h2) (fun _ _ => by simp; omega) (fun _ _ h => by cases h)

end Go.Proofs.Yteiaejehdjekmaa
