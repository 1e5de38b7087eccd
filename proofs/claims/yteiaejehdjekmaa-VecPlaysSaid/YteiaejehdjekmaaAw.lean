/-
  same64 and awake. Condition: at most 1000 numbers.
-/
import Derived.Test.YteiaejehdjekmaaVec3
namespace Go.Proofs.Yteiaejehdjekmaa
open Go.RowKit

theorem in_has (l : List Int) (k : Nat) (h : k < l.length) : hasB l (k : Int) = true := by
  simp [hasB]; exact h

def sameB (l m : List Int) : Bool := decide (l = m)

set_option maxHeartbeats 400000 in
theorem same_any (ao : Option Addr) (n c : Nat) (l : List Int) (bo : Option Addr) (q c2 : Nat) (m : List Int) (w : World) (h : IsI w ao n c l) (h2 : IsI w bo q c2 m) (hn : n ≤ 1000) (hq : q ≤ 1000) :
    Calls Try.prog 15 #[.slice ao n c, .slice bo q c2] w fun e w' => e = .returned (.bool (sameB l m)) ∧ ∃ d, w' = w.drewN d := by
  by_cases hnq : n = q
  · subst hnq
    have d0 : ((n : Int) != (n : Int)) = false := by simp
    obtain ⟨e1, _, x1⟩ := h
    obtain ⟨e2, _, x2⟩ := h2
    have E1 := Lib.hid e1
    have E2 := Lib.hid e2
    clear e1 e2
    go_enter Try.func15, Try.ntmps15
    go_wp2_with fail
    go_loopw [5] (fun i wr => ∃ k : Nat, k ≤ n ∧ i = .int .i64 k ∧ (∀ j, j < k → l.getD j 0 = m.getD j 0) ∧ ∃ d, wr = w.drewN d) (fun i _ => n - (intOf i).toNat)
    case atStart => exact ⟨0, Nat.zero_le _, rfl, fun j hj => by omega, 0, rfl⟩
    case round =>
      obtain ⟨k, hk, rfl, hup, d, rfl⟩ := hrel
      have hd2 : ∀ n, ∃ m, (w.drewN d).drewN n = w.drewN m := fun n => ⟨_, World.drewN_drewN _ _ _⟩
      have hD := Lib.hid hd2
      have hU := Lib.hid hup
      clear hd2 hup
      by_cases hlt : k < n
      · rcases x1 with x1 | ⟨b, off, rfl, x1⟩
        · omega
        rcases x2 with x2 | ⟨b2, off2, rfl, x2⟩
        · omega
        have c1 : (w.drewN d).cell? ⟨b, off + k, none⟩ = some (.int .i64 (l.getD k 0)) := x1 k hlt
        have c2' : (w.drewN d).cell? ⟨b2, off2 + k, none⟩ = some (.int .i64 (m.getD k 0)) := x2 k hlt
        generalize hx : l.getD k 0 = x at c1
        generalize hy : m.getD k 0 = y at c2'
        have HX := Lib.hid hx
        have HY := Lib.hid hy
        generalize w.drewN d = wd at c1 c2' hD
        clear hx hy x1 x2
        by_cases hxy : x = y
        · have g1 : (x != y) = false := by simp [hxy]
          have HXY := Lib.hid hxy
          clear hxy
          go_wp2_with fail
          go_quiet (fail)
          go_wp2_with fail
          go_roundw
          case rel =>
            refine ⟨k + 1, by omega, by go_num, ?_, hD.out _⟩
            intro j hj
            by_cases hjk : j = k
            · subst hjk; rw [HX.out, HY.out, HXY.out]
            · exact hU.out j (by omega)
          case measure => simp [intOf]; omega
        · have g1 : (x != y) = true := by simp [hxy]
          have hfin : sameB l m = false := by
            unfold sameB
            rw [decide_eq_false_iff_not]
            intro e
            apply hxy
            rw [← HX.out, ← HY.out, e]
          have HF := Lib.hid hfin
          clear hxy hfin
          go_wp2_with fail
          go_quiet (fail)
          go_wp2
          go_ret
          exact ⟨by rw [HF.out]; rfl, hD.out _⟩
      · have hfin : sameB l m = true := by
          unfold sameB
          rw [decide_eq_true_iff]
          exact list_eq l m (by rw [E1.out, E2.out]) (fun j hj => hU.out j (by rw [E1.out] at hj; omega))
        have HF := Lib.hid hfin
        clear hfin
        go_wp2
        go_ret
        exact ⟨by rw [HF.out]; rfl, d, rfl⟩
  · have hfin : sameB l m = false := by
      unfold sameB
      rw [decide_eq_false_iff_not]
      intro e
      apply hnq
      rw [← h.len, ← h2.len, e]
    have HF := Lib.hid hfin
    have g1 : ((n : Int) != (q : Int)) = true := by simp; omega
    clear hfin hnq h h2
    go_enter Try.func15, Try.ntmps15
    go_wp2
    go_ret
    exact ⟨by rw [HF.out]; rfl, 0, rfl⟩

set_option maxHeartbeats 400000 in
/-- the examples of one that was seen answer as told; no memory that was there turns -/
theorem awake_any (w : World) : Calls Try.prog 8 #[] w fun e w' => e = .returned (.bool true) ∧ Below w.heap.size w w' := by
  have hp : ∀ (a : Addr) (w : World), (binOp .neq 24 (.pointer (some a)) (.pointer none)).run Try.prog w = .ok (.bool true) w := fun a w => by kernel_rfl
  go_enter Try.func8, Try.ntmps8
  go_wp2_with fail
  refine (new_ok 2 _ (by omega) (by omega)).mono ?_
  rintro e w1 ⟨rfl, hv, ho, hs⟩
  generalize hB : w.heap.size = B at hv hs
  have HB := Lib.hid hB
  clear hB
  go_wp2_with fail
  refine (see_any _ _ _ 0 5 _ hv).mono ?_
  rintro e w2 ⟨rfl, hv2, ho2⟩
  rw [show seeB (List.replicate 2 0) 0 5 = true from by decide]
  rw [show seeL (List.replicate 2 0) 0 5 = [5, 0] from by decide] at hv2
  go_wp2_with fail
  refine (see_any _ _ _ 0 5 _ hv2).mono ?_
  rintro e w3 ⟨rfl, hv3, ho3⟩
  rw [show seeB [5, 0] 0 5 = false from by decide]
  rw [show seeL [5, 0] 0 5 = [5, 0] from by decide] at hv3
  go_wp2_with fail
  refine (ready_any _ _ _ 0 4 _ hv3).mono ?_
  rintro e w' ⟨rfl, rfl⟩
  rw [show readyB [5, 0] 0 4 = false from by decide]
  go_wp2_with fail
  refine (ready_any _ _ _ 0 5 _ hv3).mono ?_
  rintro e w' ⟨rfl, rfl⟩
  rw [show readyB [5, 0] 0 5 = true from by decide]
  go_wp2_with fail
  refine (ready_any _ _ _ 1 0 _ hv3).mono ?_
  rintro e w' ⟨rfl, rfl⟩
  rw [show readyB [5, 0] 1 0 = true from by decide]
  go_wp2_with fail
  refine (at_any _ _ _ 0 _ hv3).mono ?_
  rintro e w' ⟨rfl, rfl⟩
  rw [show atL [5, 0] 0 = 5 from by decide]
  go_wp2
  go_ret
  exact ⟨rfl, ((ho.mono (by simp)).trans (ho2.trans ho3)).below (Nat.le_refl _) (by intro k hk; have := HB.out; simp at hk; omega)⟩

end Go.Proofs.Yteiaejehdjekmaa
