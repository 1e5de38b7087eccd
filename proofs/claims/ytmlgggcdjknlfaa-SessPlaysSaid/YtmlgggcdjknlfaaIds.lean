/-
  Lists of numbers, held against each other.
-/
import Derived.Test.YtmlgggcdjknlfaaTickT
namespace Go.Proofs.Ytmlgggcdjknlfaa
open Go.RowKit

def sameI (l m : List Int) : Bool := decide (l = m)
set_option maxHeartbeats 1000000 in
theorem ids_any (ao : Option Addr) (n c : Nat) (l : List Int) (bo : Option Addr) (q c2 : Nat) (m : List Int) (w : World) (h : IsI w ao n c l) (h2 : IsI w bo q c2 m) (hn : n ≤ 1000000) (hq : q ≤ 1000000) :
    Calls Try.prog 19 #[.slice ao n c, .slice bo q c2] w fun e w' => e = .returned (.bool (sameI l m)) ∧ ∃ d, w' = w.drewN d := by
  by_cases hnq : n = q
  · subst hnq
    have d0 : ((n : Int) != (n : Int)) = false := by simp
    obtain ⟨e1, _, x1⟩ := h
    obtain ⟨e2, _, x2⟩ := h2
    have E1 := Lib.hid e1
    have E2 := Lib.hid e2
    clear e1 e2
    go_enter Try.func19, Try.ntmps19
    go_wp2_with fail
    go_loopw [5] (fun i wr => ∃ k : Nat, k ≤ n ∧ i = .int .i64 k ∧ (∀ j, j < k → l.getD j 0 = m.getD j 0) ∧ ∃ d, wr = w.drewN d) (fun i _ => n - (intOf i).toNat)
    case atStart => exact ⟨0, Nat.zero_le _, rfl, fun j hj => by omega, 0, rfl⟩
    case round =>
      obtain ⟨k, hk, rfl, hup, d, rfl⟩ := hrel
      have hd2 : ∀ n, ∃ m, (w.drewN d).drewN n = w.drewN m := fun n => ⟨_, World.drewN_drewN _ _ _⟩
      have hD := Lib.hid hd2
      have hU := Lib.hid hup
      clear hd2 hup
      by_cases hlt : k < n
      · rcases x1 with x1 | ⟨b, off, rfl, x1⟩
        · omega
        rcases x2 with x2 | ⟨b2, off2, rfl, x2⟩
        · omega
        have c1 : (w.drewN d).cell? ⟨b, off + k, none⟩ = some (.int .i64 (l.getD k 0)) := x1 k hlt
        have c2' : (w.drewN d).cell? ⟨b2, off2 + k, none⟩ = some (.int .i64 (m.getD k 0)) := x2 k hlt
        generalize hx : l.getD k 0 = x at c1
        generalize hy : m.getD k 0 = y at c2'
        have HX := Lib.hid hx
        have HY := Lib.hid hy
        generalize w.drewN d = wd at c1 c2' hD
        clear hx hy x1 x2
        by_cases hxy : (x != y) = false
        · have HXY : Hid (x = y) := Lib.hid (by simpa using hxy)
          go_wp2_with fail
          go_quiet (fail)
          go_wp2_with fail
          go_roundw
          case rel =>
            refine ⟨k + 1, by omega, by go_num, ?_, hD.out _⟩
            intro j hj
            by_cases hjk : j = k
            · subst hjk; rw [HX.out, HY.out, HXY.out]
            · exact hU.out j (by omega)
          case measure => simp [intOf]; omega
        · replace hxy : (x != y) = true := by simpa using hxy
          have g2 : sameI l m = false := by
            unfold sameI
            refine decide_eq_false fun e => ?_
            rw [e, HY.out] at HX
            have := HX.out
            simp [this] at hxy
          have G2 := Lib.hid g2
          clear g2
          go_wp2_with fail
          go_quiet (fail)
          go_wp2_with fail
          go_ret
          exact ⟨by rw [G2.out]; rfl, hD.out _⟩
      · go_wp2_with fail
        go_ret
        refine ⟨?_, _, rfl⟩
        have : sameI l m = true := by
          unfold sameI
          refine decide_eq_true (List.ext_getElem (by rw [E1.out, E2.out]) fun j h1 h2 => ?_)
          have := hU.out j (by rw [E1.out] at h1; omega)
          simpa [h1, h2] using this
        rw [this]; rfl
  · have d0 : ((n : Int) != (q : Int)) = true := by simp; omega
    have g : sameI l m = false := by
      unfold sameI
      refine decide_eq_false fun e => hnq ?_
      rw [← h.len, ← h2.len, e]
    have G := Lib.hid g
    clear g h h2
    go_enter Try.func19, Try.ntmps19
    go_wp2_with fail
    go_ret
    exact ⟨by rw [G.out]; rfl, 0, rfl⟩
end Go.Proofs.Ytmlgggcdjknlfaa
