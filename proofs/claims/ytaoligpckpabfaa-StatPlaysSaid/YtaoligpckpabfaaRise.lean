/-
  The document's question whether names rise. No condition.
-/
import Derived.Test.YtaoligpckpabfaaOrd
import Derived.Test.YtaoligpckpabfaaAw
import Derived.LoopTactic
namespace Go.Proofs.Ytaoligpckpabfaa
open Go.RowKit
set_option maxHeartbeats 1000000 in
theorem rising_any (ao : Option Addr) (n c : Nat) (l : List ByteArray) (w : World) (h : IsS w ao n c l) (hn : n ≤ 1000000) :
    Calls Try.prog 13 #[.slice ao n c] w fun e w' => e = .returned (.bool (risS l)) ∧ ∃ d, w' = w.drewN d := by
  have hl := h.len
  have HL := Lib.hid hl
  have HI := Lib.hid h.at_
  clear h hl
  go_enter Try.func13, Try.ntmps13
  go_wp2_with fail
  go_loopw [3] (fun i wr => ∃ k : Nat, 1 ≤ k ∧ k ≤ n + 1 ∧ i = .int .i64 (k : Int) ∧ (∀ j, j + 1 < k → j + 1 < n → leB (l.getD (j + 1) ByteArray.empty) (l.getD j ByteArray.empty) = false) ∧ ∃ d, wr = w.drewN d) (fun i _ => n + 1 - (intOf i).toNat)
  case atStart => exact ⟨1, by omega, by omega, rfl, fun j hj => by omega, 0, rfl⟩
  case round =>
    obtain ⟨k, hk1, hk, rfl, hup, d, rfl⟩ := hrel
    have hD := Lib.hid (show ∀ n, ∃ m, (w.drewN d).drewN n = w.drewN m from fun n => ⟨_, World.drewN_drewN _ _ _⟩)
    have hU := Lib.hid hup
    clear hup
    by_cases hlt : k < n
    · rcases HI.out with h0 | ⟨b, off, rfl, hc⟩
      · omega
      have c1 : (w.drewN d).cell? ⟨b, off + k, none⟩ = some (.string (l.getD k ByteArray.empty)) := hc k hlt
      have c2 : (w.drewN d).cell? ⟨b, off + (k - 1), none⟩ = some (.string (l.getD (k - 1) ByteArray.empty)) := hc (k - 1) (by omega)
      obtain ⟨j, rfl⟩ : ∃ j, k = j + 1 := ⟨k - 1, by omega⟩
      rw [Nat.add_sub_cancel] at c2
      have q1 : IntKind.i64.wrap (((j + 1 : Nat) : Int) - 1) = (j : Int) := by rw [show ((j + 1 : Nat) : Int) - 1 = (j : Int) from by omega]; exact IntWalk.i64_in _ (by omega)
      have q2 : (0 : Int) ≤ ((j + 1 : Nat) : Int) := by omega
      have q3 : (((j + 1 : Nat) : Int)).toNat = j + 1 := by omega
      generalize hx : l.getD (j + 1) ByteArray.empty = x at c1
      generalize hy : l.getD j ByteArray.empty = y at c2
      have HX := Lib.hid hx
      have HY := Lib.hid hy
      clear hx hy hc
      generalize w.drewN d = wd at c1 c2 hD
      by_cases hxy : leB x y = true
      · have g1 : (Op.bytesLess x.toList y.toList || x.toList == y.toList) = true := hxy
        have g2 : risS l = false := by
          unfold risS
          refine decide_eq_false fun e => ?_
          have := e j (by rw [HL.out]; omega)
          rw [HX.out, HY.out, hxy] at this
          cases this
        clear hxy
        go_wp2_with fail
        go_quiet (fail)
        go_wp2_with fail
        go_ret
        exact ⟨by rw [g2]; rfl, hD.out _⟩
      · have g1 : (Op.bytesLess x.toList y.toList || x.toList == y.toList) = false := (Bool.eq_false_iff.2 hxy : leB x y = false)
        have hxy2 := Lib.hid (show leB x y = false from g1)
        clear hxy
        go_wp2_with fail
        go_quiet (fail)
        go_wp2_with fail
        go_roundw
        case rel =>
          refine ⟨j + 1 + 1, by omega, by omega, by go_num, ?_, hD.out _⟩
          intro i hi hi2
          by_cases hij : i = j
          · subst hij; rw [HX.out, HY.out]; exact hxy2.out
          · exact hU.out i (by omega) hi2
        case measure => simp [intOf]; omega
    · go_wp2_with fail
      go_ret
      refine ⟨?_, _, rfl⟩
      have : risS l = true := decide_eq_true fun i hi => by rw [HL.out] at hi; exact hU.out i (by omega) (by omega)
      rw [this]; rfl
end Go.Proofs.Ytaoligpckpabfaa
