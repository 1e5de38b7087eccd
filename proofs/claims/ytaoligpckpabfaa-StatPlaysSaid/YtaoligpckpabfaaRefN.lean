/-
  The document's search among names, its changes of a node. No condition.
-/
import Derived.Test.YtaoligpckpabfaaBackW
import Derived.Deep.RegionHeld3
import Derived.Deep.DeepCutAuto
import Derived.Deep.CutBlock
import Derived.Deep.RegionLaw
namespace Go.Proofs.Ytaoligpckpabfaa
open Go.RowKit
theorem place_eq {l : List ByteArray} {x : ByteArray} {k : Nat} (hk : k ≤ l.length) (h1 : ∀ j, j < k → ltB (l.getD j ByteArray.empty) x = true) (h2 : k < l.length → ltB (l.getD k ByteArray.empty) x = false) : placeS l x = k := by
  have hle := placeS_le l x
  rcases Nat.lt_trichotomy (placeS l x) k with h | h | h
  · have a1 := h1 _ h
    have a2 := place_at l x (by omega)
    rw [a1] at a2; cases a2
  · exact h
  · have a1 := place_low l x k h
    have a2 := h2 (by omega)
    rw [a1] at a2; cases a2
def thereS (l : List ByteArray) (x : ByteArray) : Bool := decide (placeS l x < l.length ∧ l.getD (placeS l x) ByteArray.empty = x)
theorem thereS_eq {l : List ByteArray} (h : Ris l) (x : ByteArray) : thereS l x = hereS l x := by
  unfold thereS hereS
  rw [seekS_eq h]
set_option maxHeartbeats 1000000 in
theorem place_any (ao : Option Addr) (n c : Nat) (l : List ByteArray) (x : ByteArray) (w : World) (h : IsS w ao n c l) (hn : n ≤ 1000000) :
    Calls Try.prog 33 #[.slice ao n c, .string x] w fun e w' => e = .returned (.tuple #[.int .i64 (placeS l x : Nat), .bool (thereS l x)]) ∧ ∃ d, w' = w.drewN d := by
  have HL := Lib.hid h.len
  have HI := Lib.hid h
  clear h
  go_enter Try.func33, Try.ntmps33
  go_wp2_with fail
  go_loopw [6] (fun i wr => ∃ k : Nat, k ≤ n ∧ i = .int .i64 (k : Int) ∧ (∀ j, j < k → ltB (l.getD j ByteArray.empty) x = true) ∧ ∃ d, wr = w.drewN d) (fun i _ => n - (intOf i).toNat)
  case atStart => exact ⟨0, by omega, rfl, fun j hj => by omega, 0, rfl⟩
  case round =>
    obtain ⟨k, hk, rfl, hup, d, rfl⟩ := hrel
    have hD := Lib.hid (show ∀ n, ∃ m, (w.drewN d).drewN n = w.drewN m from fun n => ⟨_, World.drewN_drewN _ _ _⟩)
    have hU := Lib.hid hup
    clear hup
    by_cases hlt : k < n
    · obtain ⟨b, off, rfl⟩ := isS_some HI.out (by omega)
      have c1 : (w.drewN d).cell? ⟨b, off + k, none⟩ = some (.string (getS l k)) := getS_cell (isS_keep HI.out (Only.ofBelow (below_drew (Below.refl _ _) d) []) (by simp)) hlt
      have d0 : decide ((k : Int) < (n : Int)) = true := by simp; omega
      have HX := Lib.hid (show getS l k = l.getD k ByteArray.empty from rfl)
      generalize getS l k = y at c1 HX
      generalize w.drewN d = wd at c1 hD
      by_cases hyx : ltB y x = true
      · have g1 : Op.bytesLess y.toList x.toList = true := hyx
        have HYX := Lib.hid hyx; clear hyx
        go_wp2_with fail
        go_roundw
        case rel =>
          refine ⟨k + 1, by omega, by go_num, fun j hj => ?_, hD.out 0⟩
          by_cases hjk : j = k
          · subst hjk; rw [← HX.out]; exact HYX.out
          · exact hU.out j (by omega)
        case measure => simp [intOf]; omega
      · have hyx0 : ltB y x = false := by simpa using hyx
        have g1 : Op.bytesLess y.toList x.toList = false := hyx0
        have HPL := Lib.hid (place_eq (l := l) (x := x) (by rw [HL.out]; omega) hU.out (fun _ => by rw [← HX.out]; exact hyx0))
        have HTH : Hid (thereS l x = (y.toList == x.toList)) := Lib.hid (by
          unfold thereS
          rw [HPL.out, ← HX.out]
          by_cases he : y = x
          · subst he; simp; rw [HL.out]; exact hlt
          · have : (y.toList == x.toList) = false := by simpa using fun e => he (toList_inj e)
            rw [this]; simp [he])
        clear hyx hyx0
        generalize hbb : (y.toList == x.toList) = bb at *
        go_wp2_with fail
        go_quiet (fail)
        go_wp2_with fail
        go_ret2
        exact ⟨by rw [HPL.out, HTH.out]; rfl, hD.out _⟩
    · obtain rfl : k = n := by omega
      have d0 : decide ((k : Int) < (k : Int)) = false := by simp
      have HPL := Lib.hid (place_eq (l := l) (x := x) (by rw [HL.out]; omega) hU.out (fun h => by rw [HL.out] at h; omega))
      have HTH : Hid (thereS l x = false) := Lib.hid (by unfold thereS; rw [HPL.out, HL.out]; simp)
      go_wp2_with fail
      go_quiet (fail)
      go_wp2_with fail
      go_ret2
      exact ⟨by rw [HPL.out, HTH.out]; rfl, hD.out _⟩
theorem rmore_any (z : Int) (w : World) (h1 : -9223372036854775808 ≤ z) (h2 : z ≤ 9223372036854775807) : Calls Try.prog 32 #[.int .i64 z] w fun e w' => e = .returned (.int .i64 (moreZ z)) ∧ w' = w := by
  unfold moreZ
  by_cases h : 2147483647 ≤ z
  · have g : decide (2147483647 ≤ z) = true := by simpa using h
    rw [if_pos h]
    go_enter Try.func32, Try.ntmps32
    go_wp2_with fail
    go_ret
    exact ⟨rfl, rfl⟩
  · have g : decide (2147483647 ≤ z) = false := by simpa using h
    have k : IntKind.i64.wrap (z + 1) = z + 1 := IntWalk.i64_in _ (by omega)
    rw [if_neg h]
    go_enter Try.func32, Try.ntmps32
    go_wp2_with fail
    go_ret
    exact ⟨rfl, rfl⟩
end Go.Proofs.Ytaoligpckpabfaa
