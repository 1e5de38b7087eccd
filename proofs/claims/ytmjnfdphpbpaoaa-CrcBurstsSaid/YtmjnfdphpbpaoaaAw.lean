/-
  awake returns true, and no memory that was there turns. No condition.
-/
import Derived.Test.YtmjnfdphpbpaoaaOf
import Derived.Lib.SlBytesConst
namespace Go.Proofs.Ytmjnfdphpbpaoaa
open Go.RowKit

theorem info5 : (Try.prog.info? 5).map (fun i => (i.zero, i.size, i.bytes)) = some (some (.int .u8 0), 1, 1) := by kernel_rfl

def digits9 : List UInt8 := [49, 50, 51, 52, 53, 54, 55, 56, 57]
theorem crc9 : (((Crc.crc [digits9].flatten).toNat : Int) == 3421780262) = true := by decide +kernel
theorem crc0 : (((Crc.crc []).toNat : Int) == 0) = true := by decide +kernel

set_option maxHeartbeats 400000 in
/-- the examples of nine digits answer as told; no memory that was there turns -/
theorem awake_any (w : World) : Calls Try.prog 8 #[] w fun e w' => e = .returned (.bool true) ∧ Below w.heap.size w w' := by
  have kc := fun (w : World) (C : Array Value) (n c : Nat) => Lib.run_convert_bytes_const (P := Try.prog) w 25 5 C n c Try.underlying25 Try.underlying5
  go_enter Try.func8, Try.ntmps8
  go_wp2_with fail
  refine (of_any _ _ _ [digits9] _ (isBB_one _ _ _ _ digits9 (isB_new _ _ _ (by rfl) _ _ _ rfl _ rfl _) (by decide) _ _ _ (by simp)) (by omega)).mono ?_
  rintro e w' ⟨rfl, rfl⟩
  have h9 := crc9
  generalize ((Crc.crc [digits9].flatten).toNat : Int) = x at h9
  go_wp2_with fail
  refine (of_none _ _ _).mono ?_
  rintro e w' ⟨rfl, rfl⟩
  have h0 := crc0
  generalize ((Crc.crc []).toNat : Int) = y at h0
  go_wp2
  go_ret
  exact ⟨rfl, ((Below.refl _ _).alloc (Nat.le_refl _) _).alloc (by simp) _⟩
end Go.Proofs.Ytmjnfdphpbpaoaa
