/-
  Nodes, and their changes.
-/
import Derived.Test.YtaoligpckpabfaaDel
import Derived.BigRegion
namespace Go.Proofs.Ytaoligpckpabfaa
open Go.RowKit
/-- the next number; the greatest one stays -/
def moreZ (z : Int) : Int := if 2147483647 ≤ z then z else z + 1
theorem more_any (z : Int) (w : World) (h1 : -9223372036854775808 ≤ z) (h2 : z ≤ 9223372036854775807) : Calls Try.prog 30 #[.int .i64 z] w fun e w' => e = .returned (.int .i64 (moreZ z)) ∧ w' = w := by
  unfold moreZ
  by_cases h : 2147483647 ≤ z
  · have g : decide (2147483647 ≤ z) = true := by simpa using h
    rw [if_pos h]
    go_enter Try.func30, Try.ntmps30
    go_wp2_with fail
    go_ret
    exact ⟨rfl, rfl⟩
  · have g : decide (2147483647 ≤ z) = false := by simpa using h
    have k : IntKind.i64.wrap (z + 1) = z + 1 := IntWalk.i64_in _ (by omega)
    rw [if_neg h]
    go_enter Try.func30, Try.ntmps30
    go_wp2_with fail
    go_ret
    exact ⟨rfl, rfl⟩
end Go.Proofs.Ytaoligpckpabfaa
