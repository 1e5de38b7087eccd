/-
  What the library's contracts over any program ask of this one: its bodies, by number. No condition.
-/
import Derived.Shelf.Spec.SearchS
import Derived.Shelf.Spec.SlicesInsert
import Derived.Shelf.Spec.SlicesInsertGrow
import Derived.Shelf.Slices.Clone
import Derived.Shelf.Slices.Delete
import Derived.Test.YtaoligpckpabfaaProg
import Derived.Test.YtaoligpckpabfaaChecked
import Derived.Test.YtaoligpckpabfaaPBack
namespace Go.Proofs.Ytaoligpckpabfaa
open Go.Shelf
def lays26_ren : Go.Shelf.Ren := ⟨fun | 26 => 27 | 33 => 43 | 34 => 44 | 38 => 48 | n => n, fun | 24 => 22 | 9 => 9 | 3 => 3 | 4 => 4 | 40 => 69 | 0 => 0 | n => n, fun | n => n⟩
theorem lays26 : Go.Proofs.Lays2.n26 Try.prog lays26_ren where
  mixed := by kernel_rfl
  f26 := Try.func27.trans (congrArg some (by kernel_rfl))
  f33 := Try.func43.trans (congrArg some (by kernel_rfl))
  f34 := Try.func44.trans (congrArg some (by kernel_rfl))
  f38 := Try.func48.trans (congrArg some (by kernel_rfl))
  t0 := Try.underlying0
  a0 := Try.isAgg0
  z0 := Try.sizeOf0
  v0 := Try.zeroValue0
  t3 := Try.underlying3
  a3 := Try.isAgg3
  z3 := Try.sizeOf3
  v3 := Try.zeroValue3
  t4 := Try.underlying4
  a4 := Try.isAgg4
  z4 := Try.sizeOf4
  v4 := Try.zeroValue4
  t9 := Try.underlying9
  a9 := Try.isAgg9
  z9 := Try.sizeOf9
  v9 := Try.zeroValue9
  t24 := Try.underlying22
  a24 := Try.isAgg22
  z24 := Try.sizeOf22
  v24 := Try.zeroValue22
  t40 := Try.underlying69
  a40 := Try.isAgg69
  z40 := Try.sizeOf69
  v40 := Try.zeroValue69
def lays22_ren : Go.Shelf.Ren := ⟨fun | 22 => 28 | 29 => 45 | 30 => 46 | 36 => 49 | 17 => 50 | n => n, fun | 24 => 22 | 9 => 9 | 3 => 3 | 4 => 4 | 0 => 0 | n => n, fun | n => n⟩
theorem lays22 : Go.Proofs.Lays2.n22 Try.prog lays22_ren where
  mixed := by kernel_rfl
  f17 := Try.func50.trans (congrArg some (by kernel_rfl))
  f22 := Try.func28.trans (congrArg some (by kernel_rfl))
  f29 := Try.func45.trans (congrArg some (by kernel_rfl))
  f30 := Try.func46.trans (congrArg some (by kernel_rfl))
  f36 := Try.func49.trans (congrArg some (by kernel_rfl))
  t0 := Try.underlying0
  a0 := Try.isAgg0
  z0 := Try.sizeOf0
  v0 := Try.zeroValue0
  t3 := Try.underlying3
  a3 := Try.isAgg3
  z3 := Try.sizeOf3
  v3 := Try.zeroValue3
  t4 := Try.underlying4
  a4 := Try.isAgg4
  z4 := Try.sizeOf4
  v4 := Try.zeroValue4
  t9 := Try.underlying9
  a9 := Try.isAgg9
  z9 := Try.sizeOf9
  v9 := Try.zeroValue9
  t24 := Try.underlying22
  a24 := Try.isAgg22
  z24 := Try.sizeOf22
  v24 := Try.zeroValue22
  i9 := by kernel_rfl
def lays16_ren : Go.Shelf.Ren := ⟨fun | 16 => 29 | n => n, fun | 24 => 22 | 9 => 9 | 4 => 4 | n => n, fun | n => n⟩
theorem lays16 : Go.Proofs.Lays2.n16 Try.prog lays16_ren where
  mixed := by kernel_rfl
  f16 := Try.func29.trans (congrArg some (by kernel_rfl))
  t4 := Try.underlying4
  a4 := Try.isAgg4
  z4 := Try.sizeOf4
  v4 := Try.zeroValue4
  t9 := Try.underlying9
  a9 := Try.isAgg9
  z9 := Try.sizeOf9
  v9 := Try.zeroValue9
  t24 := Try.underlying22
  a24 := Try.isAgg22
  z24 := Try.sizeOf22
  v24 := Try.zeroValue22
  i9 := by kernel_rfl
def lays24_ren : Go.Shelf.Ren := ⟨fun | 24 => 31 | n => n, fun | 24 => 22 | 9 => 9 | 3 => 3 | 4 => 4 | 0 => 0 | n => n, fun | n => n⟩
theorem lays24 : Go.Proofs.Lays2.n24 Try.prog lays24_ren where
  mixed := by kernel_rfl
  f24 := Try.func31.trans (congrArg some (by kernel_rfl))
  t0 := Try.underlying0
  a0 := Try.isAgg0
  z0 := Try.sizeOf0
  v0 := Try.zeroValue0
  t3 := Try.underlying3
  a3 := Try.isAgg3
  z3 := Try.sizeOf3
  v3 := Try.zeroValue3
  t4 := Try.underlying4
  a4 := Try.isAgg4
  z4 := Try.sizeOf4
  v4 := Try.zeroValue4
  t9 := Try.underlying9
  a9 := Try.isAgg9
  z9 := Try.sizeOf9
  v9 := Try.zeroValue9
  t24 := Try.underlying22
  a24 := Try.isAgg22
  z24 := Try.sizeOf22
  v24 := Try.zeroValue22
  i9 := by kernel_rfl
end Go.Proofs.Ytaoligpckpabfaa
