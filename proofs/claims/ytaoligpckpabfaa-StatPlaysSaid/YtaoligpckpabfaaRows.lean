/-
  No cell of these rows narrows 'for every input' (looked for: loops, veiled, ifaces, maps, wideKeys, modest, calm, conditions, laid).
  DERIVED. THE GIVEN ROWS OF THIS SEAT. 6 by the template 'for every input the law returns true; each argument reads behind the call as it read before'; 0 by the template 'total and deterministic' (their statements: YtaoligpckpabfaaTotals.lean).
  GIVEN WITH THE SEED: the statements are not yours to turn. If you find one false, say at which input.
  Laid BY PROGRAM, IN A SANDBOX (cutbox-rows.mjs): the forced cells as the released guide's own fill.sh prints them over the translation ffc4db72e4ca346d… (all of the seat's roots in one cut). By AI agents, Wed Nov 11 2026. No macro, syntax, notation, axiom, sorry.
-/
import Derived.Test.YtaoligpckpabfaaChecked
import GoSem.Claim
import GoSem.ClaimJoined
import GoSem.ClaimMapViews
import Derived.JoinedTies
import Derived.KernelRfl
namespace Go.Proofs.Ytaoligpckpabfaa
/- THE CELL 'sum', in the pinned program and in every row, IS THE sha256 OF THE DUMP (.gsa) THAT YtaoligpckpabfaaProg.lean LOADS. Nothing in Lean hashes anything: it is a label: what it is worth is what the hold of that sum in a sandbox is worth. -/
noncomputable def Try.pinned : Pinned := { name := "ytaoligpckpabfaa", sum := "ffc4db72e4ca346d3e2807d48d875c4c719bae2cbd51d0f278aeb29b5adb9472", checked := Try.checked }
namespace Rows
def none {H : Type} : Left H := { results := [], args := [] }

/-- 'aviarylaw10.StatWrites': WHATEVER THE INPUT: true; the input reads as it did. -/
def statWritesSpec : ChangeSpec := { name := "statWrites", fn := fun _ => fun
  | [d1, d2] => { results := [.lit (.bool true)], args := [d1, d2] }
  | _ => none }
def statWritesRow : OpenClaim := { program := "ytaoligpckpabfaa", sum := "ffc4db72e4ca346d3e2807d48d875c4c719bae2cbd51d0f278aeb29b5adb9472", func := "aviary/aviarylaw10.StatWrites", spec := "statWrites", inPlace := ["slices.overlaps[string]"], apart := false }
def StatWritesSaid : Prop := statWritesRow.holds Try.pinned (OpenSpec.ofChange statWritesSpec)

/-- ITS FALSE NEIGHBOUR: 'it returns false'. Refute it at one input. -/
def statWritesWrong : ChangeSpec := { name := "statWrites", fn := fun _ => fun
  | [d1, d2] => { results := [.lit (.bool false)], args := [d1, d2] }
  | _ => none }
def StatWritesWrongFalsely : Prop := statWritesRow.holds Try.pinned (OpenSpec.ofChange statWritesWrong)

/-- 'aviarylaw10.StatNames': WHATEVER THE INPUT: true; the input reads as it did. -/
def statNamesSpec : ChangeSpec := { name := "statNames", fn := fun _ => fun
  | [d] => { results := [.lit (.bool true)], args := [d] }
  | _ => none }
def statNamesRow : OpenClaim := { program := "ytaoligpckpabfaa", sum := "ffc4db72e4ca346d3e2807d48d875c4c719bae2cbd51d0f278aeb29b5adb9472", func := "aviary/aviarylaw10.StatNames", spec := "statNames", inPlace := ["slices.overlaps[string]"], apart := false }
def StatNamesSaid : Prop := statNamesRow.holds Try.pinned (OpenSpec.ofChange statNamesSpec)

/-- ITS FALSE NEIGHBOUR: 'it returns false'. Refute it at one input. -/
def statNamesWrong : ChangeSpec := { name := "statNames", fn := fun _ => fun
  | [d] => { results := [.lit (.bool false)], args := [d] }
  | _ => none }
def StatNamesWrongFalsely : Prop := statNamesRow.holds Try.pinned (OpenSpec.ofChange statNamesWrong)

/-- 'aviarylaw10.StatPlays': WHATEVER THE INPUT: true; the input reads as it did. -/
def statPlaysSpec : ChangeSpec := { name := "statPlays", fn := fun _ => fun
  | [d1, d2] => { results := [.lit (.bool true)], args := [d1, d2] }
  | _ => none }
def statPlaysRow : OpenClaim := { program := "ytaoligpckpabfaa", sum := "ffc4db72e4ca346d3e2807d48d875c4c719bae2cbd51d0f278aeb29b5adb9472", func := "aviary/aviarylaw10.StatPlays", spec := "statPlays", inPlace := ["slices.overlaps[string]"], apart := false }
def StatPlaysSaid : Prop := statPlaysRow.holds Try.pinned (OpenSpec.ofChange statPlaysSpec)

/-- ITS FALSE NEIGHBOUR: 'it returns false'. Refute it at one input. -/
def statPlaysWrong : ChangeSpec := { name := "statPlays", fn := fun _ => fun
  | [d1, d2] => { results := [.lit (.bool false)], args := [d1, d2] }
  | _ => none }
def StatPlaysWrongFalsely : Prop := statPlaysRow.holds Try.pinned (OpenSpec.ofChange statPlaysWrong)

/-- 'aviarylaw10.StatApart': WHATEVER THE INPUT: true; the input reads as it did. -/
def statApartSpec : ChangeSpec := { name := "statApart", fn := fun _ => fun
  | [d1, d2] => { results := [.lit (.bool true)], args := [d1, d2] }
  | _ => none }
def statApartRow : OpenClaim := { program := "ytaoligpckpabfaa", sum := "ffc4db72e4ca346d3e2807d48d875c4c719bae2cbd51d0f278aeb29b5adb9472", func := "aviary/aviarylaw10.StatApart", spec := "statApart", inPlace := ["slices.overlaps[string]"], apart := false }
def StatApartSaid : Prop := statApartRow.holds Try.pinned (OpenSpec.ofChange statApartSpec)

/-- ITS FALSE NEIGHBOUR: 'it returns false'. Refute it at one input. -/
def statApartWrong : ChangeSpec := { name := "statApart", fn := fun _ => fun
  | [d1, d2] => { results := [.lit (.bool false)], args := [d1, d2] }
  | _ => none }
def StatApartWrongFalsely : Prop := statApartRow.holds Try.pinned (OpenSpec.ofChange statApartWrong)

/-- 'aviarylaw10.StatKnown': WHATEVER THE INPUT: true; the input reads as it did. -/
def statKnownSpec : ChangeSpec := { name := "statKnown", fn := fun _ => fun
  | [] => { results := [.lit (.bool true)], args := [] }
  | _ => none }
def statKnownRow : OpenClaim := { program := "ytaoligpckpabfaa", sum := "ffc4db72e4ca346d3e2807d48d875c4c719bae2cbd51d0f278aeb29b5adb9472", func := "aviary/aviarylaw10.StatKnown", spec := "statKnown", inPlace := ["slices.overlaps[string]"], apart := false }
def StatKnownSaid : Prop := statKnownRow.holds Try.pinned (OpenSpec.ofChange statKnownSpec)

/-- ITS FALSE NEIGHBOUR: 'it returns false'. Refute it at one input. -/
def statKnownWrong : ChangeSpec := { name := "statKnown", fn := fun _ => fun
  | [] => { results := [.lit (.bool false)], args := [] }
  | _ => none }
def StatKnownWrongFalsely : Prop := statKnownRow.holds Try.pinned (OpenSpec.ofChange statKnownWrong)

/-- 'aviarylaw10.StatBack': WHATEVER THE INPUT: true; the input reads as it did. -/
def statBackSpec : ChangeSpec := { name := "statBack", fn := fun _ => fun
  | [d1, d2, d3, d4] => { results := [.lit (.bool true)], args := [d1, d2, d3, d4] }
  | _ => none }
def statBackRow : OpenClaim := { program := "ytaoligpckpabfaa", sum := "ffc4db72e4ca346d3e2807d48d875c4c719bae2cbd51d0f278aeb29b5adb9472", func := "aviary/aviarylaw10.StatBack", spec := "statBack", inPlace := ["slices.overlaps[string]"], apart := false }
def StatBackSaid : Prop := statBackRow.holds Try.pinned (OpenSpec.ofChange statBackSpec)

/-- ITS FALSE NEIGHBOUR: 'it returns false'. Refute it at one input. -/
def statBackWrong : ChangeSpec := { name := "statBack", fn := fun _ => fun
  | [d1, d2, d3, d4] => { results := [.lit (.bool false)], args := [d1, d2, d3, d4] }
  | _ => none }
def StatBackWrongFalsely : Prop := statBackRow.holds Try.pinned (OpenSpec.ofChange statBackWrong)

/- THE SECOND FORM. 'bulk': how many values and letters a reading holds, each counted each time it is reached (what is shared counts as often as it is met; a slice's spare places count too). A statement '..UptoSaid' is the law's where the arguments, and the package variables that the reading takes, are together of bulk at most 1048576: NARROWER than '..Said'. Prove '..Said' where nothing that the law and all that it calls make is longer than what came in: it says more and counts as full. Else prove '..UptoSaid'. A law counts once. -/
mutual
def uptoBulk {H : Type} : DataW H → Nat
  | .lit (.string bytes) => bytes.length + 1
  | .lit _ => 1
  | .nil => 1
  | .ptr d => uptoBulk d + 1
  | .slice elems spare => uptoBulkAll elems + uptoBulkAll spare + 1
  | .agg parts => uptoBulkAll parts + 1
  | .iface _ d => uptoBulk d + 1
  | .map entries => uptoBulkEntries entries + 1
  | .held _ => 1
def uptoBulkAll {H : Type} : List (DataW H) → Nat
  | [] => 0
  | d :: r => uptoBulk d + uptoBulkAll r
def uptoBulkEntries {H : Type} : List (Lit × DataW H) → Nat
  | [] => 0
  | x :: r => uptoBulkEntry x + uptoBulkEntries r
def uptoBulkEntry {H : Type} : Lit × DataW H → Nat
  | (.string bytes, d) => bytes.length + uptoBulk d + 1
  | (_, d) => uptoBulk d + 1
 end
def uptoSmall : (H : Type) → List (DataW H) → Bool := fun _ ds => decide (uptoBulkAll ds ≤ 1048576)
def OpenSpec.upto (s : _root_.Go.ChangeSpec) : _root_.Go.OpenSpec := { _root_.Go.OpenSpec.ofChange s with cond := some uptoSmall }

/-- 'aviarylaw10.StatWrites', WHERE WHAT IT READS IS OF BULK AT MOST 1048576: true; the input reads as it did. -/
def statWritesUptoRow : OpenClaim := { program := "ytaoligpckpabfaa", sum := "ffc4db72e4ca346d3e2807d48d875c4c719bae2cbd51d0f278aeb29b5adb9472", func := "aviary/aviarylaw10.StatWrites", spec := "statWrites", inPlace := ["slices.overlaps[string]"], apart := false, narrowed := true }
def StatWritesUptoSaid : Prop := statWritesUptoRow.holds Try.pinned (OpenSpec.upto statWritesSpec)

/-- 'aviarylaw10.StatNames', WHERE WHAT IT READS IS OF BULK AT MOST 1048576: true; the input reads as it did. -/
def statNamesUptoRow : OpenClaim := { program := "ytaoligpckpabfaa", sum := "ffc4db72e4ca346d3e2807d48d875c4c719bae2cbd51d0f278aeb29b5adb9472", func := "aviary/aviarylaw10.StatNames", spec := "statNames", inPlace := ["slices.overlaps[string]"], apart := false, narrowed := true }
def StatNamesUptoSaid : Prop := statNamesUptoRow.holds Try.pinned (OpenSpec.upto statNamesSpec)

/-- 'aviarylaw10.StatPlays', WHERE WHAT IT READS IS OF BULK AT MOST 1048576: true; the input reads as it did. -/
def statPlaysUptoRow : OpenClaim := { program := "ytaoligpckpabfaa", sum := "ffc4db72e4ca346d3e2807d48d875c4c719bae2cbd51d0f278aeb29b5adb9472", func := "aviary/aviarylaw10.StatPlays", spec := "statPlays", inPlace := ["slices.overlaps[string]"], apart := false, narrowed := true }
def StatPlaysUptoSaid : Prop := statPlaysUptoRow.holds Try.pinned (OpenSpec.upto statPlaysSpec)

/-- 'aviarylaw10.StatApart', WHERE WHAT IT READS IS OF BULK AT MOST 1048576: true; the input reads as it did. -/
def statApartUptoRow : OpenClaim := { program := "ytaoligpckpabfaa", sum := "ffc4db72e4ca346d3e2807d48d875c4c719bae2cbd51d0f278aeb29b5adb9472", func := "aviary/aviarylaw10.StatApart", spec := "statApart", inPlace := ["slices.overlaps[string]"], apart := false, narrowed := true }
def StatApartUptoSaid : Prop := statApartUptoRow.holds Try.pinned (OpenSpec.upto statApartSpec)

/-- 'aviarylaw10.StatKnown', WHERE WHAT IT READS IS OF BULK AT MOST 1048576: true; the input reads as it did. -/
def statKnownUptoRow : OpenClaim := { program := "ytaoligpckpabfaa", sum := "ffc4db72e4ca346d3e2807d48d875c4c719bae2cbd51d0f278aeb29b5adb9472", func := "aviary/aviarylaw10.StatKnown", spec := "statKnown", inPlace := ["slices.overlaps[string]"], apart := false, narrowed := true }
def StatKnownUptoSaid : Prop := statKnownUptoRow.holds Try.pinned (OpenSpec.upto statKnownSpec)

/-- 'aviarylaw10.StatBack', WHERE WHAT IT READS IS OF BULK AT MOST 1048576: true; the input reads as it did. -/
def statBackUptoRow : OpenClaim := { program := "ytaoligpckpabfaa", sum := "ffc4db72e4ca346d3e2807d48d875c4c719bae2cbd51d0f278aeb29b5adb9472", func := "aviary/aviarylaw10.StatBack", spec := "statBack", inPlace := ["slices.overlaps[string]"], apart := false, narrowed := true }
def StatBackUptoSaid : Prop := statBackUptoRow.holds Try.pinned (OpenSpec.upto statBackSpec)

end Rows
end Go.Proofs.Ytaoligpckpabfaa
