/-
  No cell of these rows narrows 'for every input' (looked for: loops, veiled, ifaces, maps, wideKeys, modest, calm, conditions, laid).
  DERIVED. THE GIVEN ROWS OF THIS SEAT. 5 by the template 'for every input the law returns true; each argument reads behind the call as it read before'; 0 by the template 'total and deterministic' (their statements: YteiaejehdjekmaaTotals.lean).
  GIVEN WITH THE SEED: the statements are not yours to turn. If you find one false, say at which input.
  Laid BY PROGRAM, IN A SANDBOX (cutbox-rows.mjs): the forced cells as the released guide's own fill.sh prints them over the translation 497b8e66723dfbf1… (all of the seat's roots in one cut). By AI agents, Wed Nov 11 2026. No macro, syntax, notation, axiom, sorry.
-/
import Derived.Test.YteiaejehdjekmaaChecked
import GoSem.Claim
import GoSem.ClaimJoined
import GoSem.ClaimMapViews
import Derived.JoinedTies
import Derived.KernelRfl
namespace Go.Proofs.Yteiaejehdjekmaa
/- THE CELL 'sum', in the pinned program and in every row, IS THE sha256 OF THE DUMP (.gsa) THAT YteiaejehdjekmaaProg.lean LOADS. Nothing in Lean hashes anything: it is a label: what it is worth is what the hold of that sum in a sandbox is worth. -/
noncomputable def Try.pinned : Pinned := { name := "yteiaejehdjekmaa", sum := "497b8e66723dfbf1ff25be146f7a87c7a2479421e898a1f20bb19471601dcbb9", checked := Try.checked }
namespace Rows
def none {H : Type} : Left H := { results := [], args := [] }

/-- 'aviarylaw22.VecReady': WHATEVER THE INPUT: true; the input reads as it did. -/
def vecReadySpec : ChangeSpec := { name := "vecReady", fn := fun _ => fun
  | [d1, d2, d3, d4] => { results := [.lit (.bool true)], args := [d1, d2, d3, d4] }
  | _ => none }
def vecReadyRow : OpenClaim := { program := "yteiaejehdjekmaa", sum := "497b8e66723dfbf1ff25be146f7a87c7a2479421e898a1f20bb19471601dcbb9", func := "aviary/aviarylaw22.VecReady", spec := "vecReady", apart := false }
def VecReadySaid : Prop := vecReadyRow.holds Try.pinned (OpenSpec.ofChange vecReadySpec)

/-- ITS FALSE NEIGHBOUR: 'it returns false'. Refute it at one input. -/
def vecReadyWrong : ChangeSpec := { name := "vecReady", fn := fun _ => fun
  | [d1, d2, d3, d4] => { results := [.lit (.bool false)], args := [d1, d2, d3, d4] }
  | _ => none }
def VecReadyWrongFalsely : Prop := vecReadyRow.holds Try.pinned (OpenSpec.ofChange vecReadyWrong)

/-- 'aviarylaw22.VecKnown': WHATEVER THE INPUT: true; the input reads as it did. -/
def vecKnownSpec : ChangeSpec := { name := "vecKnown", fn := fun _ => fun
  | [] => { results := [.lit (.bool true)], args := [] }
  | _ => none }
def vecKnownRow : OpenClaim := { program := "yteiaejehdjekmaa", sum := "497b8e66723dfbf1ff25be146f7a87c7a2479421e898a1f20bb19471601dcbb9", func := "aviary/aviarylaw22.VecKnown", spec := "vecKnown", apart := false }
def VecKnownSaid : Prop := vecKnownRow.holds Try.pinned (OpenSpec.ofChange vecKnownSpec)

/-- ITS FALSE NEIGHBOUR: 'it returns false'. Refute it at one input. -/
def vecKnownWrong : ChangeSpec := { name := "vecKnown", fn := fun _ => fun
  | [] => { results := [.lit (.bool false)], args := [] }
  | _ => none }
def VecKnownWrongFalsely : Prop := vecKnownRow.holds Try.pinned (OpenSpec.ofChange vecKnownWrong)

/-- 'aviarylaw22.VecPlays': WHATEVER THE INPUT: true; the input reads as it did. -/
def vecPlaysSpec : ChangeSpec := { name := "vecPlays", fn := fun _ => fun
  | [d1, d2] => { results := [.lit (.bool true)], args := [d1, d2] }
  | _ => none }
def vecPlaysRow : OpenClaim := { program := "yteiaejehdjekmaa", sum := "497b8e66723dfbf1ff25be146f7a87c7a2479421e898a1f20bb19471601dcbb9", func := "aviary/aviarylaw22.VecPlays", spec := "vecPlays", apart := false }
def VecPlaysSaid : Prop := vecPlaysRow.holds Try.pinned (OpenSpec.ofChange vecPlaysSpec)

/-- ITS FALSE NEIGHBOUR: 'it returns false'. Refute it at one input. -/
def vecPlaysWrong : ChangeSpec := { name := "vecPlays", fn := fun _ => fun
  | [d1, d2] => { results := [.lit (.bool false)], args := [d1, d2] }
  | _ => none }
def VecPlaysWrongFalsely : Prop := vecPlaysRow.holds Try.pinned (OpenSpec.ofChange vecPlaysWrong)

/-- 'aviarylaw22.VecRises': WHATEVER THE INPUT: true; the input reads as it did. -/
def vecRisesSpec : ChangeSpec := { name := "vecRises", fn := fun _ => fun
  | [d1, d2] => { results := [.lit (.bool true)], args := [d1, d2] }
  | _ => none }
def vecRisesRow : OpenClaim := { program := "yteiaejehdjekmaa", sum := "497b8e66723dfbf1ff25be146f7a87c7a2479421e898a1f20bb19471601dcbb9", func := "aviary/aviarylaw22.VecRises", spec := "vecRises", apart := false }
def VecRisesSaid : Prop := vecRisesRow.holds Try.pinned (OpenSpec.ofChange vecRisesSpec)

/-- ITS FALSE NEIGHBOUR: 'it returns false'. Refute it at one input. -/
def vecRisesWrong : ChangeSpec := { name := "vecRises", fn := fun _ => fun
  | [d1, d2] => { results := [.lit (.bool false)], args := [d1, d2] }
  | _ => none }
def VecRisesWrongFalsely : Prop := vecRisesRow.holds Try.pinned (OpenSpec.ofChange vecRisesWrong)

/-- 'aviarylaw22.VecJoins': WHATEVER THE INPUT: true; the input reads as it did. -/
def vecJoinsSpec : ChangeSpec := { name := "vecJoins", fn := fun _ => fun
  | [d1, d2, d3] => { results := [.lit (.bool true)], args := [d1, d2, d3] }
  | _ => none }
def vecJoinsRow : OpenClaim := { program := "yteiaejehdjekmaa", sum := "497b8e66723dfbf1ff25be146f7a87c7a2479421e898a1f20bb19471601dcbb9", func := "aviary/aviarylaw22.VecJoins", spec := "vecJoins", apart := false }
def VecJoinsSaid : Prop := vecJoinsRow.holds Try.pinned (OpenSpec.ofChange vecJoinsSpec)

/-- ITS FALSE NEIGHBOUR: 'it returns false'. Refute it at one input. -/
def vecJoinsWrong : ChangeSpec := { name := "vecJoins", fn := fun _ => fun
  | [d1, d2, d3] => { results := [.lit (.bool false)], args := [d1, d2, d3] }
  | _ => none }
def VecJoinsWrongFalsely : Prop := vecJoinsRow.holds Try.pinned (OpenSpec.ofChange vecJoinsWrong)

/- THE SECOND FORM. 'bulk': how many values and letters a reading holds, each counted each time it is reached (what is shared counts as often as it is met; a slice's spare places count too). A statement '..UptoSaid' is the law's where the arguments, and the package variables that the reading takes, are together of bulk at most 1048576: NARROWER than '..Said'. Prove '..Said' where nothing that the law and all that it calls make is longer than what came in: it says more and counts as full. Else prove '..UptoSaid'. A law counts once. -/
mutual
def uptoBulk {H : Type} : DataW H → Nat
  | .lit (.string bytes) => bytes.length + 1
  | .lit _ => 1
  | .nil => 1
  | .ptr d => uptoBulk d + 1
  | .slice elems spare => uptoBulkAll elems + uptoBulkAll spare + 1
  | .agg parts => uptoBulkAll parts + 1
  | .iface _ d => uptoBulk d + 1
  | .map entries => uptoBulkEntries entries + 1
  | .held _ => 1
def uptoBulkAll {H : Type} : List (DataW H) → Nat
  | [] => 0
  | d :: r => uptoBulk d + uptoBulkAll r
def uptoBulkEntries {H : Type} : List (Lit × DataW H) → Nat
  | [] => 0
  | x :: r => uptoBulkEntry x + uptoBulkEntries r
def uptoBulkEntry {H : Type} : Lit × DataW H → Nat
  | (.string bytes, d) => bytes.length + uptoBulk d + 1
  | (_, d) => uptoBulk d + 1
 end
def uptoSmall : (H : Type) → List (DataW H) → Bool := fun _ ds => decide (uptoBulkAll ds ≤ 1048576)
def OpenSpec.upto (s : _root_.Go.ChangeSpec) : _root_.Go.OpenSpec := { _root_.Go.OpenSpec.ofChange s with cond := some uptoSmall }

/-- 'aviarylaw22.VecReady', WHERE WHAT IT READS IS OF BULK AT MOST 1048576: true; the input reads as it did. -/
def vecReadyUptoRow : OpenClaim := { program := "yteiaejehdjekmaa", sum := "497b8e66723dfbf1ff25be146f7a87c7a2479421e898a1f20bb19471601dcbb9", func := "aviary/aviarylaw22.VecReady", spec := "vecReady", apart := false, narrowed := true }
def VecReadyUptoSaid : Prop := vecReadyUptoRow.holds Try.pinned (OpenSpec.upto vecReadySpec)

/-- 'aviarylaw22.VecKnown', WHERE WHAT IT READS IS OF BULK AT MOST 1048576: true; the input reads as it did. -/
def vecKnownUptoRow : OpenClaim := { program := "yteiaejehdjekmaa", sum := "497b8e66723dfbf1ff25be146f7a87c7a2479421e898a1f20bb19471601dcbb9", func := "aviary/aviarylaw22.VecKnown", spec := "vecKnown", apart := false, narrowed := true }
def VecKnownUptoSaid : Prop := vecKnownUptoRow.holds Try.pinned (OpenSpec.upto vecKnownSpec)

/-- 'aviarylaw22.VecPlays', WHERE WHAT IT READS IS OF BULK AT MOST 1048576: true; the input reads as it did. -/
def vecPlaysUptoRow : OpenClaim := { program := "yteiaejehdjekmaa", sum := "497b8e66723dfbf1ff25be146f7a87c7a2479421e898a1f20bb19471601dcbb9", func := "aviary/aviarylaw22.VecPlays", spec := "vecPlays", apart := false, narrowed := true }
def VecPlaysUptoSaid : Prop := vecPlaysUptoRow.holds Try.pinned (OpenSpec.upto vecPlaysSpec)

/-- 'aviarylaw22.VecRises', WHERE WHAT IT READS IS OF BULK AT MOST 1048576: true; the input reads as it did. -/
def vecRisesUptoRow : OpenClaim := { program := "yteiaejehdjekmaa", sum := "497b8e66723dfbf1ff25be146f7a87c7a2479421e898a1f20bb19471601dcbb9", func := "aviary/aviarylaw22.VecRises", spec := "vecRises", apart := false, narrowed := true }
def VecRisesUptoSaid : Prop := vecRisesUptoRow.holds Try.pinned (OpenSpec.upto vecRisesSpec)

/-- 'aviarylaw22.VecJoins', WHERE WHAT IT READS IS OF BULK AT MOST 1048576: true; the input reads as it did. -/
def vecJoinsUptoRow : OpenClaim := { program := "yteiaejehdjekmaa", sum := "497b8e66723dfbf1ff25be146f7a87c7a2479421e898a1f20bb19471601dcbb9", func := "aviary/aviarylaw22.VecJoins", spec := "vecJoins", apart := false, narrowed := true }
def VecJoinsUptoSaid : Prop := vecJoinsUptoRow.holds Try.pinned (OpenSpec.upto vecJoinsSpec)

end Rows
end Go.Proofs.Yteiaejehdjekmaa
