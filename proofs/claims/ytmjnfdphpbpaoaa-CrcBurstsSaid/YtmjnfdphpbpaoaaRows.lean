/-
  No cell of these rows narrows 'for every input' (looked for: loops, veiled, ifaces, maps, wideKeys, modest, calm, conditions, laid).
  DERIVED. THE GIVEN ROWS OF THIS SEAT. 5 by the template 'for every input the law returns true; each argument reads behind the call as it read before'; 0 by the template 'total and deterministic' (their statements: YtmjnfdphpbpaoaaTotals.lean).
  GIVEN WITH THE SEED: the statements are not yours to turn. If you find one false, say at which input.
  Laid BY PROGRAM, IN A SANDBOX (cutbox-rows.mjs): the forced cells as the released guide's own fill.sh prints them over the translation 3e224e4ee84ac9dc… (all of the seat's roots in one cut). By AI agents, Wed Nov 11 2026. No macro, syntax, notation, axiom, sorry.
-/
import Derived.Test.YtmjnfdphpbpaoaaChecked
import GoSem.Claim
import GoSem.ClaimJoined
import GoSem.ClaimMapViews
import Derived.JoinedTies
import Derived.KernelRfl
namespace Go.Proofs.Ytmjnfdphpbpaoaa
/- THE CELL 'sum', in the pinned program and in every row, IS THE sha256 OF THE DUMP (.gsa) THAT YtmjnfdphpbpaoaaProg.lean LOADS. Nothing in Lean hashes anything: it is a label: what it is worth is what the hold of that sum in a sandbox is worth. -/
noncomputable def Try.pinned : Pinned := { name := "ytmjnfdphpbpaoaa", sum := "3e224e4ee84ac9dc65e71125165e02a2dbfa99a2adeae99c8a7d7807b40fa68f", checked := Try.checked }
namespace Rows
def none {H : Type} : Left H := { results := [], args := [] }

/-- 'aviarylaw3.CrcKnown': WHATEVER THE INPUT: true; the input reads as it did. -/
def crcKnownSpec : ChangeSpec := { name := "crcKnown", fn := fun _ => fun
  | [] => { results := [.lit (.bool true)], args := [] }
  | _ => none }
def crcKnownRow : OpenClaim := { program := "ytmjnfdphpbpaoaa", sum := "3e224e4ee84ac9dc65e71125165e02a2dbfa99a2adeae99c8a7d7807b40fa68f", func := "aviary/aviarylaw3.CrcKnown", spec := "crcKnown", apart := false }
def CrcKnownSaid : Prop := crcKnownRow.holds Try.pinned (OpenSpec.ofChange crcKnownSpec)

/-- ITS FALSE NEIGHBOUR: 'it returns false'. Refute it at one input. -/
def crcKnownWrong : ChangeSpec := { name := "crcKnown", fn := fun _ => fun
  | [] => { results := [.lit (.bool false)], args := [] }
  | _ => none }
def CrcKnownWrongFalsely : Prop := crcKnownRow.holds Try.pinned (OpenSpec.ofChange crcKnownWrong)

/-- 'aviarylaw3.CrcSays': WHATEVER THE INPUT: true; the input reads as it did. -/
def crcSaysSpec : ChangeSpec := { name := "crcSays", fn := fun _ => fun
  | [d] => { results := [.lit (.bool true)], args := [d] }
  | _ => none }
def crcSaysRow : OpenClaim := { program := "ytmjnfdphpbpaoaa", sum := "3e224e4ee84ac9dc65e71125165e02a2dbfa99a2adeae99c8a7d7807b40fa68f", func := "aviary/aviarylaw3.CrcSays", spec := "crcSays", apart := false }
def CrcSaysSaid : Prop := crcSaysRow.holds Try.pinned (OpenSpec.ofChange crcSaysSpec)

/-- ITS FALSE NEIGHBOUR: 'it returns false'. Refute it at one input. -/
def crcSaysWrong : ChangeSpec := { name := "crcSays", fn := fun _ => fun
  | [d] => { results := [.lit (.bool false)], args := [d] }
  | _ => none }
def CrcSaysWrongFalsely : Prop := crcSaysRow.holds Try.pinned (OpenSpec.ofChange crcSaysWrong)

/-- 'aviarylaw3.CrcBursts': WHATEVER THE INPUT: true; the input reads as it did. -/
def crcBurstsSpec : ChangeSpec := { name := "crcBursts", fn := fun _ => fun
  | [d1, d2, d3] => { results := [.lit (.bool true)], args := [d1, d2, d3] }
  | _ => none }
def crcBurstsRow : OpenClaim := { program := "ytmjnfdphpbpaoaa", sum := "3e224e4ee84ac9dc65e71125165e02a2dbfa99a2adeae99c8a7d7807b40fa68f", func := "aviary/aviarylaw3.CrcBursts", spec := "crcBursts", apart := false }
def CrcBurstsSaid : Prop := crcBurstsRow.holds Try.pinned (OpenSpec.ofChange crcBurstsSpec)

/-- ITS FALSE NEIGHBOUR: 'it returns false'. Refute it at one input. -/
def crcBurstsWrong : ChangeSpec := { name := "crcBursts", fn := fun _ => fun
  | [d1, d2, d3] => { results := [.lit (.bool false)], args := [d1, d2, d3] }
  | _ => none }
def CrcBurstsWrongFalsely : Prop := crcBurstsRow.holds Try.pinned (OpenSpec.ofChange crcBurstsWrong)

/-- 'aviarylaw3.CrcLines': WHATEVER THE INPUT: true; the input reads as it did. -/
def crcLinesSpec : ChangeSpec := { name := "crcLines", fn := fun _ => fun
  | [d1, d2, d3] => { results := [.lit (.bool true)], args := [d1, d2, d3] }
  | _ => none }
def crcLinesRow : OpenClaim := { program := "ytmjnfdphpbpaoaa", sum := "3e224e4ee84ac9dc65e71125165e02a2dbfa99a2adeae99c8a7d7807b40fa68f", func := "aviary/aviarylaw3.CrcLines", spec := "crcLines", apart := false }
def CrcLinesSaid : Prop := crcLinesRow.holds Try.pinned (OpenSpec.ofChange crcLinesSpec)

/-- ITS FALSE NEIGHBOUR: 'it returns false'. Refute it at one input. -/
def crcLinesWrong : ChangeSpec := { name := "crcLines", fn := fun _ => fun
  | [d1, d2, d3] => { results := [.lit (.bool false)], args := [d1, d2, d3] }
  | _ => none }
def CrcLinesWrongFalsely : Prop := crcLinesRow.holds Try.pinned (OpenSpec.ofChange crcLinesWrong)

/-- 'aviarylaw3.CrcSwaps': WHATEVER THE INPUT: true; the input reads as it did. -/
def crcSwapsSpec : ChangeSpec := { name := "crcSwaps", fn := fun _ => fun
  | [d1, d2] => { results := [.lit (.bool true)], args := [d1, d2] }
  | _ => none }
def crcSwapsRow : OpenClaim := { program := "ytmjnfdphpbpaoaa", sum := "3e224e4ee84ac9dc65e71125165e02a2dbfa99a2adeae99c8a7d7807b40fa68f", func := "aviary/aviarylaw3.CrcSwaps", spec := "crcSwaps", apart := false }
def CrcSwapsSaid : Prop := crcSwapsRow.holds Try.pinned (OpenSpec.ofChange crcSwapsSpec)

/-- ITS FALSE NEIGHBOUR: 'it returns false'. Refute it at one input. -/
def crcSwapsWrong : ChangeSpec := { name := "crcSwaps", fn := fun _ => fun
  | [d1, d2] => { results := [.lit (.bool false)], args := [d1, d2] }
  | _ => none }
def CrcSwapsWrongFalsely : Prop := crcSwapsRow.holds Try.pinned (OpenSpec.ofChange crcSwapsWrong)

/- THE SECOND FORM. 'bulk': how many values and letters a reading holds, each counted each time it is reached (what is shared counts as often as it is met; a slice's spare places count too). A statement '..UptoSaid' is the law's where the arguments, and the package variables that the reading takes, are together of bulk at most 1048576: NARROWER than '..Said'. Prove '..Said' where nothing that the law and all that it calls make is longer than what came in: it says more and counts as full. Else prove '..UptoSaid'. A law counts once. -/
mutual
def uptoBulk {H : Type} : DataW H → Nat
  | .lit (.string bytes) => bytes.length + 1
  | .lit _ => 1
  | .nil => 1
  | .ptr d => uptoBulk d + 1
  | .slice elems spare => uptoBulkAll elems + uptoBulkAll spare + 1
  | .agg parts => uptoBulkAll parts + 1
  | .iface _ d => uptoBulk d + 1
  | .map entries => uptoBulkEntries entries + 1
  | .held _ => 1
def uptoBulkAll {H : Type} : List (DataW H) → Nat
  | [] => 0
  | d :: r => uptoBulk d + uptoBulkAll r
def uptoBulkEntries {H : Type} : List (Lit × DataW H) → Nat
  | [] => 0
  | x :: r => uptoBulkEntry x + uptoBulkEntries r
def uptoBulkEntry {H : Type} : Lit × DataW H → Nat
  | (.string bytes, d) => bytes.length + uptoBulk d + 1
  | (_, d) => uptoBulk d + 1
 end
def uptoSmall : (H : Type) → List (DataW H) → Bool := fun _ ds => decide (uptoBulkAll ds ≤ 1048576)
def OpenSpec.upto (s : _root_.Go.ChangeSpec) : _root_.Go.OpenSpec := { _root_.Go.OpenSpec.ofChange s with cond := some uptoSmall }

/-- 'aviarylaw3.CrcKnown', WHERE WHAT IT READS IS OF BULK AT MOST 1048576: true; the input reads as it did. -/
def crcKnownUptoRow : OpenClaim := { program := "ytmjnfdphpbpaoaa", sum := "3e224e4ee84ac9dc65e71125165e02a2dbfa99a2adeae99c8a7d7807b40fa68f", func := "aviary/aviarylaw3.CrcKnown", spec := "crcKnown", apart := false, narrowed := true }
def CrcKnownUptoSaid : Prop := crcKnownUptoRow.holds Try.pinned (OpenSpec.upto crcKnownSpec)

/-- 'aviarylaw3.CrcSays', WHERE WHAT IT READS IS OF BULK AT MOST 1048576: true; the input reads as it did. -/
def crcSaysUptoRow : OpenClaim := { program := "ytmjnfdphpbpaoaa", sum := "3e224e4ee84ac9dc65e71125165e02a2dbfa99a2adeae99c8a7d7807b40fa68f", func := "aviary/aviarylaw3.CrcSays", spec := "crcSays", apart := false, narrowed := true }
def CrcSaysUptoSaid : Prop := crcSaysUptoRow.holds Try.pinned (OpenSpec.upto crcSaysSpec)

/-- 'aviarylaw3.CrcBursts', WHERE WHAT IT READS IS OF BULK AT MOST 1048576: true; the input reads as it did. -/
def crcBurstsUptoRow : OpenClaim := { program := "ytmjnfdphpbpaoaa", sum := "3e224e4ee84ac9dc65e71125165e02a2dbfa99a2adeae99c8a7d7807b40fa68f", func := "aviary/aviarylaw3.CrcBursts", spec := "crcBursts", apart := false, narrowed := true }
def CrcBurstsUptoSaid : Prop := crcBurstsUptoRow.holds Try.pinned (OpenSpec.upto crcBurstsSpec)

/-- 'aviarylaw3.CrcLines', WHERE WHAT IT READS IS OF BULK AT MOST 1048576: true; the input reads as it did. -/
def crcLinesUptoRow : OpenClaim := { program := "ytmjnfdphpbpaoaa", sum := "3e224e4ee84ac9dc65e71125165e02a2dbfa99a2adeae99c8a7d7807b40fa68f", func := "aviary/aviarylaw3.CrcLines", spec := "crcLines", apart := false, narrowed := true }
def CrcLinesUptoSaid : Prop := crcLinesUptoRow.holds Try.pinned (OpenSpec.upto crcLinesSpec)

/-- 'aviarylaw3.CrcSwaps', WHERE WHAT IT READS IS OF BULK AT MOST 1048576: true; the input reads as it did. -/
def crcSwapsUptoRow : OpenClaim := { program := "ytmjnfdphpbpaoaa", sum := "3e224e4ee84ac9dc65e71125165e02a2dbfa99a2adeae99c8a7d7807b40fa68f", func := "aviary/aviarylaw3.CrcSwaps", spec := "crcSwaps", apart := false, narrowed := true }
def CrcSwapsUptoSaid : Prop := crcSwapsUptoRow.holds Try.pinned (OpenSpec.upto crcSwapsSpec)

end Rows
end Go.Proofs.Ytmjnfdphpbpaoaa
