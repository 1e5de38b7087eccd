/-
  No cell of these rows narrows 'for every input' (looked for: loops, veiled, ifaces, maps, wideKeys, modest, calm, conditions, laid).
  DERIVED. THE GIVEN ROWS OF THIS SEAT. 5 by the template 'for every input the law returns true; each argument reads behind the call as it read before'; 0 by the template 'total and deterministic' (their statements: YtdmbllokajolhaaTotals.lean).
  GIVEN WITH THE SEED: the statements are not yours to turn. If you find one false, say at which input.
  Laid BY PROGRAM, IN A SANDBOX (cutbox-rows.mjs): the forced cells as the released guide's own fill.sh prints them over the translation bc3ba38ece6ec5a0… (all of the seat's roots in one cut). By AI agents, Wed Nov 11 2026. No macro, syntax, notation, axiom, sorry.
-/
import Derived.Test.YtdmbllokajolhaaChecked
import GoSem.Claim
import GoSem.ClaimJoined
import GoSem.ClaimMapViews
import Derived.JoinedTies
import Derived.KernelRfl
namespace Go.Proofs.Ytdmbllokajolhaa
/- THE CELL 'sum', in the pinned program and in every row, IS THE sha256 OF THE DUMP (.gsa) THAT YtdmbllokajolhaaProg.lean LOADS. Nothing in Lean hashes anything: it is a label: what it is worth is what the hold of that sum in a sandbox is worth. -/
noncomputable def Try.pinned : Pinned := { name := "ytdmbllokajolhaa", sum := "bc3ba38ece6ec5a0cabf02b6e2724a61b6926a1a2d9f415034bec2bdbd736fe6", checked := Try.checked }
namespace Rows
def none {H : Type} : Left H := { results := [], args := [] }

/-- 'aviarylaw4.FrameKnown': WHATEVER THE INPUT: true; the input reads as it did. -/
def frameKnownSpec : ChangeSpec := { name := "frameKnown", fn := fun _ => fun
  | [] => { results := [.lit (.bool true)], args := [] }
  | _ => none }
def frameKnownRow : OpenClaim := { program := "ytdmbllokajolhaa", sum := "bc3ba38ece6ec5a0cabf02b6e2724a61b6926a1a2d9f415034bec2bdbd736fe6", func := "aviary/aviarylaw4.FrameKnown", spec := "frameKnown", apart := false }
def FrameKnownSaid : Prop := frameKnownRow.holds Try.pinned (OpenSpec.ofChange frameKnownSpec)

/-- ITS FALSE NEIGHBOUR: 'it returns false'. Refute it at one input. -/
def frameKnownWrong : ChangeSpec := { name := "frameKnown", fn := fun _ => fun
  | [] => { results := [.lit (.bool false)], args := [] }
  | _ => none }
def FrameKnownWrongFalsely : Prop := frameKnownRow.holds Try.pinned (OpenSpec.ofChange frameKnownWrong)

/-- 'aviarylaw4.FrameScans': WHATEVER THE INPUT: true; the input reads as it did. -/
def frameScansSpec : ChangeSpec := { name := "frameScans", fn := fun _ => fun
  | [d1, d2, d3, d4, d5] => { results := [.lit (.bool true)], args := [d1, d2, d3, d4, d5] }
  | _ => none }
def frameScansRow : OpenClaim := { program := "ytdmbllokajolhaa", sum := "bc3ba38ece6ec5a0cabf02b6e2724a61b6926a1a2d9f415034bec2bdbd736fe6", func := "aviary/aviarylaw4.FrameScans", spec := "frameScans", apart := false }
def FrameScansSaid : Prop := frameScansRow.holds Try.pinned (OpenSpec.ofChange frameScansSpec)

/-- ITS FALSE NEIGHBOUR: 'it returns false'. Refute it at one input. -/
def frameScansWrong : ChangeSpec := { name := "frameScans", fn := fun _ => fun
  | [d1, d2, d3, d4, d5] => { results := [.lit (.bool false)], args := [d1, d2, d3, d4, d5] }
  | _ => none }
def FrameScansWrongFalsely : Prop := frameScansRow.holds Try.pinned (OpenSpec.ofChange frameScansWrong)

/-- 'aviarylaw4.FrameBack': WHATEVER THE INPUT: true; the input reads as it did. -/
def frameBackSpec : ChangeSpec := { name := "frameBack", fn := fun _ => fun
  | [d1, d2] => { results := [.lit (.bool true)], args := [d1, d2] }
  | _ => none }
def frameBackRow : OpenClaim := { program := "ytdmbllokajolhaa", sum := "bc3ba38ece6ec5a0cabf02b6e2724a61b6926a1a2d9f415034bec2bdbd736fe6", func := "aviary/aviarylaw4.FrameBack", spec := "frameBack", apart := false }
def FrameBackSaid : Prop := frameBackRow.holds Try.pinned (OpenSpec.ofChange frameBackSpec)

/-- ITS FALSE NEIGHBOUR: 'it returns false'. Refute it at one input. -/
def frameBackWrong : ChangeSpec := { name := "frameBack", fn := fun _ => fun
  | [d1, d2] => { results := [.lit (.bool false)], args := [d1, d2] }
  | _ => none }
def FrameBackWrongFalsely : Prop := frameBackRow.holds Try.pinned (OpenSpec.ofChange frameBackWrong)

/-- 'aviarylaw4.FrameBits': WHATEVER THE INPUT: true; the input reads as it did. -/
def frameBitsSpec : ChangeSpec := { name := "frameBits", fn := fun _ => fun
  | [d1, d2, d3] => { results := [.lit (.bool true)], args := [d1, d2, d3] }
  | _ => none }
def frameBitsRow : OpenClaim := { program := "ytdmbllokajolhaa", sum := "bc3ba38ece6ec5a0cabf02b6e2724a61b6926a1a2d9f415034bec2bdbd736fe6", func := "aviary/aviarylaw4.FrameBits", spec := "frameBits", apart := false }
def FrameBitsSaid : Prop := frameBitsRow.holds Try.pinned (OpenSpec.ofChange frameBitsSpec)

/-- ITS FALSE NEIGHBOUR: 'it returns false'. Refute it at one input. -/
def frameBitsWrong : ChangeSpec := { name := "frameBits", fn := fun _ => fun
  | [d1, d2, d3] => { results := [.lit (.bool false)], args := [d1, d2, d3] }
  | _ => none }
def FrameBitsWrongFalsely : Prop := frameBitsRow.holds Try.pinned (OpenSpec.ofChange frameBitsWrong)

/-- 'aviarylaw4.FrameOn': WHATEVER THE INPUT: true; the input reads as it did. -/
def frameOnSpec : ChangeSpec := { name := "frameOn", fn := fun _ => fun
  | [d1, d2] => { results := [.lit (.bool true)], args := [d1, d2] }
  | _ => none }
def frameOnRow : OpenClaim := { program := "ytdmbllokajolhaa", sum := "bc3ba38ece6ec5a0cabf02b6e2724a61b6926a1a2d9f415034bec2bdbd736fe6", func := "aviary/aviarylaw4.FrameOn", spec := "frameOn", apart := false }
def FrameOnSaid : Prop := frameOnRow.holds Try.pinned (OpenSpec.ofChange frameOnSpec)

/-- ITS FALSE NEIGHBOUR: 'it returns false'. Refute it at one input. -/
def frameOnWrong : ChangeSpec := { name := "frameOn", fn := fun _ => fun
  | [d1, d2] => { results := [.lit (.bool false)], args := [d1, d2] }
  | _ => none }
def FrameOnWrongFalsely : Prop := frameOnRow.holds Try.pinned (OpenSpec.ofChange frameOnWrong)

/- THE SECOND FORM. 'bulk': how many values and letters a reading holds, each counted each time it is reached (what is shared counts as often as it is met; a slice's spare places count too). A statement '..UptoSaid' is the law's where the arguments, and the package variables that the reading takes, are together of bulk at most 1048576: NARROWER than '..Said'. Prove '..Said' where nothing that the law and all that it calls make is longer than what came in: it says more and counts as full. Else prove '..UptoSaid'. A law counts once. -/
mutual
def uptoBulk {H : Type} : DataW H → Nat
  | .lit (.string bytes) => bytes.length + 1
  | .lit _ => 1
  | .nil => 1
  | .ptr d => uptoBulk d + 1
  | .slice elems spare => uptoBulkAll elems + uptoBulkAll spare + 1
  | .agg parts => uptoBulkAll parts + 1
  | .iface _ d => uptoBulk d + 1
  | .map entries => uptoBulkEntries entries + 1
  | .held _ => 1
def uptoBulkAll {H : Type} : List (DataW H) → Nat
  | [] => 0
  | d :: r => uptoBulk d + uptoBulkAll r
def uptoBulkEntries {H : Type} : List (Lit × DataW H) → Nat
  | [] => 0
  | x :: r => uptoBulkEntry x + uptoBulkEntries r
def uptoBulkEntry {H : Type} : Lit × DataW H → Nat
  | (.string bytes, d) => bytes.length + uptoBulk d + 1
  | (_, d) => uptoBulk d + 1
 end
def uptoSmall : (H : Type) → List (DataW H) → Bool := fun _ ds => decide (uptoBulkAll ds ≤ 1048576)
def OpenSpec.upto (s : _root_.Go.ChangeSpec) : _root_.Go.OpenSpec := { _root_.Go.OpenSpec.ofChange s with cond := some uptoSmall }

/-- 'aviarylaw4.FrameKnown', WHERE WHAT IT READS IS OF BULK AT MOST 1048576: true; the input reads as it did. -/
def frameKnownUptoRow : OpenClaim := { program := "ytdmbllokajolhaa", sum := "bc3ba38ece6ec5a0cabf02b6e2724a61b6926a1a2d9f415034bec2bdbd736fe6", func := "aviary/aviarylaw4.FrameKnown", spec := "frameKnown", apart := false, narrowed := true }
def FrameKnownUptoSaid : Prop := frameKnownUptoRow.holds Try.pinned (OpenSpec.upto frameKnownSpec)

/-- 'aviarylaw4.FrameScans', WHERE WHAT IT READS IS OF BULK AT MOST 1048576: true; the input reads as it did. -/
def frameScansUptoRow : OpenClaim := { program := "ytdmbllokajolhaa", sum := "bc3ba38ece6ec5a0cabf02b6e2724a61b6926a1a2d9f415034bec2bdbd736fe6", func := "aviary/aviarylaw4.FrameScans", spec := "frameScans", apart := false, narrowed := true }
def FrameScansUptoSaid : Prop := frameScansUptoRow.holds Try.pinned (OpenSpec.upto frameScansSpec)

/-- 'aviarylaw4.FrameBack', WHERE WHAT IT READS IS OF BULK AT MOST 1048576: true; the input reads as it did. -/
def frameBackUptoRow : OpenClaim := { program := "ytdmbllokajolhaa", sum := "bc3ba38ece6ec5a0cabf02b6e2724a61b6926a1a2d9f415034bec2bdbd736fe6", func := "aviary/aviarylaw4.FrameBack", spec := "frameBack", apart := false, narrowed := true }
def FrameBackUptoSaid : Prop := frameBackUptoRow.holds Try.pinned (OpenSpec.upto frameBackSpec)

/-- 'aviarylaw4.FrameBits', WHERE WHAT IT READS IS OF BULK AT MOST 1048576: true; the input reads as it did. -/
def frameBitsUptoRow : OpenClaim := { program := "ytdmbllokajolhaa", sum := "bc3ba38ece6ec5a0cabf02b6e2724a61b6926a1a2d9f415034bec2bdbd736fe6", func := "aviary/aviarylaw4.FrameBits", spec := "frameBits", apart := false, narrowed := true }
def FrameBitsUptoSaid : Prop := frameBitsUptoRow.holds Try.pinned (OpenSpec.upto frameBitsSpec)

/-- 'aviarylaw4.FrameOn', WHERE WHAT IT READS IS OF BULK AT MOST 1048576: true; the input reads as it did. -/
def frameOnUptoRow : OpenClaim := { program := "ytdmbllokajolhaa", sum := "bc3ba38ece6ec5a0cabf02b6e2724a61b6926a1a2d9f415034bec2bdbd736fe6", func := "aviary/aviarylaw4.FrameOn", spec := "frameOn", apart := false, narrowed := true }
def FrameOnUptoSaid : Prop := frameOnUptoRow.holds Try.pinned (OpenSpec.upto frameOnSpec)

end Rows
end Go.Proofs.Ytdmbllokajolhaa
