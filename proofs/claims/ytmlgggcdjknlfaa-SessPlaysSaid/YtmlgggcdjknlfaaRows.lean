/-
  No cell of these rows narrows 'for every input' (looked for: loops, veiled, ifaces, maps, wideKeys, modest, calm, conditions, laid).
  DERIVED. THE GIVEN ROWS OF THIS SEAT. 6 by the template 'for every input the law returns true; each argument reads behind the call as it read before'; 0 by the template 'total and deterministic' (their statements: YtmlgggcdjknlfaaTotals.lean).
  GIVEN WITH THE SEED: the statements are not yours to turn. If you find one false, say at which input.
  Laid BY PROGRAM, IN A SANDBOX (cutbox-rows.mjs): the forced cells as the released guide's own fill.sh prints them over the translation 85a768ca717c89e6… (all of the seat's roots in one cut). By AI agents, Wed Nov 11 2026. No macro, syntax, notation, axiom, sorry.
-/
import Derived.Test.YtmlgggcdjknlfaaChecked
import GoSem.Claim
import GoSem.ClaimJoined
import GoSem.ClaimMapViews
import Derived.JoinedTies
import Derived.KernelRfl
namespace Go.Proofs.Ytmlgggcdjknlfaa
/- THE CELL 'sum', in the pinned program and in every row, IS THE sha256 OF THE DUMP (.gsa) THAT YtmlgggcdjknlfaaProg.lean LOADS. Nothing in Lean hashes anything: it is a label: what it is worth is what the hold of that sum in a sandbox is worth. -/
noncomputable def Try.pinned : Pinned := { name := "ytmlgggcdjknlfaa", sum := "85a768ca717c89e6ca8a1c943cf85506cc87a8a6795313deab51ea1877dd36d2", checked := Try.checked }
namespace Rows
def none {H : Type} : Left H := { results := [], args := [] }

/-- 'aviarylaw15.SessLives': WHATEVER THE INPUT: true; the input reads as it did. -/
def sessLivesSpec : ChangeSpec := { name := "sessLives", fn := fun _ => fun
  | [d1, d2, d3] => { results := [.lit (.bool true)], args := [d1, d2, d3] }
  | _ => none }
def sessLivesRow : OpenClaim := { program := "ytmlgggcdjknlfaa", sum := "85a768ca717c89e6ca8a1c943cf85506cc87a8a6795313deab51ea1877dd36d2", func := "aviary/aviarylaw15.SessLives", spec := "sessLives", unfollowed := true, recurses := true, apart := false }
def SessLivesSaid : Prop := sessLivesRow.holds Try.pinned (OpenSpec.ofChange sessLivesSpec)

/-- ITS FALSE NEIGHBOUR: 'it returns false'. Refute it at one input. -/
def sessLivesWrong : ChangeSpec := { name := "sessLives", fn := fun _ => fun
  | [d1, d2, d3] => { results := [.lit (.bool false)], args := [d1, d2, d3] }
  | _ => none }
def SessLivesWrongFalsely : Prop := sessLivesRow.holds Try.pinned (OpenSpec.ofChange sessLivesWrong)

/-- 'aviarylaw15.SessApart': WHATEVER THE INPUT: true; the input reads as it did. -/
def sessApartSpec : ChangeSpec := { name := "sessApart", fn := fun _ => fun
  | [d1, d2] => { results := [.lit (.bool true)], args := [d1, d2] }
  | _ => none }
def sessApartRow : OpenClaim := { program := "ytmlgggcdjknlfaa", sum := "85a768ca717c89e6ca8a1c943cf85506cc87a8a6795313deab51ea1877dd36d2", func := "aviary/aviarylaw15.SessApart", spec := "sessApart", unfollowed := true, recurses := true, apart := false }
def SessApartSaid : Prop := sessApartRow.holds Try.pinned (OpenSpec.ofChange sessApartSpec)

/-- ITS FALSE NEIGHBOUR: 'it returns false'. Refute it at one input. -/
def sessApartWrong : ChangeSpec := { name := "sessApart", fn := fun _ => fun
  | [d1, d2] => { results := [.lit (.bool false)], args := [d1, d2] }
  | _ => none }
def SessApartWrongFalsely : Prop := sessApartRow.holds Try.pinned (OpenSpec.ofChange sessApartWrong)

/-- 'aviarylaw15.SessNumbers': WHATEVER THE INPUT: true; the input reads as it did. -/
def sessNumbersSpec : ChangeSpec := { name := "sessNumbers", fn := fun _ => fun
  | [d] => { results := [.lit (.bool true)], args := [d] }
  | _ => none }
def sessNumbersRow : OpenClaim := { program := "ytmlgggcdjknlfaa", sum := "85a768ca717c89e6ca8a1c943cf85506cc87a8a6795313deab51ea1877dd36d2", func := "aviary/aviarylaw15.SessNumbers", spec := "sessNumbers", unfollowed := true, recurses := true, apart := false }
def SessNumbersSaid : Prop := sessNumbersRow.holds Try.pinned (OpenSpec.ofChange sessNumbersSpec)

/-- ITS FALSE NEIGHBOUR: 'it returns false'. Refute it at one input. -/
def sessNumbersWrong : ChangeSpec := { name := "sessNumbers", fn := fun _ => fun
  | [d] => { results := [.lit (.bool false)], args := [d] }
  | _ => none }
def SessNumbersWrongFalsely : Prop := sessNumbersRow.holds Try.pinned (OpenSpec.ofChange sessNumbersWrong)

/-- 'aviarylaw15.SessKnown': WHATEVER THE INPUT: true; the input reads as it did. -/
def sessKnownSpec : ChangeSpec := { name := "sessKnown", fn := fun _ => fun
  | [] => { results := [.lit (.bool true)], args := [] }
  | _ => none }
def sessKnownRow : OpenClaim := { program := "ytmlgggcdjknlfaa", sum := "85a768ca717c89e6ca8a1c943cf85506cc87a8a6795313deab51ea1877dd36d2", func := "aviary/aviarylaw15.SessKnown", spec := "sessKnown", unfollowed := true, recurses := true, apart := false }
def SessKnownSaid : Prop := sessKnownRow.holds Try.pinned (OpenSpec.ofChange sessKnownSpec)

/-- ITS FALSE NEIGHBOUR: 'it returns false'. Refute it at one input. -/
def sessKnownWrong : ChangeSpec := { name := "sessKnown", fn := fun _ => fun
  | [] => { results := [.lit (.bool false)], args := [] }
  | _ => none }
def SessKnownWrongFalsely : Prop := sessKnownRow.holds Try.pinned (OpenSpec.ofChange sessKnownWrong)

/-- 'aviarylaw15.SessBack': WHATEVER THE INPUT: true; the input reads as it did. -/
def sessBackSpec : ChangeSpec := { name := "sessBack", fn := fun _ => fun
  | [d1, d2] => { results := [.lit (.bool true)], args := [d1, d2] }
  | _ => none }
def sessBackRow : OpenClaim := { program := "ytmlgggcdjknlfaa", sum := "85a768ca717c89e6ca8a1c943cf85506cc87a8a6795313deab51ea1877dd36d2", func := "aviary/aviarylaw15.SessBack", spec := "sessBack", unfollowed := true, recurses := true, apart := false }
def SessBackSaid : Prop := sessBackRow.holds Try.pinned (OpenSpec.ofChange sessBackSpec)

/-- ITS FALSE NEIGHBOUR: 'it returns false'. Refute it at one input. -/
def sessBackWrong : ChangeSpec := { name := "sessBack", fn := fun _ => fun
  | [d1, d2] => { results := [.lit (.bool false)], args := [d1, d2] }
  | _ => none }
def SessBackWrongFalsely : Prop := sessBackRow.holds Try.pinned (OpenSpec.ofChange sessBackWrong)

/-- 'aviarylaw15.SessPlays': WHATEVER THE INPUT: true; the input reads as it did. -/
def sessPlaysSpec : ChangeSpec := { name := "sessPlays", fn := fun _ => fun
  | [d1, d2] => { results := [.lit (.bool true)], args := [d1, d2] }
  | _ => none }
def sessPlaysRow : OpenClaim := { program := "ytmlgggcdjknlfaa", sum := "85a768ca717c89e6ca8a1c943cf85506cc87a8a6795313deab51ea1877dd36d2", func := "aviary/aviarylaw15.SessPlays", spec := "sessPlays", unfollowed := true, recurses := true, apart := false }
def SessPlaysSaid : Prop := sessPlaysRow.holds Try.pinned (OpenSpec.ofChange sessPlaysSpec)

/-- ITS FALSE NEIGHBOUR: 'it returns false'. Refute it at one input. -/
def sessPlaysWrong : ChangeSpec := { name := "sessPlays", fn := fun _ => fun
  | [d1, d2] => { results := [.lit (.bool false)], args := [d1, d2] }
  | _ => none }
def SessPlaysWrongFalsely : Prop := sessPlaysRow.holds Try.pinned (OpenSpec.ofChange sessPlaysWrong)

/- THE SECOND FORM. 'bulk': how many values and letters a reading holds, each counted each time it is reached (what is shared counts as often as it is met; a slice's spare places count too). A statement '..UptoSaid' is the law's where the arguments, and the package variables that the reading takes, are together of bulk at most 1048576: NARROWER than '..Said'. Prove '..Said' where nothing that the law and all that it calls make is longer than what came in: it says more and counts as full. Else prove '..UptoSaid'. A law counts once. -/
mutual
def uptoBulk {H : Type} : DataW H → Nat
  | .lit (.string bytes) => bytes.length + 1
  | .lit _ => 1
  | .nil => 1
  | .ptr d => uptoBulk d + 1
  | .slice elems spare => uptoBulkAll elems + uptoBulkAll spare + 1
  | .agg parts => uptoBulkAll parts + 1
  | .iface _ d => uptoBulk d + 1
  | .map entries => uptoBulkEntries entries + 1
  | .held _ => 1
def uptoBulkAll {H : Type} : List (DataW H) → Nat
  | [] => 0
  | d :: r => uptoBulk d + uptoBulkAll r
def uptoBulkEntries {H : Type} : List (Lit × DataW H) → Nat
  | [] => 0
  | x :: r => uptoBulkEntry x + uptoBulkEntries r
def uptoBulkEntry {H : Type} : Lit × DataW H → Nat
  | (.string bytes, d) => bytes.length + uptoBulk d + 1
  | (_, d) => uptoBulk d + 1
 end
def uptoSmall : (H : Type) → List (DataW H) → Bool := fun _ ds => decide (uptoBulkAll ds ≤ 1048576)
def OpenSpec.upto (s : _root_.Go.ChangeSpec) : _root_.Go.OpenSpec := { _root_.Go.OpenSpec.ofChange s with cond := some uptoSmall }

/-- 'aviarylaw15.SessLives', WHERE WHAT IT READS IS OF BULK AT MOST 1048576: true; the input reads as it did. -/
def sessLivesUptoRow : OpenClaim := { program := "ytmlgggcdjknlfaa", sum := "85a768ca717c89e6ca8a1c943cf85506cc87a8a6795313deab51ea1877dd36d2", func := "aviary/aviarylaw15.SessLives", spec := "sessLives", unfollowed := true, recurses := true, apart := false, narrowed := true }
def SessLivesUptoSaid : Prop := sessLivesUptoRow.holds Try.pinned (OpenSpec.upto sessLivesSpec)

/-- 'aviarylaw15.SessApart', WHERE WHAT IT READS IS OF BULK AT MOST 1048576: true; the input reads as it did. -/
def sessApartUptoRow : OpenClaim := { program := "ytmlgggcdjknlfaa", sum := "85a768ca717c89e6ca8a1c943cf85506cc87a8a6795313deab51ea1877dd36d2", func := "aviary/aviarylaw15.SessApart", spec := "sessApart", unfollowed := true, recurses := true, apart := false, narrowed := true }
def SessApartUptoSaid : Prop := sessApartUptoRow.holds Try.pinned (OpenSpec.upto sessApartSpec)

/-- 'aviarylaw15.SessNumbers', WHERE WHAT IT READS IS OF BULK AT MOST 1048576: true; the input reads as it did. -/
def sessNumbersUptoRow : OpenClaim := { program := "ytmlgggcdjknlfaa", sum := "85a768ca717c89e6ca8a1c943cf85506cc87a8a6795313deab51ea1877dd36d2", func := "aviary/aviarylaw15.SessNumbers", spec := "sessNumbers", unfollowed := true, recurses := true, apart := false, narrowed := true }
def SessNumbersUptoSaid : Prop := sessNumbersUptoRow.holds Try.pinned (OpenSpec.upto sessNumbersSpec)

/-- 'aviarylaw15.SessKnown', WHERE WHAT IT READS IS OF BULK AT MOST 1048576: true; the input reads as it did. -/
def sessKnownUptoRow : OpenClaim := { program := "ytmlgggcdjknlfaa", sum := "85a768ca717c89e6ca8a1c943cf85506cc87a8a6795313deab51ea1877dd36d2", func := "aviary/aviarylaw15.SessKnown", spec := "sessKnown", unfollowed := true, recurses := true, apart := false, narrowed := true }
def SessKnownUptoSaid : Prop := sessKnownUptoRow.holds Try.pinned (OpenSpec.upto sessKnownSpec)

/-- 'aviarylaw15.SessBack', WHERE WHAT IT READS IS OF BULK AT MOST 1048576: true; the input reads as it did. -/
def sessBackUptoRow : OpenClaim := { program := "ytmlgggcdjknlfaa", sum := "85a768ca717c89e6ca8a1c943cf85506cc87a8a6795313deab51ea1877dd36d2", func := "aviary/aviarylaw15.SessBack", spec := "sessBack", unfollowed := true, recurses := true, apart := false, narrowed := true }
def SessBackUptoSaid : Prop := sessBackUptoRow.holds Try.pinned (OpenSpec.upto sessBackSpec)

/-- 'aviarylaw15.SessPlays', WHERE WHAT IT READS IS OF BULK AT MOST 1048576: true; the input reads as it did. -/
def sessPlaysUptoRow : OpenClaim := { program := "ytmlgggcdjknlfaa", sum := "85a768ca717c89e6ca8a1c943cf85506cc87a8a6795313deab51ea1877dd36d2", func := "aviary/aviarylaw15.SessPlays", spec := "sessPlays", unfollowed := true, recurses := true, apart := false, narrowed := true }
def SessPlaysUptoSaid : Prop := sessPlaysUptoRow.holds Try.pinned (OpenSpec.upto sessPlaysSpec)

end Rows
end Go.Proofs.Ytmlgggcdjknlfaa
