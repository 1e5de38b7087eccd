/-
  No cell of these rows narrows 'for every input' (looked for: loops, veiled, ifaces, maps, wideKeys, modest, calm, conditions, laid).
  DERIVED. THE GIVEN ROWS OF THIS SEAT. 5 by the template 'for every input the law returns true; each argument reads behind the call as it read before'; 0 by the template 'total and deterministic' (their statements: YtnicaicjgaoolaaTotals.lean).
  GIVEN WITH THE SEED: the statements are not yours to turn. If you find one false, say at which input.
  Laid BY PROGRAM, IN A SANDBOX (cutbox-rows.mjs): the forced cells as the released guide's own fill.sh prints them over the translation 130c7388a682d0d4… (all of the seat's roots in one cut). By AI agents, Wed Nov 11 2026. No macro, syntax, notation, axiom, sorry.
-/
import Derived.Test.YtnicaicjgaoolaaChecked
import GoSem.Claim
import GoSem.ClaimJoined
import GoSem.ClaimMapViews
import Derived.JoinedTies
import Derived.KernelRfl
namespace Go.Proofs.Ytnicaicjgaoolaa
/- THE CELL 'sum', in the pinned program and in every row, IS THE sha256 OF THE DUMP (.gsa) THAT YtnicaicjgaoolaaProg.lean LOADS. Nothing in Lean hashes anything: it is a label: what it is worth is what the hold of that sum in a sandbox is worth. -/
noncomputable def Try.pinned : Pinned := { name := "ytnicaicjgaoolaa", sum := "130c7388a682d0d428a47453ed8c61faf9201be1d3b899bdd5e9438eff15a0fd", checked := Try.checked }
namespace Rows
def none {H : Type} : Left H := { results := [], args := [] }

/-- 'aviarylaw23.RepGrows': WHATEVER THE INPUT: true; the input reads as it did. -/
def repGrowsSpec : ChangeSpec := { name := "repGrows", fn := fun _ => fun
  | [d1, d2] => { results := [.lit (.bool true)], args := [d1, d2] }
  | _ => none }
def repGrowsRow : OpenClaim := { program := "ytnicaicjgaoolaa", sum := "130c7388a682d0d428a47453ed8c61faf9201be1d3b899bdd5e9438eff15a0fd", func := "aviary/aviarylaw23.RepGrows", spec := "repGrows", unfollowed := true, recurses := true, apart := false }
def RepGrowsSaid : Prop := repGrowsRow.holds Try.pinned (OpenSpec.ofChange repGrowsSpec)

/-- ITS FALSE NEIGHBOUR: 'it returns false'. Refute it at one input. -/
def repGrowsWrong : ChangeSpec := { name := "repGrows", fn := fun _ => fun
  | [d1, d2] => { results := [.lit (.bool false)], args := [d1, d2] }
  | _ => none }
def RepGrowsWrongFalsely : Prop := repGrowsRow.holds Try.pinned (OpenSpec.ofChange repGrowsWrong)

/-- 'aviarylaw23.RepLeads': WHATEVER THE INPUT: true; the input reads as it did. -/
def repLeadsSpec : ChangeSpec := { name := "repLeads", fn := fun _ => fun
  | [d1, d2, d3] => { results := [.lit (.bool true)], args := [d1, d2, d3] }
  | _ => none }
def repLeadsRow : OpenClaim := { program := "ytnicaicjgaoolaa", sum := "130c7388a682d0d428a47453ed8c61faf9201be1d3b899bdd5e9438eff15a0fd", func := "aviary/aviarylaw23.RepLeads", spec := "repLeads", unfollowed := true, recurses := true, apart := false }
def RepLeadsSaid : Prop := repLeadsRow.holds Try.pinned (OpenSpec.ofChange repLeadsSpec)

/-- ITS FALSE NEIGHBOUR: 'it returns false'. Refute it at one input. -/
def repLeadsWrong : ChangeSpec := { name := "repLeads", fn := fun _ => fun
  | [d1, d2, d3] => { results := [.lit (.bool false)], args := [d1, d2, d3] }
  | _ => none }
def RepLeadsWrongFalsely : Prop := repLeadsRow.holds Try.pinned (OpenSpec.ofChange repLeadsWrong)

/-- 'aviarylaw23.RepStays': WHATEVER THE INPUT: true; the input reads as it did. -/
def repStaysSpec : ChangeSpec := { name := "repStays", fn := fun _ => fun
  | [d1, d2, d3] => { results := [.lit (.bool true)], args := [d1, d2, d3] }
  | _ => none }
def repStaysRow : OpenClaim := { program := "ytnicaicjgaoolaa", sum := "130c7388a682d0d428a47453ed8c61faf9201be1d3b899bdd5e9438eff15a0fd", func := "aviary/aviarylaw23.RepStays", spec := "repStays", unfollowed := true, recurses := true, apart := false }
def RepStaysSaid : Prop := repStaysRow.holds Try.pinned (OpenSpec.ofChange repStaysSpec)

/-- ITS FALSE NEIGHBOUR: 'it returns false'. Refute it at one input. -/
def repStaysWrong : ChangeSpec := { name := "repStays", fn := fun _ => fun
  | [d1, d2, d3] => { results := [.lit (.bool false)], args := [d1, d2, d3] }
  | _ => none }
def RepStaysWrongFalsely : Prop := repStaysRow.holds Try.pinned (OpenSpec.ofChange repStaysWrong)

/-- 'aviarylaw23.RepStrange': WHATEVER THE INPUT: true; the input reads as it did. -/
def repStrangeSpec : ChangeSpec := { name := "repStrange", fn := fun _ => fun
  | [d1, d2] => { results := [.lit (.bool true)], args := [d1, d2] }
  | _ => none }
def repStrangeRow : OpenClaim := { program := "ytnicaicjgaoolaa", sum := "130c7388a682d0d428a47453ed8c61faf9201be1d3b899bdd5e9438eff15a0fd", func := "aviary/aviarylaw23.RepStrange", spec := "repStrange", unfollowed := true, recurses := true, apart := false }
def RepStrangeSaid : Prop := repStrangeRow.holds Try.pinned (OpenSpec.ofChange repStrangeSpec)

/-- ITS FALSE NEIGHBOUR: 'it returns false'. Refute it at one input. -/
def repStrangeWrong : ChangeSpec := { name := "repStrange", fn := fun _ => fun
  | [d1, d2] => { results := [.lit (.bool false)], args := [d1, d2] }
  | _ => none }
def RepStrangeWrongFalsely : Prop := repStrangeRow.holds Try.pinned (OpenSpec.ofChange repStrangeWrong)

/-- 'aviarylaw23.RepQuiet': WHATEVER THE INPUT: true; the input reads as it did. -/
def repQuietSpec : ChangeSpec := { name := "repQuiet", fn := fun _ => fun
  | [d1, d2] => { results := [.lit (.bool true)], args := [d1, d2] }
  | _ => none }
def repQuietRow : OpenClaim := { program := "ytnicaicjgaoolaa", sum := "130c7388a682d0d428a47453ed8c61faf9201be1d3b899bdd5e9438eff15a0fd", func := "aviary/aviarylaw23.RepQuiet", spec := "repQuiet", unfollowed := true, recurses := true, apart := false }
def RepQuietSaid : Prop := repQuietRow.holds Try.pinned (OpenSpec.ofChange repQuietSpec)

/-- ITS FALSE NEIGHBOUR: 'it returns false'. Refute it at one input. -/
def repQuietWrong : ChangeSpec := { name := "repQuiet", fn := fun _ => fun
  | [d1, d2] => { results := [.lit (.bool false)], args := [d1, d2] }
  | _ => none }
def RepQuietWrongFalsely : Prop := repQuietRow.holds Try.pinned (OpenSpec.ofChange repQuietWrong)

/- THE SECOND FORM. 'bulk': how many values and letters a reading holds, each counted each time it is reached (what is shared counts as often as it is met; a slice's spare places count too). A statement '..UptoSaid' is the law's where the arguments, and the package variables that the reading takes, are together of bulk at most 1048576: NARROWER than '..Said'. Prove '..Said' where nothing that the law and all that it calls make is longer than what came in: it says more and counts as full. Else prove '..UptoSaid'. A law counts once. -/
mutual
def uptoBulk {H : Type} : DataW H → Nat
  | .lit (.string bytes) => bytes.length + 1
  | .lit _ => 1
  | .nil => 1
  | .ptr d => uptoBulk d + 1
  | .slice elems spare => uptoBulkAll elems + uptoBulkAll spare + 1
  | .agg parts => uptoBulkAll parts + 1
  | .iface _ d => uptoBulk d + 1
  | .map entries => uptoBulkEntries entries + 1
  | .held _ => 1
def uptoBulkAll {H : Type} : List (DataW H) → Nat
  | [] => 0
  | d :: r => uptoBulk d + uptoBulkAll r
def uptoBulkEntries {H : Type} : List (Lit × DataW H) → Nat
  | [] => 0
  | x :: r => uptoBulkEntry x + uptoBulkEntries r
def uptoBulkEntry {H : Type} : Lit × DataW H → Nat
  | (.string bytes, d) => bytes.length + uptoBulk d + 1
  | (_, d) => uptoBulk d + 1
 end
def uptoSmall : (H : Type) → List (DataW H) → Bool := fun _ ds => decide (uptoBulkAll ds ≤ 1048576)
def OpenSpec.upto (s : _root_.Go.ChangeSpec) : _root_.Go.OpenSpec := { _root_.Go.OpenSpec.ofChange s with cond := some uptoSmall }

/-- 'aviarylaw23.RepGrows', WHERE WHAT IT READS IS OF BULK AT MOST 1048576: true; the input reads as it did. -/
def repGrowsUptoRow : OpenClaim := { program := "ytnicaicjgaoolaa", sum := "130c7388a682d0d428a47453ed8c61faf9201be1d3b899bdd5e9438eff15a0fd", func := "aviary/aviarylaw23.RepGrows", spec := "repGrows", unfollowed := true, recurses := true, apart := false, narrowed := true }
def RepGrowsUptoSaid : Prop := repGrowsUptoRow.holds Try.pinned (OpenSpec.upto repGrowsSpec)

/-- 'aviarylaw23.RepLeads', WHERE WHAT IT READS IS OF BULK AT MOST 1048576: true; the input reads as it did. -/
def repLeadsUptoRow : OpenClaim := { program := "ytnicaicjgaoolaa", sum := "130c7388a682d0d428a47453ed8c61faf9201be1d3b899bdd5e9438eff15a0fd", func := "aviary/aviarylaw23.RepLeads", spec := "repLeads", unfollowed := true, recurses := true, apart := false, narrowed := true }
def RepLeadsUptoSaid : Prop := repLeadsUptoRow.holds Try.pinned (OpenSpec.upto repLeadsSpec)

/-- 'aviarylaw23.RepStays', WHERE WHAT IT READS IS OF BULK AT MOST 1048576: true; the input reads as it did. -/
def repStaysUptoRow : OpenClaim := { program := "ytnicaicjgaoolaa", sum := "130c7388a682d0d428a47453ed8c61faf9201be1d3b899bdd5e9438eff15a0fd", func := "aviary/aviarylaw23.RepStays", spec := "repStays", unfollowed := true, recurses := true, apart := false, narrowed := true }
def RepStaysUptoSaid : Prop := repStaysUptoRow.holds Try.pinned (OpenSpec.upto repStaysSpec)

/-- 'aviarylaw23.RepStrange', WHERE WHAT IT READS IS OF BULK AT MOST 1048576: true; the input reads as it did. -/
def repStrangeUptoRow : OpenClaim := { program := "ytnicaicjgaoolaa", sum := "130c7388a682d0d428a47453ed8c61faf9201be1d3b899bdd5e9438eff15a0fd", func := "aviary/aviarylaw23.RepStrange", spec := "repStrange", unfollowed := true, recurses := true, apart := false, narrowed := true }
def RepStrangeUptoSaid : Prop := repStrangeUptoRow.holds Try.pinned (OpenSpec.upto repStrangeSpec)

/-- 'aviarylaw23.RepQuiet', WHERE WHAT IT READS IS OF BULK AT MOST 1048576: true; the input reads as it did. -/
def repQuietUptoRow : OpenClaim := { program := "ytnicaicjgaoolaa", sum := "130c7388a682d0d428a47453ed8c61faf9201be1d3b899bdd5e9438eff15a0fd", func := "aviary/aviarylaw23.RepQuiet", spec := "repQuiet", unfollowed := true, recurses := true, apart := false, narrowed := true }
def RepQuietUptoSaid : Prop := repQuietUptoRow.holds Try.pinned (OpenSpec.upto repQuietSpec)

end Rows
end Go.Proofs.Ytnicaicjgaoolaa
