/-
  No cell of these rows narrows 'for every input' (looked for: loops, veiled, ifaces, maps, wideKeys, modest, calm, conditions, laid).
  DERIVED. THE GIVEN ROWS OF THIS SEAT. 7 by the template 'for every input the law returns true; each argument reads behind the call as it read before'; 0 by the template 'total and deterministic' (their statements: YtpikdeikcmdcmaaTotals.lean).
  GIVEN WITH THE SEED: the statements are not yours to turn. If you find one false, say at which input.
  Laid BY PROGRAM, IN A SANDBOX (cutbox-rows.mjs): the forced cells as the released guide's own fill.sh prints them over the translation b1059ad12566c9c9… (all of the seat's roots in one cut). By AI agents, Wed Nov 11 2026. No macro, syntax, notation, axiom, sorry.
-/
import Derived.Test.YtpikdeikcmdcmaaChecked
import GoSem.Claim
import GoSem.ClaimJoined
import GoSem.ClaimMapViews
import Derived.JoinedTies
import Derived.KernelRfl
namespace Go.Proofs.Ytpikdeikcmdcmaa
/- THE CELL 'sum', in the pinned program and in every row, IS THE sha256 OF THE DUMP (.gsa) THAT YtpikdeikcmdcmaaProg.lean LOADS. Nothing in Lean hashes anything: it is a label: what it is worth is what the hold of that sum in a sandbox is worth. -/
noncomputable def Try.pinned : Pinned := { name := "ytpikdeikcmdcmaa", sum := "b1059ad12566c9c9dbb327a401189e5b0c895be70edea31da22663f78a47aae2", checked := Try.checked }
namespace Rows
def none {H : Type} : Left H := { results := [], args := [] }

/-- 'aviarylaw6.ReplyKnown': WHATEVER THE INPUT: true; the input reads as it did. -/
def replyKnownSpec : ChangeSpec := { name := "replyKnown", fn := fun _ => fun
  | [] => { results := [.lit (.bool true)], args := [] }
  | _ => none }
def replyKnownRow : OpenClaim := { program := "ytpikdeikcmdcmaa", sum := "b1059ad12566c9c9dbb327a401189e5b0c895be70edea31da22663f78a47aae2", func := "aviary/aviarylaw6.ReplyKnown", spec := "replyKnown", unfollowed := true, recurses := true, apart := false }
def ReplyKnownSaid : Prop := replyKnownRow.holds Try.pinned (OpenSpec.ofChange replyKnownSpec)

/-- ITS FALSE NEIGHBOUR: 'it returns false'. Refute it at one input. -/
def replyKnownWrong : ChangeSpec := { name := "replyKnown", fn := fun _ => fun
  | [] => { results := [.lit (.bool false)], args := [] }
  | _ => none }
def ReplyKnownWrongFalsely : Prop := replyKnownRow.holds Try.pinned (OpenSpec.ofChange replyKnownWrong)

/-- 'aviarylaw6.ReplySays': WHATEVER THE INPUT: true; the input reads as it did. -/
def replySaysSpec : ChangeSpec := { name := "replySays", fn := fun _ => fun
  | [d1, d2, d3, d4, d5] => { results := [.lit (.bool true)], args := [d1, d2, d3, d4, d5] }
  | _ => none }
def replySaysRow : OpenClaim := { program := "ytpikdeikcmdcmaa", sum := "b1059ad12566c9c9dbb327a401189e5b0c895be70edea31da22663f78a47aae2", func := "aviary/aviarylaw6.ReplySays", spec := "replySays", unfollowed := true, recurses := true, apart := false }
def ReplySaysSaid : Prop := replySaysRow.holds Try.pinned (OpenSpec.ofChange replySaysSpec)

/-- ITS FALSE NEIGHBOUR: 'it returns false'. Refute it at one input. -/
def replySaysWrong : ChangeSpec := { name := "replySays", fn := fun _ => fun
  | [d1, d2, d3, d4, d5] => { results := [.lit (.bool false)], args := [d1, d2, d3, d4, d5] }
  | _ => none }
def ReplySaysWrongFalsely : Prop := replySaysRow.holds Try.pinned (OpenSpec.ofChange replySaysWrong)

/-- 'aviarylaw6.ReplyReads': WHATEVER THE INPUT: true; the input reads as it did. -/
def replyReadsSpec : ChangeSpec := { name := "replyReads", fn := fun _ => fun
  | [d] => { results := [.lit (.bool true)], args := [d] }
  | _ => none }
def replyReadsRow : OpenClaim := { program := "ytpikdeikcmdcmaa", sum := "b1059ad12566c9c9dbb327a401189e5b0c895be70edea31da22663f78a47aae2", func := "aviary/aviarylaw6.ReplyReads", spec := "replyReads", unfollowed := true, recurses := true, apart := false }
def ReplyReadsSaid : Prop := replyReadsRow.holds Try.pinned (OpenSpec.ofChange replyReadsSpec)

/-- ITS FALSE NEIGHBOUR: 'it returns false'. Refute it at one input. -/
def replyReadsWrong : ChangeSpec := { name := "replyReads", fn := fun _ => fun
  | [d] => { results := [.lit (.bool false)], args := [d] }
  | _ => none }
def ReplyReadsWrongFalsely : Prop := replyReadsRow.holds Try.pinned (OpenSpec.ofChange replyReadsWrong)

/-- 'aviarylaw6.ReplyBack': WHATEVER THE INPUT: true; the input reads as it did. -/
def replyBackSpec : ChangeSpec := { name := "replyBack", fn := fun _ => fun
  | [d1, d2] => { results := [.lit (.bool true)], args := [d1, d2] }
  | _ => none }
def replyBackRow : OpenClaim := { program := "ytpikdeikcmdcmaa", sum := "b1059ad12566c9c9dbb327a401189e5b0c895be70edea31da22663f78a47aae2", func := "aviary/aviarylaw6.ReplyBack", spec := "replyBack", unfollowed := true, recurses := true, apart := false }
def ReplyBackSaid : Prop := replyBackRow.holds Try.pinned (OpenSpec.ofChange replyBackSpec)

/-- ITS FALSE NEIGHBOUR: 'it returns false'. Refute it at one input. -/
def replyBackWrong : ChangeSpec := { name := "replyBack", fn := fun _ => fun
  | [d1, d2] => { results := [.lit (.bool false)], args := [d1, d2] }
  | _ => none }
def ReplyBackWrongFalsely : Prop := replyBackRow.holds Try.pinned (OpenSpec.ofChange replyBackWrong)

/-- 'aviarylaw6.ReplyFails': WHATEVER THE INPUT: true; the input reads as it did. -/
def replyFailsSpec : ChangeSpec := { name := "replyFails", fn := fun _ => fun
  | [d1, d2, d3, d4] => { results := [.lit (.bool true)], args := [d1, d2, d3, d4] }
  | _ => none }
def replyFailsRow : OpenClaim := { program := "ytpikdeikcmdcmaa", sum := "b1059ad12566c9c9dbb327a401189e5b0c895be70edea31da22663f78a47aae2", func := "aviary/aviarylaw6.ReplyFails", spec := "replyFails", unfollowed := true, recurses := true, apart := false }
def ReplyFailsSaid : Prop := replyFailsRow.holds Try.pinned (OpenSpec.ofChange replyFailsSpec)

/-- ITS FALSE NEIGHBOUR: 'it returns false'. Refute it at one input. -/
def replyFailsWrong : ChangeSpec := { name := "replyFails", fn := fun _ => fun
  | [d1, d2, d3, d4] => { results := [.lit (.bool false)], args := [d1, d2, d3, d4] }
  | _ => none }
def ReplyFailsWrongFalsely : Prop := replyFailsRow.holds Try.pinned (OpenSpec.ofChange replyFailsWrong)

/-- 'aviarylaw6.ReplyCut': WHATEVER THE INPUT: true; the input reads as it did. -/
def replyCutSpec : ChangeSpec := { name := "replyCut", fn := fun _ => fun
  | [d1, d2] => { results := [.lit (.bool true)], args := [d1, d2] }
  | _ => none }
def replyCutRow : OpenClaim := { program := "ytpikdeikcmdcmaa", sum := "b1059ad12566c9c9dbb327a401189e5b0c895be70edea31da22663f78a47aae2", func := "aviary/aviarylaw6.ReplyCut", spec := "replyCut", unfollowed := true, recurses := true, apart := false }
def ReplyCutSaid : Prop := replyCutRow.holds Try.pinned (OpenSpec.ofChange replyCutSpec)

/-- ITS FALSE NEIGHBOUR: 'it returns false'. Refute it at one input. -/
def replyCutWrong : ChangeSpec := { name := "replyCut", fn := fun _ => fun
  | [d1, d2] => { results := [.lit (.bool false)], args := [d1, d2] }
  | _ => none }
def ReplyCutWrongFalsely : Prop := replyCutRow.holds Try.pinned (OpenSpec.ofChange replyCutWrong)

/-- 'aviarylaw6.ReplyAlike': WHATEVER THE INPUT: true; the input reads as it did. -/
def replyAlikeSpec : ChangeSpec := { name := "replyAlike", fn := fun _ => fun
  | [d1, d2, d3] => { results := [.lit (.bool true)], args := [d1, d2, d3] }
  | _ => none }
def replyAlikeRow : OpenClaim := { program := "ytpikdeikcmdcmaa", sum := "b1059ad12566c9c9dbb327a401189e5b0c895be70edea31da22663f78a47aae2", func := "aviary/aviarylaw6.ReplyAlike", spec := "replyAlike", unfollowed := true, recurses := true, apart := false }
def ReplyAlikeSaid : Prop := replyAlikeRow.holds Try.pinned (OpenSpec.ofChange replyAlikeSpec)

/-- ITS FALSE NEIGHBOUR: 'it returns false'. Refute it at one input. -/
def replyAlikeWrong : ChangeSpec := { name := "replyAlike", fn := fun _ => fun
  | [d1, d2, d3] => { results := [.lit (.bool false)], args := [d1, d2, d3] }
  | _ => none }
def ReplyAlikeWrongFalsely : Prop := replyAlikeRow.holds Try.pinned (OpenSpec.ofChange replyAlikeWrong)

/- THE SECOND FORM. 'bulk': how many values and letters a reading holds, each counted each time it is reached (what is shared counts as often as it is met; a slice's spare places count too). A statement '..UptoSaid' is the law's where the arguments, and the package variables that the reading takes, are together of bulk at most 1048576: NARROWER than '..Said'. Prove '..Said' where nothing that the law and all that it calls make is longer than what came in: it says more and counts as full. Else prove '..UptoSaid'. A law counts once. -/
mutual
def uptoBulk {H : Type} : DataW H → Nat
  | .lit (.string bytes) => bytes.length + 1
  | .lit _ => 1
  | .nil => 1
  | .ptr d => uptoBulk d + 1
  | .slice elems spare => uptoBulkAll elems + uptoBulkAll spare + 1
  | .agg parts => uptoBulkAll parts + 1
  | .iface _ d => uptoBulk d + 1
  | .map entries => uptoBulkEntries entries + 1
  | .held _ => 1
def uptoBulkAll {H : Type} : List (DataW H) → Nat
  | [] => 0
  | d :: r => uptoBulk d + uptoBulkAll r
def uptoBulkEntries {H : Type} : List (Lit × DataW H) → Nat
  | [] => 0
  | x :: r => uptoBulkEntry x + uptoBulkEntries r
def uptoBulkEntry {H : Type} : Lit × DataW H → Nat
  | (.string bytes, d) => bytes.length + uptoBulk d + 1
  | (_, d) => uptoBulk d + 1
 end
def uptoSmall : (H : Type) → List (DataW H) → Bool := fun _ ds => decide (uptoBulkAll ds ≤ 1048576)
def OpenSpec.upto (s : _root_.Go.ChangeSpec) : _root_.Go.OpenSpec := { _root_.Go.OpenSpec.ofChange s with cond := some uptoSmall }

/-- 'aviarylaw6.ReplyKnown', WHERE WHAT IT READS IS OF BULK AT MOST 1048576: true; the input reads as it did. -/
def replyKnownUptoRow : OpenClaim := { program := "ytpikdeikcmdcmaa", sum := "b1059ad12566c9c9dbb327a401189e5b0c895be70edea31da22663f78a47aae2", func := "aviary/aviarylaw6.ReplyKnown", spec := "replyKnown", unfollowed := true, recurses := true, apart := false, narrowed := true }
def ReplyKnownUptoSaid : Prop := replyKnownUptoRow.holds Try.pinned (OpenSpec.upto replyKnownSpec)

/-- 'aviarylaw6.ReplySays', WHERE WHAT IT READS IS OF BULK AT MOST 1048576: true; the input reads as it did. -/
def replySaysUptoRow : OpenClaim := { program := "ytpikdeikcmdcmaa", sum := "b1059ad12566c9c9dbb327a401189e5b0c895be70edea31da22663f78a47aae2", func := "aviary/aviarylaw6.ReplySays", spec := "replySays", unfollowed := true, recurses := true, apart := false, narrowed := true }
def ReplySaysUptoSaid : Prop := replySaysUptoRow.holds Try.pinned (OpenSpec.upto replySaysSpec)

/-- 'aviarylaw6.ReplyReads', WHERE WHAT IT READS IS OF BULK AT MOST 1048576: true; the input reads as it did. -/
def replyReadsUptoRow : OpenClaim := { program := "ytpikdeikcmdcmaa", sum := "b1059ad12566c9c9dbb327a401189e5b0c895be70edea31da22663f78a47aae2", func := "aviary/aviarylaw6.ReplyReads", spec := "replyReads", unfollowed := true, recurses := true, apart := false, narrowed := true }
def ReplyReadsUptoSaid : Prop := replyReadsUptoRow.holds Try.pinned (OpenSpec.upto replyReadsSpec)

/-- 'aviarylaw6.ReplyBack', WHERE WHAT IT READS IS OF BULK AT MOST 1048576: true; the input reads as it did. -/
def replyBackUptoRow : OpenClaim := { program := "ytpikdeikcmdcmaa", sum := "b1059ad12566c9c9dbb327a401189e5b0c895be70edea31da22663f78a47aae2", func := "aviary/aviarylaw6.ReplyBack", spec := "replyBack", unfollowed := true, recurses := true, apart := false, narrowed := true }
def ReplyBackUptoSaid : Prop := replyBackUptoRow.holds Try.pinned (OpenSpec.upto replyBackSpec)

/-- 'aviarylaw6.ReplyFails', WHERE WHAT IT READS IS OF BULK AT MOST 1048576: true; the input reads as it did. -/
def replyFailsUptoRow : OpenClaim := { program := "ytpikdeikcmdcmaa", sum := "b1059ad12566c9c9dbb327a401189e5b0c895be70edea31da22663f78a47aae2", func := "aviary/aviarylaw6.ReplyFails", spec := "replyFails", unfollowed := true, recurses := true, apart := false, narrowed := true }
def ReplyFailsUptoSaid : Prop := replyFailsUptoRow.holds Try.pinned (OpenSpec.upto replyFailsSpec)

/-- 'aviarylaw6.ReplyCut', WHERE WHAT IT READS IS OF BULK AT MOST 1048576: true; the input reads as it did. -/
def replyCutUptoRow : OpenClaim := { program := "ytpikdeikcmdcmaa", sum := "b1059ad12566c9c9dbb327a401189e5b0c895be70edea31da22663f78a47aae2", func := "aviary/aviarylaw6.ReplyCut", spec := "replyCut", unfollowed := true, recurses := true, apart := false, narrowed := true }
def ReplyCutUptoSaid : Prop := replyCutUptoRow.holds Try.pinned (OpenSpec.upto replyCutSpec)

/-- 'aviarylaw6.ReplyAlike', WHERE WHAT IT READS IS OF BULK AT MOST 1048576: true; the input reads as it did. -/
def replyAlikeUptoRow : OpenClaim := { program := "ytpikdeikcmdcmaa", sum := "b1059ad12566c9c9dbb327a401189e5b0c895be70edea31da22663f78a47aae2", func := "aviary/aviarylaw6.ReplyAlike", spec := "replyAlike", unfollowed := true, recurses := true, apart := false, narrowed := true }
def ReplyAlikeUptoSaid : Prop := replyAlikeUptoRow.holds Try.pinned (OpenSpec.upto replyAlikeSpec)

end Rows
end Go.Proofs.Ytpikdeikcmdcmaa
