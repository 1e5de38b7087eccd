/-
  What the proof of the law leans on: contracts of the program's functions, one behind another. No condition.
-/
import Derived.Test.YtnhefallmioefaaGreatV0
import Derived.Test.YtnhefallmioefaaGreatV38
set_option linter.unusedVariables false
set_option linter.unusedSimpArgs false
namespace Go.Proofs.YtnhefallmioefaaGreat
section
variable {w w':World} {A A' X X':List Nat} {r d l:Nat} {s s':Rp} {k k':Dk}
theorem BG (h:Nd w A X r d l s k) (hw:Wf s k) (m:Msg) (v u:Value) (hm:IsMsg w A m v u) (hN1m:m.N.getD 1 0<=4611686018427387904) (hB:m.B.length<=1000000) (hlm:m.N.length<=1000000000) :
  Calls Tryz.prog 40 #[.pointer (some ⟨r,0,none⟩),df m v u] w λe w'=>MsP w w' A X r d l e (fw s k m):=by
 cases hb:(dQ s k||l3 (aV s k) m) with
 | true =>
  have e:fw s k m=([],aV s k,k):=by rw [uO,aA (by exact hb)]
  rw [e];exact BF h m v u hm.z hb hw.n5 hlm
 | false =>
  rw [eL] at hb;exact zL h hw m v u hm hb.1 hb.2 hN1m hB hlm
end
end Go.Proofs.YtnhefallmioefaaGreat
