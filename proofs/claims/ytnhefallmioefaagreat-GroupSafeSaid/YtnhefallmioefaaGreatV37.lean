/-
  What the proof of the law leans on: contracts of the program's functions, one behind another. No condition.
-/
import Derived.Test.YtnhefallmioefaaGreatV0
import Derived.Test.YtnhefallmioefaaGreatV35
set_option linter.unusedVariables false
set_option linter.unusedSimpArgs false
namespace Go.Proofs.YtnhefallmioefaaGreat
open Go.RowKit Go.ChangeMaps Go.WideMaps Go.Maps
set_option maxRecDepth 20000
section
variable {w w':World} {A A' X X':List Nat} {r d l:Nat} {s s':Rp} {k k':Dk}
theorem zh (h:Nd w A X r d l s k) (hw:Wf s k) (m:Msg) (v u:Value) (hm:IsMsg w A m v u) (hlen:2<=m.N.length) (hle:m.N.getD 0 0<=s.term) (hN1m:m.N.getD 1 0<=4611686018427387904) (hB:m.B.length<=1000000) :
  Calls Tryz.prog 73 #[.pointer (some ⟨r,0,none⟩),df m v u] w λe w'=>MsP w w' A X r d l e (dH s k m):=by
 by_cases hc:gF s m=false/\¬m.N.getD 0 0<s.term/\ey { s with ticks:=0 } (m.N.getD 1 0) (m.N.getD 2 0)=true
 ·exact ze h hw m v u hm hlen hle hN1m hB (ab hc)
 ·exact Bj h hw m v u hm hlen hle hN1m hB (ab hc)
end
end Go.Proofs.YtnhefallmioefaaGreat
