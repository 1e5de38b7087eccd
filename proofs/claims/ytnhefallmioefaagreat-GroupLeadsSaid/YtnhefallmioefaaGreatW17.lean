/- What the law leans on. No condition. -/
import Derived.Test.YtnhefallmioefaaGreatW0
import Derived.Test.YtnhefallmioefaaGreatW15
set_option maxHeartbeats 8000000
set_option linter.unusedVariables false
set_option linter.unusedSimpArgs false
namespace Go.Proofs.YtnhefallmioefaaGreat
open Go.RowKit Go.ChangeMaps Go.WideMaps Go.Maps
set_option maxRecDepth 20000
section
variable {w w':World} {A A' X X':List Nat} {r d l:Nat} {s s':Rp} {k k':Dk}
theorem EG (h:Nd w A X r d l s k) (hw:Wf s k) (m:OM) (v u:Value) (hm:OU w A m v u) (hlen:2<=m.N.length) (hle:m.N.getD 0 0<=s.Ow) (UJ:m.N.getD 1 0<=4611686018427387904) (hB:m.B.length<=1000000) :
  Calls Tryz.prog 73 #[.pointer (some ⟨r,0,none⟩),en m v u] w λe w'=>PE w w' A X r d l e (eA s k m):=by
 by_cases hc:jJ s m=false/\¬m.N.getD 0 0<s.Ow/\fN { s with Ox:=0 } (m.N.getD 1 0) (m.N.getD 2 0)=true
 ·exact EC h hw m v u hm hlen hle UJ hB (af hc)
 ·exact Hm h hw m v u hm hlen hle UJ hB (af hc)
end
end Go.Proofs.YtnhefallmioefaaGreat
