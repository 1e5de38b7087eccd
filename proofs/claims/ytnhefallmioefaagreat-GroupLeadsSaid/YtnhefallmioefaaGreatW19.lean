/- What the law leans on. No condition. -/
import Derived.Test.YtnhefallmioefaaGreatW0
import Derived.Test.YtnhefallmioefaaGreatW18
set_option maxHeartbeats 8000000
set_option linter.unusedVariables false
set_option linter.unusedSimpArgs false
namespace Go.Proofs.YtnhefallmioefaaGreat
section
variable {w w':World} {A A' X X':List Nat} {r d l:Nat} {s s':Rp} {k k':Dk}
theorem Ie (h:Nd w A X r d l s k) (hw:Wf s k) (m:OM) (v u:Value) (hm:OU w A m v u) (UJ:m.N.getD 1 0<=4611686018427387904) (hB:m.B.length<=1000000) (hlm:m.N.length<=1000000000) :
  Calls Tryz.prog 40 #[.pointer (some ⟨r,0,none⟩),en m v u] w λe w'=>PE w w' A X r d l e (gJ s k m):=by
 cases hb:(eG s k||pD (bw s k) m) with
 | true =>
  have e:gJ s k m=([],bw s k,k):=by rw [zP,ay (by exact hb)]
  rw [e];exact Ic h m v u hm.z hb hw.n5 hlm
 | false =>
  rw [dw] at hb;exact Fd h hw m v u hm hb.1 hb.2 UJ hB hlm
end
end Go.Proofs.YtnhefallmioefaaGreat
