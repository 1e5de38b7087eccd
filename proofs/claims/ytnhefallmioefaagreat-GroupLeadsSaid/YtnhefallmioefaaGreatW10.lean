/- What the law leans on. No condition. -/
import Derived.Test.YtnhefallmioefaaGreatW0
import Derived.Test.YtnhefallmioefaaGreatW1
import Derived.Test.YtnhefallmioefaaGreatW9
set_option maxHeartbeats 8000000
set_option linter.unusedVariables false
set_option linter.unusedSimpArgs false
namespace Go.Proofs.YtnhefallmioefaaGreat.X
set_option maxRecDepth 20000
structure Sg (ρ:Type) where
 nodes:List (Nd ρ)
 Vr:List Bool
 q:List (Ms ρ)
 long:List ρ
section
variable {ρ:Type} (z:ρ->Bool) (e:ρ)
def Sg.at (S:Sg ρ) (i:Nat):Nd ρ:=S.nodes.getD i (new 0 1)
def Sg.Qn (S:Sg ρ) (i:Nat):Bool:=S.Vr.getD i false
def FV (q:List (Ms ρ)) (m:Ms ρ):List (Ms ρ):=if q.length<2000 then q++[m] else q
def zd:List (Nd ρ)->List Bool->List ρ->List ρ
 | s::l,u::us,lg=>zd l us (if u then (if lg.length<s.many then oG z s else lg) else lg)
 | _,_,lg=>lg
def Sg.turn (S:Sg ρ) (i:Nat) (r:List (Ms ρ)×Nd ρ):Sg ρ :=
 match S.nodes.set i r.2 with
 | ns=>⟨ns,S.Vr,r.1.foldl FV S.q,zd z ns S.Vr S.long⟩
def Sg.tick (S:Sg ρ) (i:Nat):Sg ρ:=if S.Qn i then S.turn z i (X.tick z e (S.at i)) else S
def Sg.Ox (S:Sg ρ) (n:Nat):Sg ρ:=(List.range n).foldl (Sg.tick z e) S
def Sg.bring (S:Sg ρ) (m:Ms ρ):Sg ρ:=if S.Qn m.dst.toNat then S.turn z m.dst.toNat (X.get z e (S.at m.dst.toNat) m) else S
def Sg.drain:Nat->Sg ρ->Sg ρ
 | 0,S=>S
 | f+1,S=>match S.q with
  | []=>S
  | m::q=>Sg.drain f (Sg.bring z e { S with q:=q } m)
def Sg.calm (n:Nat):Nat->Sg ρ->Sg ρ
 | 0,S=>S
 | r+1,S=>Sg.calm n r (Sg.drain z e 3000 (Sg.Ox z e S n))
def Sg.PY (S:Sg ρ) (i:Nat) (x:ρ):Sg ρ:=if S.Qn i then S.turn z i ((X.OH z (S.at i) x).1,(X.OH z (S.at i) x).2.2) else S
def Sg.begun (n:Nat):Sg ρ:=⟨(List.range n).map λi=>new i n,List.replicate n true,[],[]⟩
def sR:List (Nd ρ)->List Bool->Nat->Option Nat
 | s::l,u::us,i=>if u&&s.Oy then some i else sR l us (i+1)
 | _,_,_=>none
def Sg.lead (S:Sg ρ):Option Nat:=sR S.nodes S.Vr 0
def Sg.fine (S:Sg ρ):Bool:=S.nodes.all λs => !s.bad&&decide (s.cnt<=2500)
end
def zG (i:Nat):Bool:=i==0
def Sg.told (S:Sg Nat) (j:Nat):Bool:=S.Vr.all id&&S.nodes.all λs=>oG zG s==(List.range j).map (· + 1)
def NG:Bool :=
 match Sg.calm zG 0 3 60 (Sg.begun 3) with
 | S=>match S.lead with
  | none=>false
  | some k=>match Sg.calm zG 0 3 10 (S.PY zG k 1) with
   | S2=>(X.OH zG (S.at k) 1).2.1&&(S2.fine&&(S2.told 1&&S2.long==[1]))
theorem Ly:NG=true:=KK
end Go.Proofs.YtnhefallmioefaaGreat.X
