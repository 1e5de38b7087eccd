/-
  What the proof of the law leans on: contracts of the program's functions, one behind another. No condition.
-/
import Derived.Test.YtnhefallmioefaaGreatV0
import Derived.Test.YtnhefallmioefaaGreatV28
set_option linter.unusedVariables false
set_option linter.unusedSimpArgs false
namespace Go.Proofs.YtnhefallmioefaaGreat.X
set_option maxRecDepth 20000
structure Sg (ρ:Type) where
 nodes:List (Nd ρ)
 ups:List Bool
 q:List (Ms ρ)
 long:List ρ
section
variable {ρ:Type} (z:ρ->Bool) (e:ρ)
def Sg.at (S:Sg ρ) (i:Nat):Nd ρ:=S.nodes.getD i (new 0 1)
def Sg.upAt (S:Sg ρ) (i:Nat):Bool:=S.ups.getD i false
def Aq (q:List (Ms ρ)) (m:Ms ρ):List (Ms ρ):=if q.length<2000 then q++[m] else q
def uk:List (Nd ρ)->List Bool->List ρ->List ρ
 | s::l,u::us,lg=>uk l us (if u then (if lg.length<s.many then lm z s else lg) else lg)
 | _,_,lg=>lg
def Sg.turn (S:Sg ρ) (i:Nat) (r:List (Ms ρ)×Nd ρ):Sg ρ :=
 match S.nodes.set i r.2 with
 | ns=>⟨ns,S.ups,r.1.foldl Aq S.q,uk z ns S.ups S.long⟩
def Sg.tick (S:Sg ρ) (i:Nat):Sg ρ:=if S.upAt i then S.turn z i (X.tick z e (S.at i)) else S
def Sg.ticks (S:Sg ρ) (n:Nat):Sg ρ:=(List.range n).foldl (Sg.tick z e) S
def Sg.bring (S:Sg ρ) (m:Ms ρ):Sg ρ:=if S.upAt m.dst.toNat then S.turn z m.dst.toNat (X.get z e (S.at m.dst.toNat) m) else S
def Sg.drain:Nat->Sg ρ->Sg ρ
 | 0,S=>S
 | f+1,S=>match S.q with
  | []=>S
  | m::q=>Sg.drain f (Sg.bring z e { S with q:=q } m)
def Sg.calm (n:Nat):Nat->Sg ρ->Sg ρ
 | 0,S=>S
 | r+1,S=>Sg.calm n r (Sg.drain z e 3000 (Sg.ticks z e S n))
def Sg.subm (S:Sg ρ) (i:Nat) (x:ρ):Sg ρ:=if S.upAt i then S.turn z i ((X.submit z (S.at i) x).1,(X.submit z (S.at i) x).2.2) else S
def Sg.crash (S:Sg ρ) (i:Nat):Sg ρ:={ S with ups:=S.ups.set i false }
def Sg.back (S:Sg ρ) (i:Nat):Sg ρ:=if S.upAt i then S else { S with nodes:=S.nodes.set i (X.back (S.at i)),ups:=S.ups.set i true }
def Sg.begun (n:Nat):Sg ρ:=⟨(List.range n).map λi=>new i n,List.replicate n true,[],[]⟩
def pf:List (Nd ρ)->List Bool->Nat->Option Nat
 | s::l,u::us,i=>if u&&s.leads then some i else pf l us (i+1)
 | _,_,_=>none
def Sg.lead (S:Sg ρ):Option Nat:=pf S.nodes S.ups 0
def Sg.fine (S:Sg ρ):Bool:=S.nodes.all λs => !s.bad&&decide (s.cnt<=2500)
end
def zG (i:Nat):Bool:=i==0
def Sg.told (S:Sg Nat) (j:Nat):Bool:=S.ups.all id&&S.nodes.all λs=>lm zG s==(List.range j).map (· + 1)
def z6 (n j:Nat) (S:Sg Nat):Bool×Sg Nat :=
 match S.lead with
 | none=>(false,S)
 | some k=>match Sg.calm zG 0 n 10 (S.subm zG k (j+1)) with
  | S2=>match Sg.calm zG 0 n 60 (S2.crash k) with
   | S4=>match S4.lead with
    | none=>(false,S)
    | some m=>match Sg.calm zG 0 n 60 (S4.back k) with
     | S6=>((X.submit zG (S.at k) (j+1)).2.1&&(S2.upAt k&&(m != k&&(S6.fine&&S6.told (j+1)))),S6)
def oD (n:Nat):Nat->Bool×Sg Nat
 | 0=>match Sg.calm zG 0 n 60 (Sg.begun n) with | S=>(S.fine&&S.told 0,S)
 | j+1=>match oD n j with
  | (ok,S)=>match z6 n j S with
   | (ok2,S2)=>(ok&&ok2,S2)
def Dh:Bool :=
 match Sg.calm zG 0 3 60 (Sg.begun 3) with
 | S=>match S.lead with
  | none=>false
  | some k=>match Sg.calm zG 0 3 10 (S.subm zG k 1) with
   | S2=>(X.submit zG (S.at k) 1).2.1&&(S2.fine&&(S2.told 1&&S2.long==[1]))
theorem CS:Dh=true:=by decide +kernel
theorem Dx:(oD 3 6).1=true:=by decide +kernel
theorem Dw:(oD 4 6).1=true:=by decide +kernel
theorem Dv:(oD 5 6).1=true:=by decide +kernel
end Go.Proofs.YtnhefallmioefaaGreat.X
