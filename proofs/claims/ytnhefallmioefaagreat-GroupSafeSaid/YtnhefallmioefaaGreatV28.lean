/-
  What the proof of the law leans on: contracts of the program's functions, one behind another. No condition.
-/
import Derived.Test.YtnhefallmioefaaGreatV0
import Derived.Test.YtnhefallmioefaaGreatV7
set_option linter.unusedVariables false
set_option linter.unusedSimpArgs false
namespace Go.Proofs.YtnhefallmioefaaGreat.X
set_option maxRecDepth 20000
structure Ms (ρ:Type) where
 frm:Int
 dst:Int
 kind:Int
 N:List Int
 B:List ρ
structure Nd (ρ:Type) where
 own:Nat
 n:Nat
 term:Int
 choice:Int
 log:List (Int×ρ)
 agreed:Nat
 many:Nat
 leads:Bool
 votes:List Bool
 next:List Nat
 mat:List Nat
 ticks:Nat
 clock:Nat
 heard:List (Int×Int×Int)
 cnt:Nat
 bad:Bool
section
variable {ρ:Type} (z:ρ->Bool)
def bF (l:List (Int×ρ)) (n:Nat):Int:=match n with | 0=>0 | n+1=>match l[n]? with | some x=>x.1 | none=>0
def recs (l:List (Int×ρ)):List ρ:=(l.filter λx => !z x.2).map Prod.snd
def enter (s:Nd ρ) (t w:Int):Nd ρ:={ s with leads:=s.leads && !decide (s.term<t),term:=t,choice:=w,cnt:=s.cnt+1 }
def place (s:Nd ρ) (p:Nat) (x:Int×ρ):Nd ρ:={ s with log:=s.log.take p++[x],cnt:=s.cnt+1 }
def cZ (s:Nd ρ) (m:Nat):Bool:=decide (s.n<2*m)
def agree (s:Nd ρ) (m:Nat):Nd ρ:=if s.agreed<m then { s with agreed:=m,many:=s.many+(recs z ((s.log.take m).drop s.agreed)).length } else s
def yJ (s:Nd ρ):Nat:=((s.log.drop s.agreed).filter λx=>x.1==s.term && !z x.2).length
def say (s:Nd ρ) (dst kind:Int) (N:List Int):Ms ρ:=⟨(s.own:Int),dst,kind,N,[]⟩
def dz (s:Nd ρ) (f:Nat->Ms ρ):List (Ms ρ):=((List.range s.n).filter λi=>i != s.own).map f
def cO (s:Nd ρ) (dst:Nat):Ms ρ :=
 ⟨(s.own:Int),(dst:Int),3,[s.term,((s.next.getD dst 0:Nat):Int),bF s.log (s.next.getD dst 0),(s.agreed:Int)]++((s.log.drop (s.next.getD dst 0)).take 20).map Prod.fst,((s.log.drop (s.next.getD dst 0)).take 20).map Prod.snd⟩
def bp (s:Nd ρ) (kind:Int) (dst:Nat):Ms ρ:=say s dst kind [s.term,(s.log.length:Int),bF s.log s.log.length]
def settleF (s:Nd ρ):Nat->Option Nat
 | 0=>none
 | k+1=>if s.agreed<k+1/\bF s.log (k+1)=s.term then (if cZ s (eI s.mat (k+1)) then some (k+1) else settleF s k) else none
def settle (s:Nd ρ):Bool×Nd ρ :=
 match settleF { s with mat:=s.mat.set s.own s.log.length } s.log.length with
 | some k=>(true,agree z { s with mat:=s.mat.set s.own s.log.length } k)
 | none=>(false,{ s with mat:=s.mat.set s.own s.log.length })
def jf (s:Nd ρ):Bool:=cZ s (s.votes.filter id).length
def lead (e:ρ) (s:Nd ρ):List (Ms ρ)×Nd ρ :=
 let s2:=(settle z (place { s with leads:=true,next:=List.replicate s.n s.log.length,mat:=List.replicate s.n 0 } s.log.length (s.term,e))).2
 (dz s2 (cO s2),s2)
def stand (e:ρ) (s:Nd ρ):List (Ms ρ)×Nd ρ :=
 if 1099511627776<=s.term then ([],s) else
 let s1:={ enter s (s.term+1) (s.own:Int) with ticks:=0,votes:=(List.replicate s.n false).set s.own true }
 if jf s1 then lead z e s1 else (dz s1 (bp s1 1),s1)
def better (s:Nd ρ) (i:Nat) (x:Int×Int×Int):Bool :=
 !(x.1==0||decide (4<(s.clock:Int) - x.1)) &&
 (decide (bF s.log s.log.length<x.2.2)||(x.2.2==bF s.log s.log.length&&(decide ((s.log.length:Int)<x.2.1)||(x.2.1==(s.log.length:Int)&&decide (i<s.own)))))
def ud (s:Nd ρ):Bool:=(List.range s.heard.length).all λi => !better s i (s.heard.getD i (0,0,0))
def tick (e:ρ) (s0:Nd ρ):List (Ms ρ)×Nd ρ :=
 let s1:={ s0 with clock:=s0.clock+1 }
 if s1.leads then (dz s1 (cO s1),s1) else
 let s2:={ s1 with ticks:=s1.ticks+1 }
 if 8<=s2.ticks/\ud s2=true then stand z e s2
 else if 4<=s2.ticks then (dz s2 (bp s2 5),s2)
 else ([],s2)
def submit (s:Nd ρ) (rec:ρ):List (Ms ρ)×Bool×Nd ρ :=
 if !s.leads then ([],false,s) else if 200<=yJ z s\/2000<=s.many then ([],false,s) else
 let s2:=(settle z (place s s.log.length (s.term,rec))).2
 (dz s2 (cO s2),true,s2)
def asked (s:Nd ρ) (m:Ms ρ):List (Ms ρ)×Nd ρ :=
 if m.N.length=3 then
  let own:=bF s.log s.log.length
  let behind:=decide (own<m.N.getD 2 0)||(m.N.getD 2 0==own&&decide ((s.log.length:Int)<=m.N.getD 1 0))
  let yes:=(m.N.getD 0 0==s.term)&&behind&&(s.choice == -1||s.choice==m.frm)
  if yes then
   if s.choice == -1 then
    let s1:={ enter s s.term m.frm with ticks:=0 }
    ([say s1 m.frm 2 [s1.term,1]],s1)
   else
    let s1:={ s with ticks:=0 }
    ([say s1 m.frm 2 [s1.term,1]],s1)
  else ([say s m.frm 2 [s.term,0]],s)
 else ([],s)
def voted (e:ρ) (s:Nd ρ) (m:Ms ρ):List (Ms ρ)×Nd ρ :=
 if s.leads || !(m.N.getD 0 0==s.term) || !(s.choice==(s.own:Int)) || !(m.N.getD 1 0==1) then ([],s) else
 let s1:={ s with votes:=s.votes.set m.frm.toNat true }
 if jf s1 then lead z e s1 else ([],s1)
def zX (s:Nd ρ) (from_ term:Int):Bool:=decide (from_<=(s.log.length:Int))&&(bF s.log from_.toNat==term)
def bE (from_:Nat):List (Int×ρ)->Nat->Nd ρ->Bool×Nd ρ
 | [],_,s=>(true,s)
 | (t,rec)::l,i,s =>
  if from_+i<s.log.length/\bF s.log (from_+i+1)=t then bE from_ l (i+1) s
  else if t<1\/s.term<t\/from_+i<s.agreed then (false,s)
  else bE from_ l (i+1) (place s (from_+i) (t,rec))
def lays (s:Nd ρ) (m:Ms ρ):List (Ms ρ)×Nd ρ :=
 if !(m.N.length==4+m.B.length)||decide (m.N.getD 1 0<0)||(m.N.getD 0 0==s.term&&s.leads) then ([],s) else
 if m.N.getD 0 0<s.term then ([say s m.frm 4 [s.term,0,0]],s) else
 let s1:={ s with ticks:=0 }
 if zX s1 (m.N.getD 1 0) (m.N.getD 2 0) then
  let from_:=(m.N.getD 1 0).toNat
  let p:=bE from_ ((m.N.drop 4).zip m.B) 0 s1
  if p.1 then
   let s2:=agree z p.2 (min (m.N.getD 3 0) ((from_+m.B.length:Nat):Int)).toNat
   ([say s2 m.frm 4 [s2.term,1,((from_+m.B.length:Nat):Int)]],s2)
  else ([],{ p.2 with bad:=true })
 else ([say s1 m.frm 4 [s1.term,0,min (s1.log.length:Int) (max (m.N.getD 1 0 - 1) 0)]],s1)
def answered (s:Nd ρ) (m:Ms ρ):List (Ms ρ)×Nd ρ :=
 if !s.leads || !(m.N.getD 0 0==s.term) || !(m.N.length==3)||decide (m.N.getD 2 0<0)||decide ((s.log.length:Int)<m.N.getD 2 0) then ([],s) else
 let who:=m.frm.toNat
 let k:=(m.N.getD 2 0).toNat
 if m.N.getD 1 0=0 then
  if s.next.getD who 0<=k then ([],s) else
  let s1:={ s with next:=s.next.set who (max k (s.mat.getD who 0))}
  ([cO s1 who],s1)
 else if k<=s.mat.getD who 0 then ([],s) else
 let p:=settle z { s with mat:=s.mat.set who k,next:=s.next.set who (max k (s.next.getD who 0))}
 if p.1 then (dz p.2 (cO p.2),p.2)
 else if p.2.next.getD who 0<p.2.log.length then ([cO p.2 who],p.2)
 else ([],p.2)
def oE (s:Nd ρ) (m:Ms ρ):Bool := !(m.dst==(s.own:Int))||m.frm==(s.own:Int)||decide (m.frm<0)||decide ((s.n:Int)<=m.frm)||decide (m.N.length<2)||decide (m.N.getD 0 0<1)||decide (1099511627776<m.N.getD 0 0)
def getIn (e:ρ) (s:Nd ρ) (m:Ms ρ):List (Ms ρ)×Nd ρ :=
 if m.kind=1 then asked s m
 else if m.kind=2 then voted z e s m
 else if m.kind=3 then lays z s m
 else if m.kind=4 then answered z s m
 else if m.kind=5 then (if m.N.length=3 then ([],{ s with heard:=s.heard.set m.frm.toNat ((s.clock:Int),m.N.getD 1 0,m.N.getD 2 0)}) else ([],s))
 else ([],s)
def get (e:ρ) (s:Nd ρ) (m:Ms ρ):List (Ms ρ)×Nd ρ :=
 if oE s m then ([],s) else getIn z e (if s.term<m.N.getD 0 0 then enter s (m.N.getD 0 0) (-1) else s) m
def lm (s:Nd ρ):List ρ:=recs z (s.log.take s.agreed)
def new (own n:Nat):Nd ρ:=⟨own,n,0, -1,[],0,0,false,List.replicate n false,List.replicate n 0,List.replicate n 0,0,0,List.replicate n (0,0,0),0,false⟩
def back (s:Nd ρ):Nd ρ:={ (new s.own s.n:Nd ρ) with term:=s.term,choice:=s.choice,log:=s.log,cnt:=s.cnt,bad:=s.bad }
end
structure Mo {ρ:Type} (c c':Nd ρ):Prop where
 cnt:c.cnt<=c'.cnt
 bad:c'.bad=false->c.bad=false
 own:c'.own=c.own
 n:c'.n=c.n
section
variable {ρ:Type} {z:ρ->Bool} {e:ρ} {c:Nd ρ}
theorem Mo.refl (c:Nd ρ):Mo c c:=⟨ah _,id,rfl,rfl⟩
theorem Mo.trans {a b c:Nd ρ} (h:Mo a b) (g:Mo b c):Mo a c:=⟨aD h.cnt g.cnt,λx=>h.bad (g.bad x),g.own.trans h.own,g.n.trans h.n⟩
theorem y7 (t w:Int):Mo c (enter c t w):=⟨cf _,id,rfl,rfl⟩
theorem rp (p:Nat) (x:Int×ρ):Mo c (place c p x):=⟨cf _,id,rfl,rfl⟩
theorem rv (m:Nat):Mo c (agree z c m):=by
 unfold agree;split
 ·exact ⟨ah _,id,rfl,rfl⟩
 ·exact Mo.refl _
theorem lN:Mo c (settle z c).2:=by
 unfold settle;split
 ·exact Mo.trans (b:={ c with mat:=c.mat.set c.own c.log.length }) ⟨ah _,id,rfl,rfl⟩ (rv _)
 ·exact ⟨ah _,id,rfl,rfl⟩
theorem uF:Mo c (lead z e c).2:=by
 unfold lead;exact Mo.trans (b:=place { c with leads:=true,next:=List.replicate c.n c.log.length,mat:=List.replicate c.n 0 } c.log.length (c.term,e)) ⟨cf _,id,rfl,rfl⟩ lN
theorem yZ:Mo c (stand z e c).2:=by
 unfold stand;split
 ·exact Mo.refl _
 ·have h:Mo c { enter c (c.term+1) (c.own:Int) with ticks:=0,votes:=(List.replicate c.n false).set c.own true }:=⟨cf _,id,rfl,rfl⟩
  simp only;split
  ·exact h.trans uF
  ·exact h
theorem Be:Mo c (tick z e c).2:=by
 unfold tick;simp only;split
 ·exact ⟨ah _,id,rfl,rfl⟩
 ·split
  ·exact Mo.trans (b:={ c with clock:=c.clock+1,ticks:=c.ticks+1 }) ⟨ah _,id,rfl,rfl⟩ yZ
  ·split<;>exact ⟨ah _,id,rfl,rfl⟩
theorem wt (rec:ρ):Mo c (submit z c rec).2.2:=by
 unfold submit;split
 ·exact Mo.refl _
 ·split
  ·exact Mo.refl _
  ·exact (rp _ _).trans lN
theorem y8 (m:Ms ρ):Mo c (asked c m).2:=by
 unfold asked;split
 ·simp only;split
  ·split
   ·exact ⟨cf _,id,rfl,rfl⟩
   ·exact ⟨ah _,id,rfl,rfl⟩
  ·exact Mo.refl _
 ·exact Mo.refl _
theorem yY (m:Ms ρ):Mo c (voted z e c m).2:=by
 unfold voted;split
 ·exact Mo.refl _
 ·have h:Mo c { c with votes:=c.votes.set m.frm.toNat true }:=⟨ah _,id,rfl,rfl⟩
  simp only;split
  ·exact h.trans uF
  ·exact h
theorem y5 (f:Nat) (l:List (Int×ρ)):∀(i:Nat) (c:Nd ρ),Mo c (bE f l i c).2:=by
 induction l with
 | nil=>intro i c;exact Mo.refl _
 | cons a l ih =>
  intro i c;obtain ⟨t,rec⟩:=a;unfold bE;split
  ·exact ih _ _
  ·split
   ·exact Mo.refl _
   ·exact (rp _ _).trans (ih _ _)
theorem Bf (m:Ms ρ):Mo c (lays z c m).2:=by
 unfold lays;split
 ·exact Mo.refl _
 ·split
  ·exact Mo.refl _
  ·have h:Mo c { c with ticks:=0 }:=⟨ah _,id,rfl,rfl⟩
   simp only;split
   ·have h2:=y5 (m.N.getD 1 0).toNat ((m.N.drop 4).zip m.B) 0 { c with ticks:=0 };split
    ·exact (h.trans h2).trans (rv _)
    ·exact (h.trans h2).trans ⟨ah _,λx=>by simp at x,rfl,rfl⟩
   ·exact h
theorem ru (m:Ms ρ):Mo c (answered z c m).2:=by
 unfold answered;split
 ·exact Mo.refl _
 ·simp only;split
  ·split
   ·exact Mo.refl _
   ·exact ⟨ah _,id,rfl,rfl⟩
  ·split
   ·exact Mo.refl _
   ·have h:=lN (z:=z) (c:={ c with mat:=c.mat.set m.frm.toNat (m.N.getD 2 0).toNat,next:=c.next.set m.frm.toNat (max (m.N.getD 2 0).toNat (c.next.getD m.frm.toNat 0))});have h2:Mo c (settle z { c with mat:=c.mat.set m.frm.toNat (m.N.getD 2 0).toNat,next:=c.next.set m.frm.toNat (max (m.N.getD 2 0).toNat (c.next.getD m.frm.toNat 0))}).2:=Mo.trans (b:={ c with mat:=c.mat.set m.frm.toNat (m.N.getD 2 0).toNat,next:=c.next.set m.frm.toNat (max (m.N.getD 2 0).toNat (c.next.getD m.frm.toNat 0))}) ⟨ah _,id,rfl,rfl⟩ h;split
    ·exact h2
    ·split<;>exact h2
theorem rt (m:Ms ρ):Mo c (getIn z e c m).2:=by
 unfold getIn;split
 ·exact y8 m
 ·split
  ·exact yY m
  ·split
   ·exact Bf m
   ·split
    ·exact ru m
    ·split
     ·split
      ·exact ⟨ah _,id,rfl,rfl⟩
      ·exact Mo.refl _
     ·exact Mo.refl _
theorem Cu (m:Ms ρ):Mo c (get z e c m).2:=by
 unfold get;split
 ·exact Mo.refl _
 ·split
  ·exact (y7 _ _).trans (rt m)
  ·exact rt m
theorem Bg:Mo c (back c):=⟨ah _,id,rfl,rfl⟩
end
end Go.Proofs.YtnhefallmioefaaGreat.X
