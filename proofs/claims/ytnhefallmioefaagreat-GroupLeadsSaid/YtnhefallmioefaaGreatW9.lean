/- What the law leans on. No condition. -/
import Derived.Test.YtnhefallmioefaaGreatW0
import Derived.Test.YtnhefallmioefaaGreatW3
import Derived.Test.YtnhefallmioefaaGreatW1
set_option maxHeartbeats 8000000
set_option linter.unusedVariables false
set_option linter.unusedSimpArgs false
namespace Go.Proofs.YtnhefallmioefaaGreat.X
set_option maxRecDepth 20000
structure Ms (ρ:Type) where
 OD:Int
 dst:Int
 kind:Int
 N:List Int
 B:List ρ
structure Nd (ρ:Type) where
 own:Nat
 n:Nat
 Ow:Int
 OC:Int
 Oz:List (Int×ρ)
 agreed:Nat
 many:Nat
 Oy:Bool
 OB:List Bool
 next:List Nat
 OE:List Nat
 Ox:Nat
 OA:Nat
 heard:List (Int×Int×Int)
 cnt:Nat
 bad:Bool
section
variable {ρ:Type} (z:ρ->Bool)
def bC (l:List (Int×ρ)) (n:Nat):Int:=match n with | 0=>0 | n+1=>match l[n]? with | some x=>x.1 | none=>0
def recs (l:List (Int×ρ)):List ρ:=(l.filter λx => !z x.2).map Prod.snd
def enter (s:Nd ρ) (t w:Int):Nd ρ:={ s with Oy:=s.Oy && !decide (s.Ow<t),Ow:=t,OC:=w,cnt:=s.cnt+1 }
def place (s:Nd ρ) (p:Nat) (x:Int×ρ):Nd ρ:={ s with Oz:=s.Oz.take p++[x],cnt:=s.cnt+1 }
def dF (s:Nd ρ) (m:Nat):Bool:=decide (s.n<2*m)
def agree (s:Nd ρ) (m:Nat):Nd ρ:=if s.agreed<m then { s with agreed:=m,many:=s.many+(recs z ((s.Oz.take m).drop s.agreed)).length } else s
def vx (s:Nd ρ):Nat:=((s.Oz.drop s.agreed).filter λx=>x.1==s.Ow && !z x.2).length
def say (s:Nd ρ) (dst kind:Int) (N:List Int):Ms ρ:=⟨(s.own:Int),dst,kind,N,[]⟩
def cP (s:Nd ρ) (f:Nat->Ms ρ):List (Ms ρ):=((List.range s.n).filter λi=>i != s.own).map f
def bI (s:Nd ρ) (dst:Nat):Ms ρ :=
 ⟨(s.own:Int),(dst:Int),3,[s.Ow,((s.next.getD dst 0:Nat):Int),bC s.Oz (s.next.getD dst 0),(s.agreed:Int)]++((s.Oz.drop (s.next.getD dst 0)).take 20).map Prod.fst,((s.Oz.drop (s.next.getD dst 0)).take 20).map Prod.snd⟩
def br (s:Nd ρ) (kind:Int) (dst:Nat):Ms ρ:=say s dst kind [s.Ow,(s.Oz.length:Int),bC s.Oz s.Oz.length]
def OQ (s:Nd ρ):Nat->Option Nat
 | 0=>none
 | k+1=>if s.agreed<k+1/\bC s.Oz (k+1)=s.Ow then (if dF s (fI s.OE (k+1)) then some (k+1) else OQ s k) else none
def settle (s:Nd ρ):Bool×Nd ρ :=
 match OQ { s with OE:=s.OE.set s.own s.Oz.length } s.Oz.length with
 | some k=>(true,agree z { s with OE:=s.OE.set s.own s.Oz.length } k)
 | none=>(false,{ s with OE:=s.OE.set s.own s.Oz.length })
def jp (s:Nd ρ):Bool:=dF s (s.OB.filter id).length
def lead (e:ρ) (s:Nd ρ):List (Ms ρ)×Nd ρ :=
 let s2:=(settle z (place { s with Oy:=true,next:=List.replicate s.n s.Oz.length,OE:=List.replicate s.n 0 } s.Oz.length (s.Ow,e))).2
 (cP s2 (bI s2),s2)
def stand (e:ρ) (s:Nd ρ):List (Ms ρ)×Nd ρ :=
 if 1099511627776<=s.Ow then ([],s) else
 let s1:={ enter s (s.Ow+1) (s.own:Int) with Ox:=0,OB:=(List.replicate s.n false).set s.own true }
 if jp s1 then lead z e s1 else (cP s1 (br s1 1),s1)
def Qs (s:Nd ρ) (i:Nat) (x:Int×Int×Int):Bool :=
 !(x.1==0||decide (4<(s.OA:Int) - x.1)) &&
 (decide (bC s.Oz s.Oz.length<x.2.2)||(x.2.2==bC s.Oz s.Oz.length&&(decide ((s.Oz.length:Int)<x.2.1)||(x.2.1==(s.Oz.length:Int)&&decide (i<s.own)))))
def np (s:Nd ρ):Bool:=(List.range s.heard.length).all λi => !Qs s i (s.heard.getD i (0,0,0))
def tick (e:ρ) (s0:Nd ρ):List (Ms ρ)×Nd ρ :=
 let s1:={ s0 with OA:=s0.OA+1 }
 if s1.Oy then (cP s1 (bI s1),s1) else
 let s2:={ s1 with Ox:=s1.Ox+1 }
 if 8<=s2.Ox/\np s2=true then stand z e s2
 else if 4<=s2.Ox then (cP s2 (br s2 5),s2)
 else ([],s2)
def OH (s:Nd ρ) (rec:ρ):List (Ms ρ)×Bool×Nd ρ :=
 if !s.Oy then ([],false,s) else if 200<=vx z s\/2000<=s.many then ([],false,s) else
 let s2:=(settle z (place s s.Oz.length (s.Ow,rec))).2
 (cP s2 (bI s2),true,s2)
def asked (s:Nd ρ) (m:Ms ρ):List (Ms ρ)×Nd ρ :=
 if m.N.length=3 then
  let own:=bC s.Oz s.Oz.length
  let behind:=decide (own<m.N.getD 2 0)||(m.N.getD 2 0==own&&decide ((s.Oz.length:Int)<=m.N.getD 1 0))
  let yes:=(m.N.getD 0 0==s.Ow)&&behind&&(s.OC == -1||s.OC==m.OD)
  if yes then
   if s.OC == -1 then
    let s1:={ enter s s.Ow m.OD with Ox:=0 }
    ([say s1 m.OD 2 [s1.Ow,1]],s1)
   else
    let s1:={ s with Ox:=0 }
    ([say s1 m.OD 2 [s1.Ow,1]],s1)
  else ([say s m.OD 2 [s.Ow,0]],s)
 else ([],s)
def O4 (e:ρ) (s:Nd ρ) (m:Ms ρ):List (Ms ρ)×Nd ρ :=
 if s.Oy || !(m.N.getD 0 0==s.Ow) || !(s.OC==(s.own:Int)) || !(m.N.getD 1 0==1) then ([],s) else
 let s1:={ s with OB:=s.OB.set m.OD.toNat true }
 if jp s1 then lead z e s1 else ([],s1)
def nf (s:Nd ρ) (from_ Ow:Int):Bool:=decide (from_<=(s.Oz.length:Int))&&(bC s.Oz from_.toNat==Ow)
def bH (from_:Nat):List (Int×ρ)->Nat->Nd ρ->Bool×Nd ρ
 | [],_,s=>(true,s)
 | (t,rec)::l,i,s =>
  if from_+i<s.Oz.length/\bC s.Oz (from_+i+1)=t then bH from_ l (i+1) s
  else if t<1\/s.Ow<t\/from_+i<s.agreed then (false,s)
  else bH from_ l (i+1) (place s (from_+i) (t,rec))
def lays (s:Nd ρ) (m:Ms ρ):List (Ms ρ)×Nd ρ :=
 if !(m.N.length==4+m.B.length)||decide (m.N.getD 1 0<0)||(m.N.getD 0 0==s.Ow&&s.Oy) then ([],s) else
 if m.N.getD 0 0<s.Ow then ([say s m.OD 4 [s.Ow,0,0]],s) else
 let s1:={ s with Ox:=0 }
 if nf s1 (m.N.getD 1 0) (m.N.getD 2 0) then
  let from_:=(m.N.getD 1 0).toNat
  let p:=bH from_ ((m.N.drop 4).zip m.B) 0 s1
  if p.1 then
   let s2:=agree z p.2 (min (m.N.getD 3 0) ((from_+m.B.length:Nat):Int)).toNat
   ([say s2 m.OD 4 [s2.Ow,1,((from_+m.B.length:Nat):Int)]],s2)
  else ([],{ p.2 with bad:=true })
 else ([say s1 m.OD 4 [s1.Ow,0,min (s1.Oz.length:Int) (max (m.N.getD 1 0 - 1) 0)]],s1)
def answered (s:Nd ρ) (m:Ms ρ):List (Ms ρ)×Nd ρ :=
 if !s.Oy || !(m.N.getD 0 0==s.Ow) || !(m.N.length==3)||decide (m.N.getD 2 0<0)||decide ((s.Oz.length:Int)<m.N.getD 2 0) then ([],s) else
 let who:=m.OD.toNat
 let k:=(m.N.getD 2 0).toNat
 if m.N.getD 1 0=0 then
  if s.next.getD who 0<=k then ([],s) else
  let s1:={ s with next:=s.next.set who (max k (s.OE.getD who 0))}
  ([bI s1 who],s1)
 else if k<=s.OE.getD who 0 then ([],s) else
 let p:=settle z { s with OE:=s.OE.set who k,next:=s.next.set who (max k (s.next.getD who 0))}
 if p.1 then (cP p.2 (bI p.2),p.2)
 else if p.2.next.getD who 0<p.2.Oz.length then ([bI p.2 who],p.2)
 else ([],p.2)
def kQ (s:Nd ρ) (m:Ms ρ):Bool := !(m.dst==(s.own:Int))||m.OD==(s.own:Int)||decide (m.OD<0)||decide ((s.n:Int)<=m.OD)||decide (m.N.length<2)||decide (m.N.getD 0 0<1)||decide (1099511627776<m.N.getD 0 0)
def OJ (e:ρ) (s:Nd ρ) (m:Ms ρ):List (Ms ρ)×Nd ρ :=
 if m.kind=1 then asked s m
 else if m.kind=2 then O4 z e s m
 else if m.kind=3 then lays z s m
 else if m.kind=4 then answered z s m
 else if m.kind=5 then (if m.N.length=3 then ([],{ s with heard:=s.heard.set m.OD.toNat ((s.OA:Int),m.N.getD 1 0,m.N.getD 2 0)}) else ([],s))
 else ([],s)
def get (e:ρ) (s:Nd ρ) (m:Ms ρ):List (Ms ρ)×Nd ρ :=
 if kQ s m then ([],s) else OJ z e (if s.Ow<m.N.getD 0 0 then enter s (m.N.getD 0 0) (-1) else s) m
def oG (s:Nd ρ):List ρ:=recs z (s.Oz.take s.agreed)
def new (own n:Nat):Nd ρ:=⟨own,n,0, -1,[],0,0,false,List.replicate n false,List.replicate n 0,List.replicate n 0,0,0,List.replicate n (0,0,0),0,false⟩
def back (s:Nd ρ):Nd ρ:={ (new s.own s.n:Nd ρ) with Ow:=s.Ow,OC:=s.OC,Oz:=s.Oz,cnt:=s.cnt,bad:=s.bad }
end
structure Mo {ρ:Type} (c c':Nd ρ):Prop where
 cnt:c.cnt<=c'.cnt
 bad:c'.bad=false->c.bad=false
 own:c'.own=c.own
 n:c'.n=c.n
section
variable {ρ:Type} {z:ρ->Bool} {e:ρ} {c:Nd ρ}
theorem Mo.refl (c:Nd ρ):Mo c c:=⟨ah _,id,rfl,rfl⟩
theorem Mo.trans {a b c:Nd ρ} (h:Mo a b) (g:Mo b c):Mo a c:=⟨aF h.cnt g.cnt,λx=>h.bad (g.bad x),g.own.trans h.own,g.n.trans h.n⟩
theorem Eg (t w:Int):Mo c (enter c t w):=⟨cZ _,id,rfl,rfl⟩
theorem vJ (p:Nat) (x:Int×ρ):Mo c (place c p x):=⟨cZ _,id,rfl,rfl⟩
theorem vM (m:Nat):Mo c (agree z c m):=by
 unfold agree;split
 ·exact Bi
 ·exact Mo.refl _
theorem pi:Mo c (settle z c).2:=by
 unfold settle;split
 ·exact Mo.trans (b:={ c with OE:=c.OE.set c.own c.Oz.length }) ⟨ah _,id,rfl,rfl⟩ (vM _)
 ·exact Bi
theorem zD:Mo c (lead z e c).2:=by
 exact Mo.trans (b:=place { c with Oy:=true,next:=List.replicate c.n c.Oz.length,OE:=List.replicate c.n 0 } c.Oz.length (c.Ow,e)) ⟨cZ _,id,rfl,rfl⟩ pi
theorem Ed:Mo c (stand z e c).2:=by
 unfold stand;split
 ·exact Mo.refl _
 ·have h:Mo c { enter c (c.Ow+1) (c.own:Int) with Ox:=0,OB:=(List.replicate c.n false).set c.own true }:=⟨cZ _,id,rfl,rfl⟩
  simp only;split
  ·exact h.trans zD
  ·exact h
theorem zC:Mo c (tick z e c).2:=by
 unfold tick;simp only;split
 ·exact Bi
 ·split
  ·exact Mo.trans (b:={ c with OA:=c.OA+1,Ox:=c.Ox+1 }) ⟨ah _,id,rfl,rfl⟩ Ed
  ·split<;>exact ⟨ah _,id,rfl,rfl⟩
theorem Bk (rec:ρ):Mo c (OH z c rec).2.2:=by
 unfold OH;split
 ·exact Mo.refl _
 ·split
  ·exact Mo.refl _
  ·exact (vJ _ _).trans pi
theorem Eh (m:Ms ρ):Mo c (asked c m).2:=by
 unfold asked;split
 ·simp only;split
  ·split
   ·exact ⟨cZ _,id,rfl,rfl⟩
   ·exact Bi
  ·exact Mo.refl _
 ·exact Mo.refl _
theorem Ec (m:Ms ρ):Mo c (O4 z e c m).2:=by
 unfold O4;split
 ·exact Mo.refl _
 ·have h:Mo c { c with OB:=c.OB.set m.OD.toNat true }:=⟨ah _,id,rfl,rfl⟩
  simp only;split
  ·exact h.trans zD
  ·exact h
theorem Ee (f:Nat) (l:List (Int×ρ)):∀(i:Nat) (c:Nd ρ),Mo c (bH f l i c).2:=by
 induction l with
 | nil=>intro i c;exact Mo.refl _
 | cons a l ih =>
  intro i c;unfold bH;split
  ·exact ih _ _
  ·split
   ·exact Mo.refl _
   ·exact (vJ _ _).trans (ih _ _)
theorem GW (m:Ms ρ):Mo c (lays z c m).2:=by
 unfold lays;split
 ·exact Mo.refl _
 ·split
  ·exact Mo.refl _
  ·have h:Mo c { c with Ox:=0 }:=⟨ah _,id,rfl,rfl⟩
   simp only;split
   ·have h2:=Ee (m.N.getD 1 0).toNat ((m.N.drop 4).zip m.B) 0 { c with Ox:=0 };split
    ·exact (h.trans h2).trans (vM _)
    ·exact (h.trans h2).trans ⟨ah _,λx=>by simp at x,rfl,rfl⟩
   ·exact h
theorem vL (m:Ms ρ):Mo c (answered z c m).2:=by
 unfold answered;split
 ·exact Mo.refl _
 ·simp only;split
  ·split
   ·exact Mo.refl _
   ·exact Bi
  ·split
   ·exact Mo.refl _
   ·have h:=pi (z:=z) (c:={ c with OE:=c.OE.set m.OD.toNat (m.N.getD 2 0).toNat,next:=c.next.set m.OD.toNat (max (m.N.getD 2 0).toNat (c.next.getD m.OD.toNat 0))});have h2:Mo c (settle z { c with OE:=c.OE.set m.OD.toNat (m.N.getD 2 0).toNat,next:=c.next.set m.OD.toNat (max (m.N.getD 2 0).toNat (c.next.getD m.OD.toNat 0))}).2:=Mo.trans (b:={ c with OE:=c.OE.set m.OD.toNat (m.N.getD 2 0).toNat,next:=c.next.set m.OD.toNat (max (m.N.getD 2 0).toNat (c.next.getD m.OD.toNat 0))}) ⟨ah _,id,rfl,rfl⟩ h;split
    ·exact h2
    ·split<;>exact h2
theorem vK (m:Ms ρ):Mo c (OJ z e c m).2:=by
 unfold OJ;split
 ·exact Eh m
 ·split
  ·exact Ec m
  ·split
   ·exact GW m
   ·split
    ·exact vL m
    ·split
     ·split
      ·exact Bi
      ·exact Mo.refl _
     ·exact Mo.refl _
theorem Ef (m:Ms ρ):Mo c (get z e c m).2:=by
 unfold get;split
 ·exact Mo.refl _
 ·split
  ·exact (Eg _ _).trans (vK m)
  ·exact vK m
end
end Go.Proofs.YtnhefallmioefaaGreat.X
