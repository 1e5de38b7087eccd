/-
  What the proof of the law leans on: contracts of the program's functions, one behind another. No condition.
-/
import Derived.Test.YtnicaicjgaoolaaT1
import Derived.Test.YtnicaicjgaoolaaT8
import Derived.Test.YtnicaicjgaoolaaT18
set_option linter.unusedVariables false
set_option linter.unusedSimpArgs false
namespace Go.Proofs.Ytnicaicjgaoolaa
open Go.ChangeShapes Go.WideShapes Go.ChangeAt Go.RowKit
section
variable {H:Type} {enc:TypeId×Value→H} {P:Program}
/-- a slice of slices of bytes that reads as ls; none longer than its room -/
structure IsBC (w:World) (ao:Option Addr) (n:Nat) (ls:List (List UInt8)):Prop where
 len:ls.length=n
 at_:n=0∨∃b off,ao=some ⟨b,off,none⟩∧∀i,i<n→∃a m c,w.cell? ⟨b,off+i,none⟩=some (.slice a m c)∧IsB w a m c (ls.getD i [])∧m≤140737488351232∧m≤c
/-- a slice of slices of bytes that came in -/
theorem open_bc {W:World} {t e u:TypeId} {v:Value} {d:DataW H} {ps:List MemPlace} (ht:P.underlying t=some (.slice e)) (he:P.underlying e=some (.slice u)) (hu:P.underlying u=some (.int .u8)) (hce:P.cellsOf e=1) (hcu:P.cellsOf u=1)
  (hbe:P.bytesOf e=24) (hbu:P.bytesOf u=1) (hv:∃a n c,v = .slice a n c) (h:DataW.Trod enc P W 0 (fun _=>true) true t v d ps) (hsz:(DataW.weights P t d).all (· ≤ reachBytes)=true) :
  ∃ao n c ls,v = .slice ao n c∧IsBC W ao n ls∧n≤c∧c*24≤140737488351232:=by
 obtain ⟨a,n,c,rfl⟩:=hv
 obtain ⟨fuel,hf⟩:=h
 rcases Deep.open_slice1 ht hce hf with ⟨hcs,hx⟩ | ⟨ad,n',c',m,k,V,D,Pl,hcs,_,hle,_,hm,hx,hcell⟩
 ·simp [Value.cells] at hcs
  obtain ⟨rfl,rfl,rfl⟩:=hcs
  exact ⟨_,_,_,[],rfl,⟨rfl,.inl rfl⟩,Nat.le_refl _,by omega⟩
 ·simp [Value.cells] at hcs
  obtain ⟨rfl,rfl,rfl⟩:=hcs
  obtain rfl:m=c:=by simpa using hm
  obtain ⟨rfl,rfl⟩:=Prod.mk.inj hx
  simp only [DataW.weights,ht,List.all_cons,List.all_append,Bool.and_eq_true,List.length_map,List.length_range,hbe,reachBytes] at hsz
  obtain ⟨hs1',hs2,hs3⟩:=hsz
  have hs1:=of_decide_eq_true hs1'
  have hw:∀i,i<n→(DataW.weights P e (D i)).all (· ≤ reachBytes)=true:=by
   intro i hi
   refine List.all_eq_true.2 fun x hx=>?_
   refine List.all_eq_true.1 hs2 x ?_
   have hall:∀(l:List (DataW H)) (d:DataW H),d∈l→x∈DataW.weights P e d→x∈DataW.weightsAll P e l:=by
    intro l
    induction l with
    | nil=>intro d hd;cases hd
    | cons y l ih =>
     intro d hd hxd
     simp only [DataW.weightsAll,List.mem_append]
     rcases List.mem_cons.1 hd with rfl | hd
     ·exact .inl hxd
     ·exact .inr (ih d hd hxd)
   exact hall _ (D i) (List.mem_map.2 ⟨i,List.mem_range.2 hi,rfl⟩) hx
  have hex:∀i,i<n→∃l:List UInt8,∃a m c,W.cell? (ad.add i)=some (.slice a m c)∧IsB W a m c l∧m≤140737488351232∧m≤c:=by
   intro i hi
   obtain ⟨h1,h2⟩:=hcell i (by omega)
   obtain ⟨ao,q,c,l,h3,h4,h5,h6⟩:=open_bytes_cells he hu hcu hbu h2 (hw i hi)
   have h3':V i = .slice ao q c:=by simpa using h3
   exact ⟨l,ao,q,c,by rw [h1,h3'],h4,by omega,h5⟩
  obtain ⟨L,hL⟩:=Deep.choose_lt hex
  refine ⟨some ad,n,m,(List.range n).map L,rfl,⟨by simp,?_⟩,hle,by omega⟩
  by_cases h0:n=0
  ·exact .inl h0
  ·right
   obtain ⟨b,off,spot⟩:=ad
   have hspot:spot=none:=by
    obtain ⟨_,_,_,h1,_⟩:=hL 0 (by omega)
    simpa [Addr.add] using World.cell?_spot h1
   subst hspot
   refine ⟨b,off,rfl,fun i hi=>?_⟩
   obtain ⟨a,q,c,h1,h2,h3⟩:=hL i hi
   rw [Addr.add_lit] at h1
   exact ⟨a,q,c,h1,by simpa [hi] using h2,h3⟩
end

end Go.Proofs.Ytnicaicjgaoolaa
namespace Go.Proofs.Ytnicaicjgaoolaa.X
set_option maxRecDepth 20000
structure Ms (ρ:Type) where
 frm:Int
 dst:Int
 kind:Int
 N:List Int
 B:List ρ
structure Nd (ρ:Type) where
 own:Nat
 n:Nat
 term:Int
 choice:Int
 log:List (Int×ρ)
 agreed:Nat
 many:Nat
 leads:Bool
 votes:List Bool
 next:List Nat
 mat:List Nat
 ticks:Nat
 clock:Nat
 heard:List (Int×Int×Int)
 cnt:Nat
 bad:Bool
section
variable {ρ:Type} (z:ρ→Bool)
def lastT (l:List (Int×ρ)) (n:Nat):Int:=match n with | 0=>0 | n+1=>match l[n]? with | some x=>x.1 | none=>0
def recs (l:List (Int×ρ)):List ρ:=(l.filter fun x => !z x.2).map Prod.snd
def enter (s:Nd ρ) (t w:Int):Nd ρ:={ s with leads:=s.leads && !decide (s.term<t),term:=t,choice:=w,cnt:=s.cnt+1 }
def place (s:Nd ρ) (p:Nat) (x:Int×ρ):Nd ρ:={ s with log:=s.log.take p++[x],cnt:=s.cnt+1 }
def most (s:Nd ρ) (m:Nat):Bool:=decide (s.n<2*m)
def agree (s:Nd ρ) (m:Nat):Nd ρ:=if s.agreed<m then { s with agreed:=m,many:=s.many+(recs z ((s.log.take m).drop s.agreed)).length } else s
def open_ (s:Nd ρ):Nat:=((s.log.drop s.agreed).filter fun x=>x.1==s.term && !z x.2).length
def say (s:Nd ρ) (dst kind:Int) (N:List Int):Ms ρ:=⟨(s.own:Int),dst,kind,N,[]⟩
def others (s:Nd ρ) (f:Nat→Ms ρ):List (Ms ρ):=((List.range s.n).filter fun i=>i != s.own).map f
def laying (s:Nd ρ) (dst:Nat):Ms ρ :=
 ⟨(s.own:Int),(dst:Int),3,[s.term,((s.next.getD dst 0:Nat):Int),lastT s.log (s.next.getD dst 0),(s.agreed:Int)]++((s.log.drop (s.next.getD dst 0)).take 20).map Prod.fst,((s.log.drop (s.next.getD dst 0)).take 20).map Prod.snd⟩
def telling (s:Nd ρ) (kind:Int) (dst:Nat):Ms ρ:=say s dst kind [s.term,(s.log.length:Int),lastT s.log s.log.length]
def settleF (s:Nd ρ):Nat→Option Nat
 | 0=>none
 | k+1=>if s.agreed<k+1∧lastT s.log (k+1)=s.term then (if most s (countGe s.mat (k+1)) then some (k+1) else settleF s k) else none
def settle (s:Nd ρ):Bool×Nd ρ :=
 match settleF { s with mat:=s.mat.set s.own s.log.length } s.log.length with
 | some k=>(true,agree z { s with mat:=s.mat.set s.own s.log.length } k)
 | none=>(false,{ s with mat:=s.mat.set s.own s.log.length })
def chosen (s:Nd ρ):Bool:=most s (s.votes.filter id).length
/-- e: the record that is none -/
def lead (e:ρ) (s:Nd ρ):List (Ms ρ)×Nd ρ :=
 let s2:=(settle z (place { s with leads:=true,next:=List.replicate s.n s.log.length,mat:=List.replicate s.n 0 } s.log.length (s.term,e))).2
 (others s2 (laying s2),s2)
def stand (e:ρ) (s:Nd ρ):List (Ms ρ)×Nd ρ :=
 if 1099511627776≤s.term then ([],s) else
 let s1:={ enter s (s.term+1) (s.own:Int) with ticks:=0,votes:=(List.replicate s.n false).set s.own true }
 if chosen s1 then lead z e s1 else (others s1 (telling s1 1),s1)
def better (s:Nd ρ) (i:Nat) (x:Int×Int×Int):Bool :=
 !(x.1==0||decide (4<(s.clock:Int) - x.1)) &&
 (decide (lastT s.log s.log.length<x.2.2)||(x.2.2==lastT s.log s.log.length&&(decide ((s.log.length:Int)<x.2.1)||(x.2.1==(s.log.length:Int)&&decide (i<s.own)))))
def best (s:Nd ρ):Bool:=(List.range s.heard.length).all fun i => !better s i (s.heard.getD i (0,0,0))
def tick (e:ρ) (s0:Nd ρ):List (Ms ρ)×Nd ρ :=
 let s1:={ s0 with clock:=s0.clock+1 }
 if s1.leads then (others s1 (laying s1),s1) else
 let s2:={ s1 with ticks:=s1.ticks+1 }
 if 8≤s2.ticks∧best s2=true then stand z e s2
 else if 4≤s2.ticks then (others s2 (telling s2 5),s2)
 else ([],s2)
/-- a record that is one is given: none: refused -/
def submit (s:Nd ρ) (rec:ρ):List (Ms ρ)×Bool×Nd ρ :=
 if !s.leads then ([],false,s) else if 200≤open_ z s∨2000≤s.many then ([],false,s) else
 let s2:=(settle z (place s s.log.length (s.term,rec))).2
 (others s2 (laying s2),true,s2)
def asked (s:Nd ρ) (m:Ms ρ):List (Ms ρ)×Nd ρ :=
 if m.N.length=3 then
  let own:=lastT s.log s.log.length
  let behind:=decide (own<m.N.getD 2 0)||(m.N.getD 2 0==own&&decide ((s.log.length:Int)≤m.N.getD 1 0))
  let yes:=(m.N.getD 0 0==s.term)&&behind&&(s.choice == -1||s.choice==m.frm)
  if yes then
   if s.choice == -1 then
    let s1:={ enter s s.term m.frm with ticks:=0 }
    ([say s1 m.frm 2 [s1.term,1]],s1)
   else
    let s1:={ s with ticks:=0 }
    ([say s1 m.frm 2 [s1.term,1]],s1)
  else ([say s m.frm 2 [s.term,0]],s)
 else ([],s)
def voted (e:ρ) (s:Nd ρ) (m:Ms ρ):List (Ms ρ)×Nd ρ :=
 if s.leads || !(m.N.getD 0 0==s.term) || !(s.choice==(s.own:Int)) || !(m.N.getD 1 0==1) then ([],s) else
 let s1:={ s with votes:=s.votes.set m.frm.toNat true }
 if chosen s1 then lead z e s1 else ([],s1)
def fits (s:Nd ρ) (from_ term:Int):Bool:=decide (from_≤(s.log.length:Int))&&(lastT s.log from_.toNat==term)
def laysF (from_:Nat):List (Int×ρ)→Nat→Nd ρ→Bool×Nd ρ
 | [],_,s=>(true,s)
 | (t,rec)::l,i,s =>
  if from_+i<s.log.length∧lastT s.log (from_+i+1)=t then laysF from_ l (i+1) s
  else if t<1∨s.term<t∨from_+i<s.agreed then (false,s)
  else laysF from_ l (i+1) (place s (from_+i) (t,rec))
def lays (s:Nd ρ) (m:Ms ρ):List (Ms ρ)×Nd ρ :=
 if !(m.N.length==4+m.B.length)||decide (m.N.getD 1 0<0)||(m.N.getD 0 0==s.term&&s.leads) then ([],s) else
 if m.N.getD 0 0<s.term then ([say s m.frm 4 [s.term,0,0]],s) else
 let s1:={ s with ticks:=0 }
 if fits s1 (m.N.getD 1 0) (m.N.getD 2 0) then
  let from_:=(m.N.getD 1 0).toNat
  let p:=laysF from_ ((m.N.drop 4).zip m.B) 0 s1
  if p.1 then
   let s2:=agree z p.2 (min (m.N.getD 3 0) ((from_+m.B.length:Nat):Int)).toNat
   ([say s2 m.frm 4 [s2.term,1,((from_+m.B.length:Nat):Int)]],s2)
  else ([],{ p.2 with bad:=true })
 else ([say s1 m.frm 4 [s1.term,0,min (s1.log.length:Int) (max (m.N.getD 1 0 - 1) 0)]],s1)
def answered (s:Nd ρ) (m:Ms ρ):List (Ms ρ)×Nd ρ :=
 if !s.leads || !(m.N.getD 0 0==s.term) || !(m.N.length==3)||decide (m.N.getD 2 0<0)||decide ((s.log.length:Int)<m.N.getD 2 0) then ([],s) else
 let who:=m.frm.toNat
 let k:=(m.N.getD 2 0).toNat
 if m.N.getD 1 0=0 then
  if s.next.getD who 0≤k then ([],s) else
  let s1:={ s with next:=s.next.set who (max k (s.mat.getD who 0))}
  ([laying s1 who],s1)
 else if k≤s.mat.getD who 0 then ([],s) else
 let p:=settle z { s with mat:=s.mat.set who k,next:=s.next.set who (max k (s.next.getD who 0))}
 if p.1 then (others p.2 (laying p.2),p.2)
 else if p.2.next.getD who 0<p.2.log.length then ([laying p.2 who],p.2)
 else ([],p.2)
def badm (s:Nd ρ) (m:Ms ρ):Bool := !(m.dst==(s.own:Int))||m.frm==(s.own:Int)||decide (m.frm<0)||decide ((s.n:Int)≤m.frm)||decide (m.N.length<2)||decide (m.N.getD 0 0<1)||decide (1099511627776<m.N.getD 0 0)
def getIn (e:ρ) (s:Nd ρ) (m:Ms ρ):List (Ms ρ)×Nd ρ :=
 if m.kind=1 then asked s m
 else if m.kind=2 then voted z e s m
 else if m.kind=3 then lays z s m
 else if m.kind=4 then answered z s m
 else if m.kind=5 then (if m.N.length=3 then ([],{ s with heard:=s.heard.set m.frm.toNat ((s.clock:Int),m.N.getD 1 0,m.N.getD 2 0)}) else ([],s))
 else ([],s)
def get (e:ρ) (s:Nd ρ) (m:Ms ρ):List (Ms ρ)×Nd ρ :=
 if badm s m then ([],s) else getIn z e (if s.term<m.N.getD 0 0 then enter s (m.N.getD 0 0) (-1) else s) m
def agreedL (s:Nd ρ):List ρ:=recs z (s.log.take s.agreed)
def new (own n:Nat):Nd ρ:=⟨own,n,0, -1,[],0,0,false,List.replicate n false,List.replicate n 0,List.replicate n 0,0,0,List.replicate n (0,0,0),0,false⟩
/-- power went and came, all having been safe -/
def back (s:Nd ρ):Nd ρ:={ (new s.own s.n:Nd ρ) with term:=s.term,choice:=s.choice,log:=s.log,cnt:=s.cnt,bad:=s.bad }
end
end Go.Proofs.Ytnicaicjgaoolaa.X
namespace Go.Proofs.Ytnicaicjgaoolaa.X
set_option maxRecDepth 20000
/-- behind a call: no fewer notes, and nothing bad is forgotten -/
structure Mo {ρ:Type} (c c':Nd ρ):Prop where
 cnt:c.cnt≤c'.cnt
 bad:c'.bad=false→c.bad=false
 own:c'.own=c.own
 n:c'.n=c.n
section
variable {ρ:Type} {z:ρ→Bool} {e:ρ} {c:Nd ρ}
theorem Mo.refl (c:Nd ρ):Mo c c:=⟨Nat.le_refl _,id,rfl,rfl⟩
theorem Mo.trans {a b c:Nd ρ} (h:Mo a b) (g:Mo b c):Mo a c:=⟨Nat.le_trans h.cnt g.cnt,fun x=>h.bad (g.bad x),g.own.trans h.own,g.n.trans h.n⟩
theorem mo_enter (t w:Int):Mo c (enter c t w):=⟨Nat.le_succ _,id,rfl,rfl⟩
theorem mo_place (p:Nat) (x:Int×ρ):Mo c (place c p x):=⟨Nat.le_succ _,id,rfl,rfl⟩
theorem mo_agree (m:Nat):Mo c (agree z c m):=by
 unfold agree
 split
 ·exact ⟨Nat.le_refl _,id,rfl,rfl⟩
 ·exact Mo.refl _
theorem mo_settle:Mo c (settle z c).2:=by
 unfold settle
 split
 ·exact Mo.trans (b:={ c with mat:=c.mat.set c.own c.log.length }) ⟨Nat.le_refl _,id,rfl,rfl⟩ (mo_agree _)
 ·exact ⟨Nat.le_refl _,id,rfl,rfl⟩
theorem mo_lead:Mo c (lead z e c).2:=by
 unfold lead
 exact Mo.trans (b:=place { c with leads:=true,next:=List.replicate c.n c.log.length,mat:=List.replicate c.n 0 } c.log.length (c.term,e)) ⟨Nat.le_succ _,id,rfl,rfl⟩ mo_settle
theorem mo_stand:Mo c (stand z e c).2:=by
 unfold stand
 split
 ·exact Mo.refl _
 ·have h:Mo c { enter c (c.term+1) (c.own:Int) with ticks:=0,votes:=(List.replicate c.n false).set c.own true }:=⟨Nat.le_succ _,id,rfl,rfl⟩
  simp only
  split
  ·exact h.trans mo_lead
  ·exact h
theorem mo_tick:Mo c (tick z e c).2:=by
 unfold tick
 simp only
 split
 ·exact ⟨Nat.le_refl _,id,rfl,rfl⟩
 ·split
  ·exact Mo.trans (b:={ c with clock:=c.clock+1,ticks:=c.ticks+1 }) ⟨Nat.le_refl _,id,rfl,rfl⟩ mo_stand
  ·split<;>exact ⟨Nat.le_refl _,id,rfl,rfl⟩
theorem mo_submit (rec:ρ):Mo c (submit z c rec).2.2:=by
 unfold submit
 split
 ·exact Mo.refl _
 ·split
  ·exact Mo.refl _
  ·exact (mo_place _ _).trans mo_settle
theorem mo_asked (m:Ms ρ):Mo c (asked c m).2:=by
 unfold asked
 split
 ·simp only
  split
  ·split
   ·exact ⟨Nat.le_succ _,id,rfl,rfl⟩
   ·exact ⟨Nat.le_refl _,id,rfl,rfl⟩
  ·exact Mo.refl _
 ·exact Mo.refl _
theorem mo_voted (m:Ms ρ):Mo c (voted z e c m).2:=by
 unfold voted
 split
 ·exact Mo.refl _
 ·have h:Mo c { c with votes:=c.votes.set m.frm.toNat true }:=⟨Nat.le_refl _,id,rfl,rfl⟩
  simp only
  split
  ·exact h.trans mo_lead
  ·exact h
theorem mo_laysF (f:Nat) (l:List (Int×ρ)):∀(i:Nat) (c:Nd ρ),Mo c (laysF f l i c).2:=by
 induction l with
 | nil=>intro i c;exact Mo.refl _
 | cons a l ih =>
  intro i c
  obtain ⟨t,rec⟩:=a
  unfold laysF
  split
  ·exact ih _ _
  ·split
   ·exact Mo.refl _
   ·exact (mo_place _ _).trans (ih _ _)
theorem mo_lays (m:Ms ρ):Mo c (lays z c m).2:=by
 unfold lays
 split
 ·exact Mo.refl _
 ·split
  ·exact Mo.refl _
  ·have h:Mo c { c with ticks:=0 }:=⟨Nat.le_refl _,id,rfl,rfl⟩
   simp only
   split
   ·have h2:=mo_laysF (m.N.getD 1 0).toNat ((m.N.drop 4).zip m.B) 0 { c with ticks:=0 }
    split
    ·exact (h.trans h2).trans (mo_agree _)
    ·exact (h.trans h2).trans ⟨Nat.le_refl _,fun x=>by simp at x,rfl,rfl⟩
   ·exact h
theorem mo_answered (m:Ms ρ):Mo c (answered z c m).2:=by
 unfold answered
 split
 ·exact Mo.refl _
 ·simp only
  split
  ·split
   ·exact Mo.refl _
   ·exact ⟨Nat.le_refl _,id,rfl,rfl⟩
  ·split
   ·exact Mo.refl _
   ·have h:=mo_settle (z:=z) (c:={ c with mat:=c.mat.set m.frm.toNat (m.N.getD 2 0).toNat,next:=c.next.set m.frm.toNat (max (m.N.getD 2 0).toNat (c.next.getD m.frm.toNat 0))})
    have h2:Mo c (settle z { c with mat:=c.mat.set m.frm.toNat (m.N.getD 2 0).toNat,next:=c.next.set m.frm.toNat (max (m.N.getD 2 0).toNat (c.next.getD m.frm.toNat 0))}).2:=Mo.trans (b:={ c with mat:=c.mat.set m.frm.toNat (m.N.getD 2 0).toNat,next:=c.next.set m.frm.toNat (max (m.N.getD 2 0).toNat (c.next.getD m.frm.toNat 0))}) ⟨Nat.le_refl _,id,rfl,rfl⟩ h
    split
    ·exact h2
    ·split<;>exact h2
theorem mo_getIn (m:Ms ρ):Mo c (getIn z e c m).2:=by
 unfold getIn
 split
 ·exact mo_asked m
 ·split
  ·exact mo_voted m
  ·split
   ·exact mo_lays m
   ·split
    ·exact mo_answered m
    ·split
     ·split
      ·exact ⟨Nat.le_refl _,id,rfl,rfl⟩
      ·exact Mo.refl _
     ·exact Mo.refl _
theorem mo_get (m:Ms ρ):Mo c (get z e c m).2:=by
 unfold get
 split
 ·exact Mo.refl _
 ·split
  ·exact (mo_enter _ _).trans (mo_getIn m)
  ·exact mo_getIn m
theorem mo_back:Mo c (back c):=⟨Nat.le_refl _,id,rfl,rfl⟩
end
end Go.Proofs.Ytnicaicjgaoolaa.X
namespace Go.Proofs.Ytnicaicjgaoolaa
set_option maxRecDepth 20000
def lgX {ρ:Type} (f:ρ→List UInt8) (x:Int×ρ):Ent:=⟨x.1,f x.2⟩
def mgX {ρ:Type} (f:ρ→List UInt8) (m:X.Ms ρ):Msg:=⟨m.frm,m.dst,m.kind,m.N,m.B.map f⟩
def Synced (k:Dk):Prop:=∀l q,k.file=some (l,q)→q=l.length
/-- the replica on its disk and the core; what was written may not be safe yet -/
structure RelU {ρ:Type} (f:ρ→List UInt8) (s:Rp) (k:Dk) (c:X.Nd ρ):Prop where
 own:s.own=c.own
 n:s.n=c.n
 term:s.term=c.term
 choice:s.choice=c.choice
 log:s.log=c.log.map (lgX f)
 agreed:s.agreed=c.agreed
 many:s.many=c.many
 leads:s.leads=c.leads
 votes:s.votes=c.votes
 next:s.next=c.next
 mat:s.mat=c.mat
 ticks:s.ticks=c.ticks
 clock:s.clock=c.clock
 heard:s.heard=c.heard
 done:s.done=false
 liv:s.lives=k.lives
 wliv:s.wl.lives=k.lives
 wdone:s.wl.done=false
 off:k.off=false
 room:k.room=1048576
 tot:k.total≤c.cnt*344
structure Rel {ρ:Type} (f:ρ→List UInt8) (s:Rp) (k:Dk) (c:X.Nd ρ):Prop where
 u:RelU f s k c
 syn:Synced k
structure RelP {ρ:Type} (f:ρ→List UInt8) (p:List Msg×Rp×Dk) (q:List (X.Ms ρ)×X.Nd ρ):Prop where
 ms:p.1=q.1.map (mgX f)
 rel:Rel f p.2.1 p.2.2 q.2
section
variable {ρ:Type} {f:ρ→List UInt8} {z:ρ→Bool} {e:ρ} {s:Rp} {k:Dk} {c:X.Nd ρ}
theorem chkW0 {s:Wl} (h:s.done=false):chkW s 0=s:=by
 unfold chkW
 rw [h]
 obtain ⟨a,b,c⟩:=s
 simp only at h
 rw [h];rfl
theorem offW_rel (h:RelU f s k c):offW s.wl k=false:=by
 unfold offW
 rw [h.wdone,h.wliv,h.off];simp
theorem RelU.done_same (h:RelU f s k c):doneM s k=false∧doneS s k=s:=by
 have hd:doneM s k=false:=by
  unfold doneM
  rw [h.done,h.off,h.liv];simp
 refine ⟨hd,?_⟩
 unfold doneS
 rw [hd,←h.done]
theorem RelU.wl (h:RelU f s k c) {w':Wl} {k':Dk} (h1:w'.lives=k'.lives) (h2:w'.done=false) (h3:k'.lives=k.lives) (h4:k'.off=k.off) (h5:k'.room=k.room) {m:Nat} (h6:k'.total≤m*344):RelU f { s with wl:=w',done:=false } k' { c with cnt:=m } :=
 ⟨h.own,h.n,h.term,h.choice,h.log,h.agreed,h.many,h.leads,h.votes,h.next,h.mat,h.ticks,h.clock,h.heard,rfl,h.liv.trans h3.symm,h1,h2,h4.trans h.off,h5.trans h.room,h6⟩
theorem write_rel (h:RelU f s k c) (b:List UInt8) (hb:b.length≤332) (hc:c.cnt≤3030) :
  ∃s' k',writeM s k b=(s',k')∧RelU f s' k' { c with cnt:=c.cnt+1 }:=by
 have ht:=h.tot
 have hr:=h.room
 have ha:addW s.wl k b=(0,{ s.wl with recs:=s.wl.recs++[b]},appD k (F.frameF b)):=by
  unfold addW
  rw [offW_rel h,chkW0 h.wdone]
  simp only [Bool.false_eq_true,if_false]
  rw [if_neg (by omega),if_neg (by rw [hr];omega)]
 refine ⟨{ s with wl:={ s.wl with recs:=s.wl.recs++[b]},done:=false },appD k (F.frameF b),?_,h.wl (w':={ s.wl with recs:=s.wl.recs++[b]}) (k':=appD k (F.frameF b)) h.wliv h.wdone rfl rfl rfl ?_⟩
 ·unfold writeM
  rw [h.done,ha]
  simp
 ·show (appD k (F.frameF b)).total≤(c.cnt+1)*344
  rw [total_filB] at ht ⊢
  rw [appD_fil,List.length_append,F.frameF_len]
  omega
theorem sync_rel (h:RelU f s k c):∃s' k',syncM s k=(s',k')∧Rel f s' k' c:=by
 unfold syncM syncW
 rw [h.done,offW_rel h,chkW0 h.wdone]
 simp only [Bool.false_eq_true,if_false]
 have ht:=h.tot
 cases hk:k.file with
 | none=>exact ⟨{ s with wl:=s.wl,done:=false },k,by simp,⟨h.wl (w':=s.wl) (k':=k) h.wliv h.wdone rfl rfl rfl ht,fun l q e=>by rw [hk] at e;cases e⟩⟩
 | some p =>
  obtain ⟨l,q⟩:=p
  refine ⟨{ s with wl:=s.wl,done:=false },{ k with file:=some (l,l.length)},by simp,⟨h.wl (w':=s.wl) (k':={ k with file:=some (l,l.length)}) h.wliv h.wdone rfl rfl rfl ?_,fun l2 q2 e2=>by cases e2;rfl⟩⟩
  unfold Dk.total at ht ⊢
  rw [hk] at ht
  exact ht
theorem enter_rel (h:RelU f s k c) (t w:Int) (hc:c.cnt≤3030):∃s' k',enterM s k t w=(true,s',k')∧Rel f s' k' (X.enter c t w):=by
 obtain ⟨s1,k1,e1,h1⟩:=write_rel h (noteT t w) (by rw [noteT_len];omega) hc
 obtain ⟨s2,k2,e2,h2⟩:=sync_rel h1
 unfold enterM
 rw [e1]
 simp only [h1.done,Bool.false_eq_true,if_false]
 rw [e2]
 simp only [h2.u.done,Bool.false_eq_true,if_false]
 refine ⟨_,k2,rfl,⟨⟨h2.u.own,h2.u.n,rfl,rfl,h2.u.log,h2.u.agreed,h2.u.many,?_,h2.u.votes,h2.u.next,h2.u.mat,h2.u.ticks,h2.u.clock,h2.u.heard,rfl,h2.u.liv,h2.u.wliv,h2.u.wdone,h2.u.off,h2.u.room,h2.u.tot⟩,h2.syn⟩⟩
 show (s2.leads && !decide (s2.term<t))=(c.leads && !decide (c.term<t))
 rw [h2.u.leads,h2.u.term]
theorem place_rel (h:RelU f s k c) (p:Nat) (x:Int×ρ) (hx:(f x.2).length≤300) (hc:c.cnt≤3030):∃s' k',placeM s k p (lgX f x)=(true,s',k')∧RelU f s' k' (X.place c p x):=by
 obtain ⟨s1,k1,e1,h1⟩:=write_rel h (noteE p (lgX f x)) (by rw [noteE_len];show 32+(f x.2).length≤332;omega) hc
 unfold placeM
 rw [e1]
 simp only [h1.done,Bool.false_eq_true,if_false]
 refine ⟨_,k1,rfl,⟨h1.own,h1.n,h1.term,h1.choice,?_,h1.agreed,h1.many,h1.leads,h1.votes,h1.next,h1.mat,h1.ticks,h1.clock,h1.heard,rfl,h1.liv,h1.wliv,h1.wdone,h1.off,h1.room,h1.tot⟩⟩
 show s1.log.take p++[lgX f x]=(c.log.take p++[x]).map (lgX f)
 rw [h1.log,List.map_append,List.map_take];rfl
theorem put_rel (h:RelU f s k c) (x:Int×ρ) (hx:(f x.2).length≤300) (hc:c.cnt≤3030):∃s' k',putM s k (lgX f x)=(true,s',k')∧Rel f s' k' (X.place c c.log.length x):=by
 have hl:s.log.length=c.log.length:=by rw [h.log,List.length_map]
 obtain ⟨s1,k1,e1,h1⟩:=place_rel h s.log.length x hx hc
 obtain ⟨s2,k2,e2,h2⟩:=sync_rel h1
 unfold putM
 rw [e1]
 simp only [if_true]
 rw [e2]
 refine ⟨s2,k2,by simp [h2.u.done],?_⟩
 rw [←hl]
 exact h2
theorem lastT_rel (l:List (Int×ρ)) (n:Nat):lastTermM (l.map (lgX f)) n=X.lastT l n:=by
 unfold lastTermM X.lastT
 cases n with
 | zero=>rfl
 | succ n =>
  rw [if_neg (by omega)]
  simp only [Nat.add_sub_cancel,List.map_map,List.getD_eq_getElem?_getD,List.getElem?_map]
  cases l[n]? with
  | none=>rfl
  | some x=>rfl
theorem terms_rel (l:List (Int×ρ)):(l.map (lgX f)).map Ent.term=l.map Prod.fst:=by
 rw [List.map_map];rfl
theorem bs_rel (l:List (Int×ρ)):(l.map (lgX f)).map Ent.bs=(l.map Prod.snd).map f:=by
 rw [List.map_map,List.map_map];rfl
theorem laying_rel (h:RelU f s k c) (d:Nat):layingM s d=mgX f (X.laying c d):=by
 unfold layingM X.laying mgX
 simp only [h.own,h.term,h.next,h.agreed,h.log,lastT_rel,←List.map_drop,←List.map_take,terms_rel,bs_rel]
theorem telling_rel (h:RelU f s k c) (kd:Int) (d:Nat):telling s kd d=mgX f (X.telling c kd d):=by
 unfold telling X.telling mgX sayM X.say
 simp only [h.own,h.term,h.log,lastT_rel,List.length_map,List.map_nil]
theorem say_rel (h:RelU f s k c) (d kd:Int) (N:List Int):sayM s d kd N=mgX f (X.say c d kd N):=by
 unfold sayM X.say mgX
 simp only [h.own,List.map_nil]
theorem others_rel (h:RelU f s k c) (g:Nat→Msg) (g':Nat→X.Ms ρ) (hg:∀i,g i=mgX f (g' i)):othersM s g=(X.others c g').map (mgX f):=by
 unfold othersM X.others
 rw [h.own,h.n,List.map_map]
 exact List.map_congr_left (fun i _=>hg i)
section
variable (hz:∀x,z x=(f x).isEmpty)
include hz
theorem recs_rel (l:List (Int×ρ)):recs (l.map (lgX f))=(X.recs z l).map f:=by
 induction l with
 | nil=>rfl
 | cons a l ih =>
  unfold recs X.recs at *
  simp only [List.map_cons,List.filter_cons]
  have e1:(lgX f a).bs.isEmpty=z a.2:=(hz a.2).symm
  rw [e1]
  split
  ·simp only [List.map_cons,ih];rfl
  ·exact ih
theorem agree_rel (h:Rel f s k c) (m:Nat):Rel f (agreeM s m) k (X.agree z c m):=by
 have e:(recs ((s.log.take m).drop s.agreed)).length=(X.recs z ((c.log.take m).drop c.agreed)).length:=by
  rw [h.u.log,h.u.agreed,←List.map_take,←List.map_drop,recs_rel hz,List.length_map]
 unfold agreeM X.agree
 rw [e,h.u.agreed]
 split
 ·exact ⟨⟨h.u.own,h.u.n,h.u.term,h.u.choice,h.u.log,rfl,by show s.many+_=c.many+_;rw [h.u.many],h.u.leads,h.u.votes,h.u.next,h.u.mat,h.u.ticks,h.u.clock,h.u.heard,h.u.done,h.u.liv,h.u.wliv,h.u.wdone,h.u.off,h.u.room,h.u.tot⟩,h.syn⟩
 ·exact h
omit hz in
theorem settleF_rel (h:RelU f s k c) (m:Nat):_root_.Go.Proofs.Ytnicaicjgaoolaa.settleF s m=X.settleF c m:=by
 induction m with
 | zero=>rfl
 | succ m ih =>
  unfold _root_.Go.Proofs.Ytnicaicjgaoolaa.settleF X.settleF
  rw [ih,h.agreed,h.log,lastT_rel,h.term]
  have e:mostM s (countGe s.mat (m+1))=X.most c (countGe c.mat (m+1)):=by
   unfold mostM X.most
   rw [h.n,h.mat]
  rw [e]
theorem settle_rel (h:Rel f s k c):(settleM s).1=(X.settle z c).1∧Rel f (settleM s).2 k (X.settle z c).2:=by
 have h1:Rel f { s with mat:=s.mat.set s.own s.log.length } k { c with mat:=c.mat.set c.own c.log.length } :=
  ⟨⟨h.u.own,h.u.n,h.u.term,h.u.choice,h.u.log,h.u.agreed,h.u.many,h.u.leads,h.u.votes,h.u.next,by show s.mat.set s.own s.log.length=c.mat.set c.own c.log.length;rw [h.u.mat,h.u.own,h.u.log,List.length_map],h.u.ticks,h.u.clock,h.u.heard,h.u.done,h.u.liv,h.u.wliv,h.u.wdone,h.u.off,h.u.room,h.u.tot⟩,h.syn⟩
 have e:=settleF_rel h1.u s.log.length
 have hl:s.log.length=c.log.length:=by rw [h.u.log,List.length_map]
 unfold settleM X.settle
 simp only
 rw [e,hl]
 cases X.settleF { c with mat:=c.mat.set c.own c.log.length } c.log.length with
 | none=>exact ⟨rfl,by rw [hl] at h1;exact h1⟩
 | some m=>exact ⟨rfl,by have:=agree_rel hz h1 m;rw [hl] at this;exact this⟩
end
end
end Go.Proofs.Ytnicaicjgaoolaa
namespace Go.Proofs.Ytnicaicjgaoolaa
set_option maxRecDepth 20000
section
variable {ρ:Type} {f:ρ→List UInt8} {z:ρ→Bool} {e:ρ} {s:Rp} {k:Dk} {c:X.Nd ρ}
/-- only plain fields turn -/
theorem RelU.mk2 (h:RelU f s k c) {s':Rp} {c':X.Nd ρ} (h1:s'.own=c'.own) (h2:s'.n=c'.n) (h3:s'.term=c'.term) (h4:s'.choice=c'.choice) (h5:s'.log=c'.log.map (lgX f)) (h6:s'.agreed=c'.agreed) (h7:s'.many=c'.many) (h8:s'.leads=c'.leads) (h9:s'.votes=c'.votes) (h10:s'.next=c'.next) (h11:s'.mat=c'.mat) (h12:s'.ticks=c'.ticks) (h13:s'.clock=c'.clock) (h14:s'.heard=c'.heard) (g1:s'.done=s.done) (g2:s'.lives=s.lives) (g3:s'.wl=s.wl) (g4:c'.cnt=c.cnt):RelU f s' k c' :=
 ⟨h1,h2,h3,h4,h5,h6,h7,h8,h9,h10,h11,h12,h13,h14,g1.trans h.done,g2.trans h.liv,by rw [g3];exact h.wliv,by rw [g3];exact h.wdone,h.off,h.room,by rw [g4];exact h.tot⟩
theorem RelU.len (h:RelU f s k c):s.log.length=c.log.length:=by rw [h.log,List.length_map]
theorem chosen_rel (h:RelU f s k c):chosenM s=X.chosen c:=by
 unfold chosenM mostM X.chosen X.most;rw [h.n,h.votes]
theorem best_rel (h:RelU f s k c):bestM s=X.best c:=by
 unfold bestM X.best
 rw [h.heard]
 congr 1;funext i
 unfold _root_.Go.Proofs.Ytnicaicjgaoolaa.better X.better
 rw [h.clock,h.log,lastT_rel,List.length_map,h.own]
theorem relp_nil (h:Rel f s k c):RelP f ([],s,k) ([],c):=⟨rfl,h⟩
theorem relp_one (h:Rel f s k c) {m:Msg} {m':X.Ms ρ} (e:m=mgX f m'):RelP f ([m],s,k) ([m'],c):=⟨by rw [e];rfl,h⟩
theorem relp_oth (h:Rel f s k c) (g:Nat→Msg) (g':Nat→X.Ms ρ) (hg:∀i,g i=mgX f (g' i)):RelP f (othersM s g,s,k) (X.others c g',c):=⟨others_rel h.u g g' hg,h⟩
theorem ifP {P Q:Prop} [Decidable P] [Decidable Q] {a b:List Msg×Rp×Dk} {a' b':List (X.Ms ρ)×X.Nd ρ} (e:P=Q) (ha:Q→RelP f a a') (hb:¬Q→RelP f b b'):RelP f (if P then a else b) (if Q then a' else b'):=by
 subst e
 by_cases h:P
 ·rw [if_pos h,if_pos h];exact ha h
 ·rw [if_neg h,if_neg h];exact hb h
section
variable (hz:∀x,z x=(f x).isEmpty) (he:f e=[])
include hz he
theorem lead_rel (h:Rel f s k c) (hc:c.cnt≤3030):RelP f (leadM s k) (X.lead z e c):=by
 have h1:Rel f { s with leads:=true,next:=List.replicate s.n s.log.length,mat:=List.replicate s.n 0 } k { c with leads:=true,next:=List.replicate c.n c.log.length,mat:=List.replicate c.n 0 } :=
  ⟨h.u.mk2 h.u.own h.u.n h.u.term h.u.choice h.u.log h.u.agreed h.u.many rfl h.u.votes (by show List.replicate s.n s.log.length=List.replicate c.n c.log.length;rw [h.u.n,h.u.len]) (by show List.replicate s.n 0=List.replicate c.n 0;rw [h.u.n]) h.u.ticks h.u.clock h.u.heard rfl rfl rfl rfl,h.syn⟩
 obtain ⟨s2,k2,e2,h2⟩:=put_rel h1.u (c.term,e) (by rw [he];simp) hc
 have e3:lgX f (c.term,e)=⟨s.term,[]⟩:=by unfold lgX;rw [he,h.u.term]
 rw [e3] at e2
 have h3:=(settle_rel hz h2).2
 unfold leadM X.lead
 simp only
 rw [e2]
 simp only [if_true]
 exact relp_oth h3 _ _ (fun i=>laying_rel h3.u i)
theorem stand_rel (h:Rel f s k c) (hc:c.cnt≤3020):RelP f (standM s k) (X.stand z e c):=by
 unfold standM X.stand
 rw [h.u.term]
 split
 ·exact relp_nil h
 ·obtain ⟨s1,k1,e1,h1⟩:=enter_rel h.u (c.term+1) (c.own:Int) (by omega)
  simp only
  rw [h.u.own,e1]
  simp only [if_true]
  have h2:Rel f { s1 with ticks:=0,votes:=(List.replicate s.n false).set c.own true } k1 { X.enter c (c.term+1) (c.own:Int) with ticks:=0,votes:=(List.replicate c.n false).set c.own true } :=
   ⟨h1.u.mk2 h1.u.own h1.u.n h1.u.term h1.u.choice h1.u.log h1.u.agreed h1.u.many h1.u.leads (by show (List.replicate s.n false).set c.own true=_;rw [h.u.n]) h1.u.next h1.u.mat rfl h1.u.clock h1.u.heard rfl rfl rfl rfl,h1.syn⟩
  rw [chosen_rel h2.u]
  split
  ·exact lead_rel hz he h2 (by show c.cnt+1≤3030;omega)
  ·exact relp_oth h2 _ _ (fun i=>telling_rel h2.u 1 i)
theorem tick_rel (h:Rel f s k c) (hc:c.cnt≤3020):RelP f (tickM s k) (X.tick z e c):=by
 have h1:Rel f { s with clock:=s.clock+1 } k { c with clock:=c.clock+1 } :=
  ⟨h.u.mk2 h.u.own h.u.n h.u.term h.u.choice h.u.log h.u.agreed h.u.many h.u.leads h.u.votes h.u.next h.u.mat h.u.ticks (by show s.clock+1=c.clock+1;rw [h.u.clock]) h.u.heard rfl rfl rfl rfl,h.syn⟩
 have h2:Rel f { s with clock:=s.clock+1,ticks:=s.ticks+1 } k { c with clock:=c.clock+1,ticks:=c.ticks+1 } :=
  ⟨h.u.mk2 h.u.own h.u.n h.u.term h.u.choice h.u.log h.u.agreed h.u.many h.u.leads h.u.votes h.u.next h.u.mat (by show s.ticks+1=c.ticks+1;rw [h.u.ticks]) (by show s.clock+1=c.clock+1;rw [h.u.clock]) h.u.heard rfl rfl rfl rfl,h.syn⟩
 have hb:=best_rel h2.u
 have ht:s.ticks+1=c.ticks+1:=by rw [h.u.ticks]
 unfold tickM X.tick
 simp only
 rw [h.u.done_same.2,if_neg (by rw [h.u.done];simp)]
 refine ifP (by rw [h.u.leads]) (fun _=>relp_oth h1 _ _ (fun i=>laying_rel h1.u i)) fun _=>?_
 refine ifP (by rw [hb,ht]) (fun _=>stand_rel hz he h2 hc) fun _=>?_
 exact ifP (by rw [ht]) (fun _=>relp_oth h2 _ _ (fun i=>telling_rel h2.u 5 i)) (fun _=>relp_nil h2)
omit hz he in
theorem asked_rel (h:Rel f s k c) (hc:c.cnt≤3020) (m:X.Ms ρ):RelP f (askedM s k (mgX f m)) (X.asked c m):=by
 unfold askedM X.asked
 refine ifP rfl (fun _=>?_) (fun _=>relp_nil h)
 simp only
 refine ifP ?_ (fun _=>?_) (fun _=>relp_one h (by rw [h.u.term];exact say_rel h.u _ _ _))
 ·rw [h.u.log,lastT_rel,List.length_map,h.u.term,h.u.choice];rfl
 ·refine ifP (by rw [h.u.choice]) (fun _=>?_) (fun _=>?_)
  ·obtain ⟨s1,k1,e1,h1⟩:=enter_rel h.u c.term m.frm (by omega)
   have h2:Rel f { s1 with ticks:=0 } k1 { X.enter c c.term m.frm with ticks:=0 } :=
    ⟨h1.u.mk2 h1.u.own h1.u.n h1.u.term h1.u.choice h1.u.log h1.u.agreed h1.u.many h1.u.leads h1.u.votes h1.u.next h1.u.mat rfl h1.u.clock h1.u.heard rfl rfl rfl rfl,h1.syn⟩
   have e2:enterM s k s.term (mgX f m).frm=(true,s1,k1):=by rw [h.u.term];exact e1
   rw [e2]
   simp only [if_true]
   have h3:s1.term=c.term:=h1.u.term
   refine relp_one h2 ?_
   rw [h3]
   exact say_rel h2.u _ _ _
  ·have h2:Rel f { s with ticks:=0 } k { c with ticks:=0 } :=
    ⟨h.u.mk2 h.u.own h.u.n h.u.term h.u.choice h.u.log h.u.agreed h.u.many h.u.leads h.u.votes h.u.next h.u.mat rfl h.u.clock h.u.heard rfl rfl rfl rfl,h.syn⟩
   refine relp_one h2 ?_
   have h3:sayM { s with ticks:=0 } (mgX f m).frm 2 [s.term,1]=mgX f (X.say { c with ticks:=0 } m.frm 2 [c.term,1]):=by rw [h.u.term];exact say_rel h2.u _ _ _
   exact h3
theorem voted_rel (h:Rel f s k c) (hc:c.cnt≤3020) (m:X.Ms ρ):RelP f (votedM s k (mgX f m)) (X.voted z e c m):=by
 have h2:Rel f { s with votes:=s.votes.set m.frm.toNat true } k { c with votes:=c.votes.set m.frm.toNat true } :=
  ⟨h.u.mk2 h.u.own h.u.n h.u.term h.u.choice h.u.log h.u.agreed h.u.many h.u.leads (by show s.votes.set _ _=_;rw [h.u.votes]) h.u.next h.u.mat h.u.ticks h.u.clock h.u.heard rfl rfl rfl rfl,h.syn⟩
 have hch:=chosen_rel h2.u
 unfold votedM X.voted
 refine ifP ?_ (fun _=>relp_nil h) (fun _=>?_)
 ·rw [h.u.leads,h.u.term,h.u.choice,h.u.own];rfl
 ·simp only
  refine ifP ?_ (fun _=>lead_rel hz he h2 (by show c.cnt≤3030;omega)) (fun _=>relp_nil h2)
  rw [←hch];rfl
omit he in
theorem submit_rel (h:Rel f s k c) (hc:c.cnt≤3020) (x:ρ) (hx:(f x).length≤300) (hne:z x=false):∃er,submitM s k (f x)=((X.submit z c x).1.map (mgX f),er,(submitM s k (f x)).2.2)∧(er=0↔(X.submit z c x).2.1=true)∧Rel f (submitM s k (f x)).2.2.1 (submitM s k (f x)).2.2.2 (X.submit z c x).2.2:=by
 have hn:(f x).length≠0:=by
  have:=hz x
  rw [hne] at this
  cases hf:f x with
  | nil=>rw [hf] at this;cases this
  | cons a l=>simp
 have ho:openM s=X.open_ z c:=by
  unfold openM X.open_
  rw [h.u.log,h.u.agreed,h.u.term,←List.map_drop,List.filter_map,List.length_map]
  congr 2
  funext y
  simp [lgX,hz]
 obtain ⟨s2,k2,e2,h2⟩:=put_rel h.u (c.term,x) hx (by omega)
 have h3:=(settle_rel hz h2).2
 have e3:lgX f (c.term,x)=⟨s.term,f x⟩:=by unfold lgX;rw [h.u.term]
 rw [e3] at e2
 have E:submitM s k (f x)=if !s.leads then ([],15,s,k) else if 200≤openM s∨2000≤s.many then ([],9,s,k) else (let s2:=(settleM s2).2;(othersM s2 (layingM s2),0,s2,k2)):=by
  unfold submitM
  rw [if_neg hn,if_neg (by omega)]
  simp only
  rw [h.u.done_same.2,h.u.done,e2]
  simp
 rw [E]
 unfold X.submit
 rw [h.u.leads,ho,h.u.many]
 split
 ·exact ⟨15,rfl,by simp,h⟩
 ·split
  ·exact ⟨9,rfl,by simp,h⟩
  ·refine ⟨0,?_,by simp,h3⟩
   simp only
   rw [others_rel h3.u _ _ (fun i=>laying_rel h3.u i)]
omit hz he in
theorem laysF_rel (hf:∀x,(f x).length≤300) (fr:Nat) (l:List (Int×ρ)):∀(i:Nat) (s:Rp) (k:Dk) (c:X.Nd ρ),RelU f s k c→c.cnt+l.length≤3030 →
  (laysF fr (l.map fun x=>(x.1,f x.2)) i s k).1=(X.laysF fr l i c).1∧RelU f (laysF fr (l.map fun x=>(x.1,f x.2)) i s k).2.1 (laysF fr (l.map fun x=>(x.1,f x.2)) i s k).2.2 (X.laysF fr l i c).2:=by
 induction l with
 | nil=>intro i s k c h _;exact ⟨rfl,h⟩
 | cons a l ih =>
  intro i s k c h hc
  obtain ⟨t,rec⟩:=a
  simp only [List.length_cons] at hc
  have hL:(s.log.map Ent.term).getD (fr+i) 0=X.lastT c.log (fr+i+1):=by
   rw [←lastT_rel (f:=f),←h.log]
   unfold lastTermM
   rw [if_neg (by omega)];rfl
  obtain ⟨s1,k1,e1,h1⟩:=place_rel h (fr+i) (t,rec) (hf rec) (by omega)
  have e3:lgX f (t,rec)=⟨t,f rec⟩:=rfl
  rw [e3] at e1
  simp only [List.map_cons]
  unfold laysF X.laysF
  simp only [hL,h.len,h.term,h.agreed]
  rw [e1]
  have hr:=hf rec
  by_cases g1:fr+i<c.log.length∧X.lastT c.log (fr+i+1)=t
  ·rw [if_pos g1,if_pos g1];exact ih _ _ _ _ h (by omega)
  ·rw [if_neg g1,if_neg g1]
   by_cases g2:t<1∨c.term<t∨fr+i<c.agreed
   ·rw [if_pos g2,if_pos (.inr g2)];exact ⟨rfl,h⟩
   ·rw [if_neg g2,if_neg (by rintro (g | g);omega;exact g2 g)]
    simp only [if_true]
    exact ih _ _ _ _ h1 (by show c.cnt+1+l.length≤3030;omega)
omit hz he in
theorem zip_rel (N:List Int) (B:List ρ):N.zip (B.map f)=(N.zip B).map fun x=>(x.1,f x.2):=by
 rw [List.zip_map_right];rfl
omit he in
theorem lays_rel (hf:∀x,(f x).length≤300) (h:Rel f s k c) (hc:c.cnt≤3000) (m:X.Ms ρ) (hb:m.B.length≤20) (hbad:(X.lays z c m).2.bad=false):RelP f (laysM s k (mgX f m)) (X.lays z c m):=by
 have h1:Rel f { s with ticks:=0 } k { c with ticks:=0 } :=
  ⟨h.u.mk2 h.u.own h.u.n h.u.term h.u.choice h.u.log h.u.agreed h.u.many h.u.leads h.u.votes h.u.next h.u.mat rfl h.u.clock h.u.heard rfl rfl rfl rfl,h.syn⟩
 have hfit:fitsM { s with ticks:=0 } (m.N.getD 1 0) (m.N.getD 2 0)=X.fits { c with ticks:=0 } (m.N.getD 1 0) (m.N.getD 2 0):=by
  unfold fitsM X.fits
  simp only [h.u.log,lastT_rel,List.length_map]
 have hzl:((m.N.drop 4).zip m.B).length≤20:=by rw [List.length_zip];omega
 obtain ⟨l1,l2⟩:=laysF_rel hf (m.N.getD 1 0).toNat ((m.N.drop 4).zip m.B) 0 _ k _ h1.u (by show c.cnt+_≤3030;omega)
 rw [←zip_rel] at l1 l2
 revert hbad
 have hA:∀(s2:Rp) (k2:Dk) (c2:X.Nd ρ),Rel f s2 k2 c2→RelP f (([sayM (agreeM s2 (min (m.N.getD 3 0) (((m.N.getD 1 0).toNat+m.B.length:Nat):Int)).toNat) m.frm 4 [(agreeM s2 (min (m.N.getD 3 0) (((m.N.getD 1 0).toNat+m.B.length:Nat):Int)).toNat).term,1,(((m.N.getD 1 0).toNat+m.B.length:Nat):Int)]],agreeM s2 (min (m.N.getD 3 0) (((m.N.getD 1 0).toNat+m.B.length:Nat):Int)).toNat,k2)) ([X.say (X.agree z c2 (min (m.N.getD 3 0) (((m.N.getD 1 0).toNat+m.B.length:Nat):Int)).toNat) m.frm 4 [(X.agree z c2 (min (m.N.getD 3 0) (((m.N.getD 1 0).toNat+m.B.length:Nat):Int)).toNat).term,1,(((m.N.getD 1 0).toNat+m.B.length:Nat):Int)]],X.agree z c2 (min (m.N.getD 3 0) (((m.N.getD 1 0).toNat+m.B.length:Nat):Int)).toNat):=by
  intro s2 k2 c2 h2
  have h3:=agree_rel hz h2 (min (m.N.getD 3 0) (((m.N.getD 1 0).toNat+m.B.length:Nat):Int)).toNat
  refine relp_one h3 ?_
  rw [h3.u.term]
  exact say_rel h3.u _ _ _
 unfold laysM X.lays
 have hBl:(mgX f m).B.length=m.B.length:=List.length_map _
 rw [hBl]
 have hP:(!((mgX f m).N.length==4+m.B.length)||decide ((mgX f m).N.getD 1 0<0)||((mgX f m).N.getD 0 0==s.term&&s.leads))=(!(m.N.length==4+m.B.length)||decide (m.N.getD 1 0<0)||(m.N.getD 0 0==c.term&&c.leads)):=by rw [h.u.term,h.u.leads];rfl
 rw [hP]
 by_cases q1:(!(m.N.length==4+m.B.length)||decide (m.N.getD 1 0<0)||(m.N.getD 0 0==c.term&&c.leads))=true
 ·rw [if_pos q1,if_pos q1];intro _;exact relp_nil h
 ·rw [if_neg q1,if_neg q1]
  by_cases q2:m.N.getD 0 0<c.term
  ·rw [if_pos q2,if_pos (show (mgX f m).N.getD 0 0<s.term by rw [h.u.term];exact q2)]
   intro _
   exact relp_one h (by rw [h.u.term];exact say_rel h.u _ _ _)
  ·rw [if_neg q2,if_neg (show ¬(mgX f m).N.getD 0 0<s.term by rw [h.u.term];exact q2)]
   simp only
   by_cases q3:X.fits { c with ticks:=0 } (m.N.getD 1 0) (m.N.getD 2 0)=true
   ·rw [if_pos q3,if_pos (show fitsM { s with ticks:=0 } ((mgX f m).N.getD 1 0) ((mgX f m).N.getD 2 0)=true from hfit.trans q3)]
    have l1':(laysF ((mgX f m).N.getD 1 0).toNat (((mgX f m).N.drop 4).zip (mgX f m).B) 0 { s with ticks:=0 } k).1=(X.laysF (m.N.getD 1 0).toNat ((m.N.drop 4).zip m.B) 0 { c with ticks:=0 }).1:=l1
    by_cases q4:(X.laysF (m.N.getD 1 0).toNat ((m.N.drop 4).zip m.B) 0 { c with ticks:=0 }).1=true
    ·rw [if_pos q4,if_pos (l1'.trans q4)]
     intro _
     obtain ⟨s2,k2,e2,h2⟩:=sync_rel l2
     have e2':syncM (laysF ((mgX f m).N.getD 1 0).toNat (((mgX f m).N.drop 4).zip (mgX f m).B) 0 { s with ticks:=0 } k).2.1 (laysF ((mgX f m).N.getD 1 0).toNat (((mgX f m).N.drop 4).zip (mgX f m).B) 0 { s with ticks:=0 } k).2.2=(s2,k2):=e2
     by_cases hb0:m.B.length=0
     ·rw [if_pos hb0,if_neg (by omega)]
      have hB:m.B=[]:=List.eq_nil_of_length_eq_zero hb0
      have hl0:(laysF ((mgX f m).N.getD 1 0).toNat (((mgX f m).N.drop 4).zip (mgX f m).B) 0 { s with ticks:=0 } k)=(true,{ s with ticks:=0 },k):=by
       unfold mgX;simp [hB,laysF]
      have hl1:(X.laysF (m.N.getD 1 0).toNat ((m.N.drop 4).zip m.B) 0 { c with ticks:=0 })=(true,{ c with ticks:=0 }):=by
       simp [hB,X.laysF]
      rw [hl0,hl1]
      exact hA _ _ _ h1
     ·rw [if_neg hb0,e2',if_neg (by rw [h2.u.done];simp)]
      exact hA _ _ _ h2
    ·rw [if_neg q4]
     intro hx;cases hx
   ·rw [if_neg q3,if_neg (show ¬fitsM { s with ticks:=0 } ((mgX f m).N.getD 1 0) ((mgX f m).N.getD 2 0)=true from fun x=>q3 (hfit.symm.trans x))]
    intro _
    refine relp_one h1 ?_
    rw [h.u.term,h.u.len]
    exact say_rel h1.u _ _ _
omit he in
theorem answered_rel (h:Rel f s k c) (m:X.Ms ρ):RelP f ((answeredM s (mgX f m)).1,(answeredM s (mgX f m)).2,k) (X.answered z c m):=by
 have h1:Rel f { s with next:=s.next.set m.frm.toNat (max (m.N.getD 2 0).toNat (s.mat.getD m.frm.toNat 0))} k { c with next:=c.next.set m.frm.toNat (max (m.N.getD 2 0).toNat (c.mat.getD m.frm.toNat 0))} :=
  ⟨h.u.mk2 h.u.own h.u.n h.u.term h.u.choice h.u.log h.u.agreed h.u.many h.u.leads h.u.votes (by show s.next.set _ _=_;rw [h.u.next,h.u.mat]) h.u.mat h.u.ticks h.u.clock h.u.heard rfl rfl rfl rfl,h.syn⟩
 have h2:Rel f { s with mat:=s.mat.set (mgX f m).frm.toNat ((mgX f m).N.getD 2 0).toNat,next:=s.next.set (mgX f m).frm.toNat (max ((mgX f m).N.getD 2 0).toNat (s.next.getD (mgX f m).frm.toNat 0))} k { c with mat:=c.mat.set m.frm.toNat (m.N.getD 2 0).toNat,next:=c.next.set m.frm.toNat (max (m.N.getD 2 0).toNat (c.next.getD m.frm.toNat 0))} :=
  ⟨h.u.mk2 h.u.own h.u.n h.u.term h.u.choice h.u.log h.u.agreed h.u.many h.u.leads h.u.votes (by show s.next.set _ _=_;rw [h.u.next];rfl) (by show s.mat.set _ _=_;rw [h.u.mat];rfl) h.u.ticks h.u.clock h.u.heard rfl rfl rfl rfl,h.syn⟩
 obtain ⟨g1,g2⟩:=settle_rel hz h2
 have hl:=g2.u.len
 have hnx:=g2.u.next
 have hlw:=laying_rel g2.u m.frm.toNat
 have hlo:=others_rel g2.u _ _ (fun i=>laying_rel g2.u i)
 have hlay:=laying_rel h1.u m.frm.toNat
 unfold answeredM X.answered
 have hP:(!s.leads || !((mgX f m).N.getD 0 0==s.term) || !((mgX f m).N.length==3)||decide ((mgX f m).N.getD 2 0<0)||decide ((s.log.length:Int)<(mgX f m).N.getD 2 0))=(!c.leads || !(m.N.getD 0 0==c.term) || !(m.N.length==3)||decide (m.N.getD 2 0<0)||decide ((c.log.length:Int)<m.N.getD 2 0)):=by rw [h.u.leads,h.u.term,h.u.len];rfl
 rw [hP]
 by_cases q1:(!c.leads || !(m.N.getD 0 0==c.term) || !(m.N.length==3)||decide (m.N.getD 2 0<0)||decide ((c.log.length:Int)<m.N.getD 2 0))=true
 ·rw [if_pos q1,if_pos q1];exact relp_nil h
 ·rw [if_neg q1,if_neg q1]
  simp only
  by_cases q2:m.N.getD 1 0=0
  ·rw [if_pos q2,if_pos (show (mgX f m).N.getD 1 0=0 from q2)]
   by_cases q3:c.next.getD m.frm.toNat 0≤(m.N.getD 2 0).toNat
   ·rw [if_pos q3,if_pos (show s.next.getD (mgX f m).frm.toNat 0≤((mgX f m).N.getD 2 0).toNat by rw [h.u.next];exact q3)]
    exact relp_nil h
   ·rw [if_neg q3,if_neg (show ¬s.next.getD (mgX f m).frm.toNat 0≤((mgX f m).N.getD 2 0).toNat by rw [h.u.next];exact q3)]
    exact relp_one h1 hlay
  ·rw [if_neg q2,if_neg (show ¬(mgX f m).N.getD 1 0=0 from q2)]
   by_cases q3:(m.N.getD 2 0).toNat≤c.mat.getD m.frm.toNat 0
   ·rw [if_pos q3,if_pos (show ((mgX f m).N.getD 2 0).toNat≤s.mat.getD (mgX f m).frm.toNat 0 by rw [h.u.mat];exact q3)]
    exact relp_nil h
   ·rw [if_neg q3,if_neg (show ¬((mgX f m).N.getD 2 0).toNat≤s.mat.getD (mgX f m).frm.toNat 0 by rw [h.u.mat];exact q3)]
    by_cases q4:(X.settle z { c with mat:=c.mat.set m.frm.toNat (m.N.getD 2 0).toNat,next:=c.next.set m.frm.toNat (max (m.N.getD 2 0).toNat (c.next.getD m.frm.toNat 0))}).1=true
    ·rw [if_pos q4,if_pos (g1.trans q4)]
     exact ⟨hlo,g2⟩
    ·rw [if_neg q4,if_neg (fun x=>q4 (g1.symm.trans x))]
     by_cases q5:(X.settle z { c with mat:=c.mat.set m.frm.toNat (m.N.getD 2 0).toNat,next:=c.next.set m.frm.toNat (max (m.N.getD 2 0).toNat (c.next.getD m.frm.toNat 0))}).2.next.getD m.frm.toNat 0<(X.settle z { c with mat:=c.mat.set m.frm.toNat (m.N.getD 2 0).toNat,next:=c.next.set m.frm.toNat (max (m.N.getD 2 0).toNat (c.next.getD m.frm.toNat 0))}).2.log.length
     ·rw [if_pos q5,if_pos]
      ·exact relp_one g2 hlw
      ·have:=q5;rw [←hl,←hnx] at this;exact this
     ·rw [if_neg q5,if_neg]
      ·exact relp_nil g2
      ·intro x;apply q5;rw [←hl,←hnx];exact x
end
end
end Go.Proofs.Ytnicaicjgaoolaa
namespace Go.Proofs.Ytnicaicjgaoolaa
set_option maxRecDepth 20000
section
variable {ρ:Type} {f:ρ→List UInt8} {z:ρ→Bool} {e:ρ} {s:Rp} {k:Dk} {c:X.Nd ρ}
theorem getIn_rel (hz:∀x,z x=(f x).isEmpty) (he:f e=[]) (hf:∀x,(f x).length≤300) (h:Rel f s k c) (hc:c.cnt≤3000) (m:X.Ms ρ) (hb:m.B.length≤20) (hbad:(X.getIn z e c m).2.bad=false) :
  RelP f (if (mgX f m).kind=1 then askedM s k (mgX f m) else if (mgX f m).kind=2 then votedM s k (mgX f m) else if (mgX f m).kind=3 then laysM s k (mgX f m) else if (mgX f m).kind=4 then ((answeredM s (mgX f m)).1,(answeredM s (mgX f m)).2,k)
   else if (mgX f m).kind=5 then (if (mgX f m).N.length=3 then ([],{ s with heard:=s.heard.set (mgX f m).frm.toNat ((s.clock:Int),(mgX f m).N.getD 1 0,(mgX f m).N.getD 2 0)},k) else ([],s,k)) else ([],s,k)) (X.getIn z e c m):=by
 unfold X.getIn at hbad ⊢
 refine ifP rfl (fun _=>asked_rel h (by omega) m) fun q1=>?_
 rw [if_neg q1] at hbad
 refine ifP rfl (fun _=>voted_rel hz he h (by omega) m) fun q2=>?_
 rw [if_neg q2] at hbad
 refine ifP rfl (fun q3=>?_) fun q3=>?_
 ·rw [if_pos q3] at hbad
  exact lays_rel hz hf h hc m hb hbad
 ·refine ifP rfl (fun _=>answered_rel hz h m) fun _=>?_
  refine ifP rfl (fun _=>?_) fun _=>relp_nil h
  refine ifP rfl (fun _=>?_) fun _=>relp_nil h
  refine relp_nil ⟨h.u.mk2 h.u.own h.u.n h.u.term h.u.choice h.u.log h.u.agreed h.u.many h.u.leads h.u.votes h.u.next h.u.mat h.u.ticks h.u.clock ?_ rfl rfl rfl rfl,h.syn⟩
  show s.heard.set _ _=_
  rw [h.u.heard,h.u.clock];rfl
theorem get_rel (hz:∀x,z x=(f x).isEmpty) (he:f e=[]) (hf:∀x,(f x).length≤300) (h:Rel f s k c) (hc:c.cnt≤2990) (m:X.Ms ρ) (hb:m.B.length≤20) (hbad:(X.get z e c m).2.bad=false):RelP f (getM s k (mgX f m)) (X.get z e c m):=by
 have hbm:badM s (mgX f m)=X.badm c m:=by
  unfold badM X.badm
  rw [h.u.own,h.u.n];rfl
 unfold getM
 unfold X.get at hbad ⊢
 simp only
 rw [h.u.done_same.2,hbm]
 by_cases q1:X.badm c m=true
 ·rw [if_pos q1,if_pos (by rw [q1];simp)];exact relp_nil h
 ·rw [if_neg q1] at hbad ⊢
  rw [if_neg (by rw [h.u.done];simpa using q1)]
  by_cases q2:c.term<m.N.getD 0 0
  ·rw [if_pos q2] at hbad ⊢
   rw [if_pos (show s.term<(mgX f m).N.getD 0 0 by rw [h.u.term];exact q2)]
   obtain ⟨s1,k1,e1,h1⟩:=enter_rel h.u (m.N.getD 0 0) (-1) (by omega)
   have e2:enterM s k ((mgX f m).N.getD 0 0) (-1)=(true,s1,k1):=e1
   rw [e2]
   exact getIn_rel hz he hf h1 (by show c.cnt+1≤3000;omega) m hb hbad
  ·rw [if_neg q2] at hbad ⊢
   rw [if_neg (show ¬s.term<(mgX f m).N.getD 0 0 by rw [h.u.term];exact q2)]
   exact getIn_rel hz he hf h (by omega) m hb hbad
theorem jOf_all (l:List (List UInt8)):jOf l (F.frames l).length=l.length:=by
 induction l with
 | nil=>rfl
 | cons a l ih =>
  unfold jOf
  rw [F.frames_cons,List.length_append,F.frameF_len,if_pos (by omega),List.length_cons]
  rw [show 12+a.length+(F.frames l).length - (12+a.length)=(F.frames l).length from by omega,ih]
theorem crash_synced (h:Synced k) (keep:Int):crashD k keep={ k with off:=true }:=by
 unfold crashD crashF
 cases hk:k.file with
 | none=>rfl
 | some p =>
  obtain ⟨l,q⟩:=p
  have:=h l q hk
  subst this
  have e:stays l l.length keep=l.length:=by unfold stays;omega
  simp only
  rw [e,List.take_length]
theorem back_rel (h:Rel f s k c) (hu:UpI s k) (keep:Int):Rel f (backS s.own s.n s (crashD k keep)) (backK s (crashD k keep)) (X.back c):=by
 have hd:=hu.crash keep
 rw [crash_synced h.syn] at hd ⊢
 have hfil:filB { k with off:=true }=F.frames s.wl.recs:=hu.wf.fil
 have hR:backR s { k with off:=true }=s.wl.recs:=by
  unfold backR
  rw [hfil,jOf_all,List.take_length]
 obtain ⟨ns,g1,g2,g3⟩:=hu.nok.ex
 obtain ⟨m1,m2,m3⟩:=g3 h.u.done
 obtain ⟨ht,hr,htot,ns',hb,hnd,hk',hns⟩:=back_ok hd
 rw [hR] at hnd hb
 have hlike:=replay_like (rpNew s.own s.n (k.lives+1) s.wl.recs) (rp00 s.n) rfl rfl rfl rfl ns
 have hN:(s.wl.recs).map noteD=ns:=by
  rw [g1]
  refine replay_noteD (rp00 s.n) ns g2 ?_ (Int.le_refl _) (by show (0:Int)≤_;decide) hu.wf.n5
  have e1:ns.length=ns'.length:=by
   have:=congrArg List.length (g1.symm.trans hb);simpa using this
  show 0+_≤_
  omega
 have hS:backS s.own s.n s { k with off:=true }=replay (rpNew s.own s.n (k.lives+1) s.wl.recs) ns:=by
  unfold backS;rw [hR,hN]
 obtain ⟨t,ch,g,er⟩:=replay_same (rpNew s.own s.n (k.lives+1) s.wl.recs) ns
 rw [er] at hlike hS
 have ht':t=c.term:=(hlike.1.trans m1).trans h.u.term
 have hc':ch=c.choice:=(hlike.2.1.trans m2).trans h.u.choice
 have hg':g=c.log.map (lgX f):=(hlike.2.2.1.trans m3).trans h.u.log
 have hK:backK s { k with off:=true }={ k with off:=false,lives:=k.lives+1 }:=by
  unfold backK cleanD onD
  rw [hR]
  cases hf:k.file with
  | none=>simp [hf]
  | some p =>
   obtain ⟨l,q⟩:=p
   have e1:l=F.frames s.wl.recs:=by
    have:=hfil;unfold filB at this;simp only [hf] at this;exact this
   have e2:=h.syn l q hf
   simp only [hf]
   rw [e2,e1,Nat.min_self]
 rw [hS,hK]
 have ho:=h.u.own
 have hn:=h.u.n
 refine ⟨⟨ho,hn,ht',hc',hg',rfl,rfl,rfl,?_,?_,?_,rfl,rfl,?_,rfl,rfl,rfl,rfl,rfl,h.u.room,h.u.tot⟩,h.syn⟩
 ·show List.replicate s.n false=List.replicate c.n false;rw [hn]
 ·show List.replicate s.n 0=List.replicate c.n 0;rw [hn]
 ·show List.replicate s.n 0=List.replicate c.n 0;rw [hn]
 ·show List.replicate s.n (0,0,0)=List.replicate c.n (0,0,0);rw [hn]
end
end Go.Proofs.Ytnicaicjgaoolaa
