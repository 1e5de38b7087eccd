/-
  What the proof of the law leans on: contracts of the program's functions, one behind another. No condition.
-/
import Derived.Test.YtnicaicjgaoolaaT7
import Derived.Test.YtnicaicjgaoolaaT5
import Derived.Test.YtnicaicjgaoolaaT3
set_option linter.unusedVariables false
set_option linter.unusedSimpArgs false
namespace Go.Proofs.Ytnicaicjgaoolaa
structure Ent where
 term:Int
 bs:List UInt8
structure Msg where
 frm:Int
 dst:Int
 kind:Int
 N:List Int
 B:List (List UInt8)
structure Rp where
 own:Nat
 n:Nat
 wl:Wl
 lives:Int
 done:Bool
 term:Int
 choice:Int
 log:List Ent
 agreed:Nat
 many:Nat
 leads:Bool
 votes:List Bool
 next:List Nat
 mat:List Nat
 ticks:Nat
 clock:Nat
 heard:List (Int×Int×Int)
/-- Done: what r.done is behind it -/
def doneM (s:Rp) (k:Dk):Bool:=s.done||(k.off || !(k.lives==s.lives))
def doneS (s:Rp) (k:Dk):Rp:={ s with done:=doneM s k }
def writeM (s:Rp) (k:Dk) (b:List UInt8):Rp×Dk :=
 if s.done then (s,k) else ({ s with wl:=(addW s.wl k b).2.1,done := !((addW s.wl k b).1==0)},(addW s.wl k b).2.2)
def syncM (s:Rp) (k:Dk):Rp×Dk :=
 if s.done then (s,k) else ({ s with wl:=(syncW s.wl k).2.1,done := !((syncW s.wl k).1==0)},(syncW s.wl k).2.2)
def noteT (term who:Int):List UInt8:=be8s [1,term,who]
def noteE (place:Nat) (x:Ent):List UInt8:=be8s [2,(place:Int),x.term]++(be8 (x.bs.length:Int)++x.bs)
/-- two notes' steps: none: it did not go through -/
def enterM (s:Rp) (k:Dk) (term who:Int):Bool×Rp×Dk :=
 let p:=writeM s k (noteT term who)
 if p.1.done then (false,p.1,p.2) else
 let q:=syncM p.1 p.2
 if q.1.done then (false,q.1,q.2) else
 (true,{ q.1 with leads:=q.1.leads && !decide (q.1.term<term),term:=term,choice:=who },q.2)
def placeM (s:Rp) (k:Dk) (place:Nat) (x:Ent):Bool×Rp×Dk :=
 let p:=writeM s k (noteE place x)
 if p.1.done then (false,p.1,p.2) else (true,{ p.1 with log:=p.1.log.take place++[x]},p.2)
def putM (s:Rp) (k:Dk) (x:Ent):Bool×Rp×Dk :=
 let p:=placeM s k s.log.length x
 if p.1 then (let q:=syncM p.2.1 p.2.2;(!q.1.done,q.1,q.2)) else p
def lastTermM (l:List Ent) (n:Nat):Int:=if n=0 then 0 else ((l.map Ent.term).getD (n - 1) 0)
def mostM (s:Rp) (n:Nat):Bool:=decide (s.n<2*n)
def recs (l:List Ent):List (List UInt8):=(l.filter fun x => !x.bs.isEmpty).map Ent.bs
def agreeM (s:Rp) (n:Nat):Rp:=if s.agreed<n then { s with agreed:=n,many:=s.many+(recs ((s.log.take n).drop s.agreed)).length } else s
def openM (s:Rp):Nat:=((s.log.drop s.agreed).filter fun x=>x.term==s.term && !x.bs.isEmpty).length
def sayM (s:Rp) (dst kind:Int) (N:List Int):Msg:=⟨(s.own:Int),dst,kind,N,[]⟩
def othersM (s:Rp) (f:Nat→Msg):List Msg:=((List.range s.n).filter fun i=>i != s.own).map f
def layingM (s:Rp) (dst:Nat):Msg :=
 let from_:=s.next.getD dst 0
 let batch:=(s.log.drop from_).take 20
 ⟨(s.own:Int),(dst:Int),3,[s.term,(from_:Int),lastTermM s.log from_,(s.agreed:Int)]++batch.map Ent.term,batch.map Ent.bs⟩
def telling (s:Rp) (kind:Int) (dst:Nat):Msg:=sayM s dst kind [s.term,(s.log.length:Int),lastTermM s.log s.log.length]
def countGe (l:List Nat) (k:Nat):Nat:=(l.filter fun m=>decide (k≤m)).length
/-- from above: the first place of its own term that a majority has -/
def settleF (s:Rp):Nat→Option Nat
 | 0=>none
 | k+1=>if s.agreed<k+1∧lastTermM s.log (k+1)=s.term then (if mostM s (countGe s.mat (k+1)) then some (k+1) else settleF s k) else none
def settleM (s:Rp):Bool×Rp :=
 let s1:={ s with mat:=s.mat.set s.own s.log.length }
 match settleF s1 s.log.length with
 | some k=>(true,agreeM s1 k)
 | none=>(false,s1)
def chosenM (s:Rp):Bool:=mostM s (s.votes.filter id).length
def leadM (s:Rp) (k:Dk):List Msg×Rp×Dk :=
 let s1:={ s with leads:=true,next:=List.replicate s.n s.log.length,mat:=List.replicate s.n 0 }
 let p:=putM s1 k ⟨s1.term,[]⟩
 if p.1 then (let s2:=(settleM p.2.1).2;(othersM s2 (layingM s2),s2,p.2.2)) else ([],p.2)
def standM (s:Rp) (k:Dk):List Msg×Rp×Dk :=
 if 1099511627776≤s.term then ([],s,k) else
 let p:=enterM s k (s.term+1) (s.own:Int)
 if p.1 then
  let s1:={ p.2.1 with ticks:=0,votes:=(List.replicate s.n false).set s.own true }
  if chosenM s1 then leadM s1 p.2.2 else (othersM s1 (telling s1 1),s1,p.2.2)
 else ([],p.2)
/-- is this rival, if it was heard of lately, better? -/
def better (s:Rp) (i:Nat) (x:Int×Int×Int):Bool :=
 !(x.1==0||decide (4<(s.clock:Int) - x.1)) &&
 (decide (lastTermM s.log s.log.length<x.2.2)||(x.2.2==lastTermM s.log s.log.length&&(decide ((s.log.length:Int)<x.2.1)||(x.2.1==(s.log.length:Int)&&decide (i<s.own)))))
def bestM (s:Rp):Bool:=(List.range s.heard.length).all fun i => !better s i (s.heard.getD i (0,0,0))
def tickM (s0:Rp) (k:Dk):List Msg×Rp×Dk :=
 let s:=doneS s0 k
 if s.done then ([],s,k) else
 let s1:={ s with clock:=s.clock+1 }
 if s1.leads then (othersM s1 (layingM s1),s1,k) else
 let s2:={ s1 with ticks:=s1.ticks+1 }
 if 8≤s2.ticks∧bestM s2=true then standM s2 k
 else if 4≤s2.ticks then (othersM s2 (telling s2 5),s2,k)
 else ([],s2,k)
def submitM (s0:Rp) (k:Dk) (rec:List UInt8):List Msg×Int×Rp×Dk :=
 if rec.length=0 then ([],1,s0,k) else if 8000<rec.length then ([],2,s0,k) else
 let s:=doneS s0 k
 if s.done then ([],10,s,k) else if !s.leads then ([],15,s,k) else
 if 200≤openM s∨2000≤s.many then ([],9,s,k) else
 let p:=putM s k ⟨s.term,rec⟩
 if p.1 then (let s2:=(settleM p.2.1).2;(othersM s2 (layingM s2),0,s2,p.2.2)) else ([],10,p.2)
def askedM (s:Rp) (k:Dk) (m:Msg):List Msg×Rp×Dk :=
 if m.N.length=3 then
  let own:=lastTermM s.log s.log.length
  let behind:=decide (own<m.N.getD 2 0)||(m.N.getD 2 0==own&&decide ((s.log.length:Int)≤m.N.getD 1 0))
  let yes:=(m.N.getD 0 0==s.term)&&behind&&(s.choice == -1||s.choice==m.frm)
  if yes then
   if s.choice == -1 then
    let p:=enterM s k s.term m.frm
    if p.1 then (let s1:={ p.2.1 with ticks:=0 };([sayM s1 m.frm 2 [s1.term,1]],s1,p.2.2)) else ([],p.2)
   else (let s1:={ s with ticks:=0 };([sayM s1 m.frm 2 [s1.term,1]],s1,k))
  else ([sayM s m.frm 2 [s.term,0]],s,k)
 else ([],s,k)
def votedM (s:Rp) (k:Dk) (m:Msg):List Msg×Rp×Dk :=
 if s.leads || !(m.N.getD 0 0==s.term) || !(s.choice==(s.own:Int)) || !(m.N.getD 1 0==1) then ([],s,k) else
 let s1:={ s with votes:=s.votes.set m.frm.toNat true }
 if chosenM s1 then leadM s1 k else ([],s1,k)
def fitsM (s:Rp) (from_ term:Int):Bool:=decide (from_≤(s.log.length:Int))&&(lastTermM s.log from_.toNat==term)
/-- entries are laid, one by one; false: one did not go -/
def laysF (from_:Nat):List (Int×List UInt8)→Nat→Rp→Dk→Bool×Rp×Dk
 | [],_,s,k=>(true,s,k)
 | (t,rec)::l,i,s,k =>
  if from_+i<s.log.length∧(s.log.map Ent.term).getD (from_+i) 0=t then laysF from_ l (i+1) s k
  else if 8000<rec.length∨t<1∨s.term<t∨from_+i<s.agreed then (false,s,k)
  else
   let p:=placeM s k (from_+i) ⟨t,rec⟩
   if p.1 then laysF from_ l (i+1) p.2.1 p.2.2 else (false,p.2)
def laysM (s:Rp) (k:Dk) (m:Msg):List Msg×Rp×Dk :=
 if !(m.N.length==4+m.B.length)||decide (m.N.getD 1 0<0)||(m.N.getD 0 0==s.term&&s.leads) then ([],s,k) else
 if m.N.getD 0 0<s.term then ([sayM s m.frm 4 [s.term,0,0]],s,k) else
 let s1:={ s with ticks:=0 }
 if fitsM s1 (m.N.getD 1 0) (m.N.getD 2 0) then
  let from_:=(m.N.getD 1 0).toNat
  let p:=laysF from_ ((m.N.drop 4).zip m.B) 0 s1 k
  if p.1 then
   let q:=if m.B.length=0 then p.2 else syncM p.2.1 p.2.2
   if 0<m.B.length∧q.1.done=true then ([],q) else
   let s2:=agreeM q.1 (min (m.N.getD 3 0) ((from_+m.B.length:Nat):Int)).toNat
   ([sayM s2 m.frm 4 [s2.term,1,((from_+m.B.length:Nat):Int)]],s2,q.2)
  else ([],p.2)
 else ([sayM s1 m.frm 4 [s1.term,0,min (s1.log.length:Int) (max (m.N.getD 1 0 - 1) 0)]],s1,k)
def answeredM (s:Rp) (m:Msg):List Msg×Rp :=
 if !s.leads || !(m.N.getD 0 0==s.term) || !(m.N.length==3)||decide (m.N.getD 2 0<0)||decide ((s.log.length:Int)<m.N.getD 2 0) then ([],s) else
 let who:=m.frm.toNat
 let k:=(m.N.getD 2 0).toNat
 if m.N.getD 1 0=0 then
  if s.next.getD who 0≤k then ([],s) else
  let s1:={ s with next:=s.next.set who (max k (s.mat.getD who 0))}
  ([layingM s1 who],s1)
 else if k≤s.mat.getD who 0 then ([],s) else
 let s1:={ s with mat:=s.mat.set who k,next:=s.next.set who (max k (s.next.getD who 0))}
 let p:=settleM s1
 if p.1 then (othersM p.2 (layingM p.2),p.2)
 else if p.2.next.getD who 0<p.2.log.length then ([layingM p.2 who],p.2)
 else ([],p.2)
def badM (s:Rp) (m:Msg):Bool := !(m.dst==(s.own:Int))||m.frm==(s.own:Int)||decide (m.frm<0)||decide ((s.n:Int)≤m.frm)||decide (m.N.length<2)||decide (m.N.getD 0 0<1)||decide (1099511627776<m.N.getD 0 0)
def getM (s0:Rp) (k0:Dk) (m:Msg):List Msg×Rp×Dk :=
 let s1:=doneS s0 k0
 if s1.done||badM s1 m then ([],s1,k0) else
 let p:=if s1.term<m.N.getD 0 0 then enterM s1 k0 (m.N.getD 0 0) (-1) else (true,s1,k0)
 if p.1 then
  let s:=p.2.1
  let k:=p.2.2
  if m.kind=1 then askedM s k m
  else if m.kind=2 then votedM s k m
  else if m.kind=3 then laysM s k m
  else if m.kind=4 then ((answeredM s m).1,(answeredM s m).2,k)
  else if m.kind=5 then (if m.N.length=3 then ([],{ s with heard:=s.heard.set m.frm.toNat ((s.clock:Int),m.N.getD 1 0,m.N.getD 2 0)},k) else ([],s,k))
  else ([],s,k)
 else ([],p.2)
def agreedM (s:Rp):List (List UInt8):=recs (s.log.take s.agreed)
end Go.Proofs.Ytnicaicjgaoolaa
namespace Go.Proofs.Ytnicaicjgaoolaa
open Go.RowKit Go.ChangeMaps Go.WideMaps Go.Maps
set_option maxRecDepth 20000
def boolsA (l:List Bool):Array Value:=(l.map Value.bool).toArray
def natsA (l:List Nat):Array Value:=(l.map fun (n:Nat)=>Value.int .i64 (n:Int)).toArray
def rivA (x:Int×Int×Int):List Value:=[.int .i64 x.1,.int .i64 x.2.1,.int .i64 x.2.2]
def heardA (l:List (Int×Int×Int)):Array Value:=(l.flatMap rivA).toArray
def rowV (g n:Nat):Value:=.slice (some ⟨g,0,none⟩) n n
structure EntAt (w:World) (A:List Nat) (cur:Array Value) (i:Nat) (x:Ent):Prop where
 ex:∃u,cur[2*i]? = some (.int .i64 x.term)∧cur[2*i+1]? = some u∧Imm w A u x.bs
/-- an entries' row: it never turns -/
def IsE (w:World) (A:List Nat) (v:Value) (es:List Ent):Prop :=
 (v = .slice none 0 0∧es=[])∨∃g c cur,v = .slice (some ⟨g,0,none⟩) es.length c∧es.length≤c∧c≤9223372036854775807∧g∉A∧w.heap[g]? = some (.cells cur 68 (0,0))∧∀i,(h:i<es.length)→EntAt w A cur i es[i]
theorem IsE.step {w w':World} {A A' S:List Nat} {v:Value} {es:List Ent} (h:IsE w A v es) (ho:Only S w w') (hS:∀b∈S,b∈A) (he:Ext A A' w):IsE w' A' v es:=by
 rcases h with ⟨rfl,rfl⟩ | ⟨g,c,cur,rfl,h1,h2,h3,h4,h5⟩
 ·exact .inl ⟨rfl,rfl⟩
 ·refine .inr ⟨g,c,cur,rfl,h1,h2,fun hm=>?_,ho.keeps h4 (fun hm=>h3 (hS g hm)),fun i hi=>?_⟩
  ·rcases he g hm with h6 | h6
   ·exact h3 h6
   ·have:=lt_of_heap h4;omega
  ·obtain ⟨u,k1,k2,k3⟩:=h5 i hi
   exact ⟨u,k1,k2,k3.step ho hS he⟩
theorem IsE.below {w w':World} {A:List Nat} {v:Value} {es:List Ent} (h:IsE w A v es) (hb:Below w.heap.size w w'):IsE w' A v es :=
 h.step (Only.ofBelow hb []) (fun b hb=>by cases hb) (Ext.refl _ _)
def rpCells (d l:Nat) (s:Rp) (vl:Value) (gv gn gm gh:Nat):Array Value :=
 #[.int .i64 (s.own:Int),.int .i64 (s.n:Int),.pointer (some ⟨d,0,none⟩),.pointer (some ⟨l,0,none⟩),.int .i64 s.lives,.bool s.done,.int .i64 s.term,.int .i64 s.choice,vl,.int .i64 (s.agreed:Int),.int .i64 (s.many:Int),.bool s.leads,
  rowV gv s.n,rowV gn s.n,rowV gm s.n,.int .i64 (s.ticks:Int),.int .i64 (s.clock:Int),rowV gh s.n]
structure NdC (w:World) (A D L R:List Nat) (r d l:Nat) (s:Rp) (k:Dk) (vl:Value) (gv gn gm gh:Nat):Prop where
 wd:WD w A D L l d s.wl k
 cell:w.heap[r]? = some (.cells (rpCells d l s vl gv gn gm gh) 66 (0,0))
 log:IsE w A vl s.log
 votes:w.heap[gv]? = some (.cells (boolsA s.votes) 4 (0,0))
 next:w.heap[gn]? = some (.cells (natsA s.next) 3 (0,0))
 mat:w.heap[gm]? = some (.cells (natsA s.mat) 3 (0,0))
 heard:w.heap[gh]? = some (.cells (heardA s.heard) 76 (0,0))
 nm:gn≠gm
 rR:r∈R
 vR:gv∈R
 nR:gn∈R
 mR:gm∈R
 hR:gh∈R
 dRD:Dis R D
 dRL:Dis R L
 rA:∀b∈R,b∈A
/-- a node: disk, log, replica; what lies at X may turn; A: whatever may turn -/
structure Nd (w:World) (A X:List Nat) (r d l:Nat) (s:Rp) (k:Dk):Prop where
 ex:∃D L R vl gv gn gm gh,NdC w A D L R r d l s k vl gv gn gm gh∧∀b,b∈X↔b∈D∨b∈L∨b∈R
/-- what a call turns -/
structure Mv (A A' X X':List Nat) (w w':World):Prop where
 mv:Moves X X' w w'
 ext:Ext A A' w
 sub:∀b∈A,b∈A'
theorem Mv.refl (A X:List Nat) (w:World):Mv A A X X w w:=⟨Moves.refl _ _,Ext.refl _ _,fun b h=>h⟩
theorem Mv.trans {A A' A'' X X' X'':List Nat} {w w' w'':World} (h:Mv A A' X X' w w') (k:Mv A' A'' X' X'' w' w''):Mv A A'' X X'' w w'' :=
 ⟨h.mv.trans k.mv,fun b hb=>by
  rcases k.ext b hb with h1 | h1
  ·exact h.ext b h1
  ·exact .inr (Nat.le_trans h.mv.only.size h1),fun b hb=>k.sub b (h.sub b hb)⟩
theorem Mv.only {A X S:List Nat} {w w':World} (h:Only S w w') (hs:∀b∈S,b∈X):Mv A A X X w w':=⟨Moves.of_only (h.mono hs),Ext.refl _ _,fun b h=>h⟩
theorem Mv.below {A X:List Nat} {w w':World} (h:Below w.heap.size w w'):Mv A A X X w w':=⟨Moves.of_below h,Ext.refl _ _,fun b h=>h⟩
section
variable {w w':World} {A A' X X' D L R:List Nat} {r d l:Nat} {s s':Rp} {k k':Dk} {vl:Value} {gv gn gm gh:Nat}
theorem NdC.disL (h:NdC w A D L R r d l s k vl gv gn gm gh) {S:List Nat} (hS:∀b∈S,b∈R):∀b∈L,b∉S:=fun b hb hs=>h.dRL b (hS b hs) hb
theorem NdC.disD (h:NdC w A D L R r d l s k vl gv gn gm gh) {S:List Nat} (hS:∀b∈S,b∈R):∀b∈D,b∉S:=fun b hb hs=>h.dRD b (hS b hs) hb
/-- what turns only blocks of R leaves log and disk -/
theorem NdC.wd_only (h:NdC w A D L R r d l s k vl gv gn gm gh) {S:List Nat} (ho:Only S w w') (hS:∀b∈S,b∈R):WD w' A D L l d s.wl k :=
 ⟨h.wd.wl.keep ho (h.disL hS) (fun b hb=>h.rA b (hS b hb)) (Ext.refl _ _),h.wd.dk.keep ho (h.disD hS),h.wd.dis,h.wd.dA,h.wd.lA,fun b hb=>Nat.lt_of_lt_of_le (h.wd.alt b hb) ho.size⟩
theorem NdC.rlt (h:NdC w A D L R r d l s k vl gv gn gm gh):∀b∈R,b<w.heap.size:=fun b hb=>h.wd.alt b (h.rA b hb)
/-- rows of other elements lie in other blocks -/
theorem heap_ne {a b:Nat} {ca cb:Array Value} {ta tb:TypeId} {fa fb:Nat×Nat} (ha:w.heap[a]? = some (.cells ca ta fa)) (hb:w.heap[b]? = some (.cells cb tb fb)) (ht:ta≠tb):a≠b:=fun e=>by
 subst e;rw [ha] at hb;cases hb;exact ht rfl
/-- only the struct's own cells turn -/
theorem NdC.only_r (h:NdC w A D L R r d l s k vl gv gn gm gh) (ho:Only [r] w w') (hc:w'.heap[r]? = some (.cells (rpCells d l s' vl gv gn gm gh) 66 (0,0)))
  (h1:s'.wl=s.wl) (h2:s'.log=s.log) (h3:s'.votes=s.votes) (h4:s'.next=s.next) (h5:s'.mat=s.mat) (h6:s'.heard=s.heard):NdC w' A D L R r d l s' k vl gv gn gm gh:=by
 have hS:∀b∈[r],b∈R:=fun b hb=>by rw [List.mem_singleton.1 hb];exact h.rR
 refine ⟨by rw [h1];exact h.wd_only ho hS,hc,by rw [h2];exact h.log.step ho (fun b hb=>h.rA b (hS b hb)) (Ext.refl _ _),?_,?_,?_,?_,h.nm,h.rR,h.vR,h.nR,h.mR,h.hR,h.dRD,h.dRL,h.rA⟩
 ·rw [h3];exact ho.keeps h.votes (by simpa using heap_ne h.votes h.cell (by decide))
 ·rw [h4];exact ho.keeps h.next (by simpa using heap_ne h.next h.cell (by decide))
 ·rw [h5];exact ho.keeps h.mat (by simpa using heap_ne h.mat h.cell (by decide))
 ·rw [h6];exact ho.keeps h.heard (by simpa using heap_ne h.heard h.cell (by decide))
theorem NdC.nd (h:NdC w A D L R r d l s k vl gv gn gm gh) (hX:∀b,b∈X↔b∈D∨b∈L∨b∈R):Nd w A X r d l s k:=⟨⟨D,L,R,vl,gv,gn,gm,gh,h,hX⟩⟩
theorem NdC.below (h:NdC w A D L R r d l s k vl gv gn gm gh) (hb:Below w.heap.size w w'):NdC w' A D L R r d l s k vl gv gn gm gh:=by
 have ho:=Only.ofBelow hb []
 exact ⟨h.wd.below hb,ho.keeps h.cell (by simp),h.log.below hb,ho.keeps h.votes (by simp),ho.keeps h.next (by simp),ho.keeps h.mat (by simp),ho.keeps h.heard (by simp),h.nm,h.rR,h.vR,h.nR,h.mR,h.hR,h.dRD,h.dRL,h.rA⟩
theorem Nd.below (h:Nd w A X r d l s k) (hb:Below w.heap.size w w'):Nd w' A X r d l s k:=by
 obtain ⟨D,L,R,vl,gv,gn,gm,gh,h,hX⟩:=h
 exact (h.below hb).nd hX
theorem below_drewN (w:World) (q:Nat):Below w.heap.size w (w.drewN q):=⟨rfl,rfl,rfl,Nat.le_refl _,fun _ _=>rfl⟩
theorem Nd.rX (h:Nd w A X r d l s k):r∈X:=by
 obtain ⟨D,L,R,vl,gv,gn,gm,gh,h,hX⟩:=h
 exact (hX _).2 (.inr (.inr h.rR))
theorem Nd.xA (h:Nd w A X r d l s k):∀b∈X,b∈A:=by
 obtain ⟨D,L,R,vl,gv,gn,gm,gh,h,hX⟩:=h
 intro b hb
 rcases (hX b).1 hb with h1 | h1 | h1
 ·exact h.wd.dA b h1
 ·exact h.wd.lA b h1
 ·exact h.rA b h1
theorem Nd.alt (h:Nd w A X r d l s k):∀b∈A,b<w.heap.size:=by
 obtain ⟨D,L,R,vl,gv,gn,gm,gh,h,hX⟩:=h
 exact h.wd.alt
/-- a call of the log's turned blocks of the log's and the disk's -/
theorem NdC.wal {D' L':List Nat} {wl':Wl} {k':Dk} (h:NdC w A D L R r d l s k vl gv gn gm gh) (hw:WD w' A' D' L' l d wl' k') (hm:Moves (D++L) (D'++L') w w') (he:Ext A A' w) (hs:∀b∈A,b∈A') :
  NdC w' A' D' L' R r d l { s with wl:=wl' } k' vl gv gn gm gh∧Dis R (D++L):=by
 have hd:Dis R (D++L):=fun b hb hx=>by
  rcases List.mem_append.1 hx with h1 | h1
  ·exact h.dRD b hb h1
  ·exact h.dRL b hb h1
 have hd':Dis R (D'++L'):=(hm.dis hd.symm h.rlt).symm
 have hk:∀{g:Nat} {o:Obj},g∈R→w.heap[g]? = some o→w'.heap[g]? = some o:=fun hg ho=>hm.only.keeps ho (hd _ hg)
 refine ⟨⟨hw,hk h.rR h.cell,h.log.step hm.only (fun b hb=>?_) he,hk h.vR h.votes,hk h.nR h.next,hk h.mR h.mat,hk h.hR h.heard,h.nm,h.rR,h.vR,h.nR,h.mR,h.hR,fun b hb hx=>hd' b hb (by simp [hx]),fun b hb hx=>hd' b hb (by simp [hx]),fun b hb=>hs b (h.rA b hb)⟩,hd⟩
 rcases List.mem_append.1 hb with h1 | h1
 ·exact h.wd.dA b h1
 ·exact h.wd.lA b h1
end
end Go.Proofs.Ytnicaicjgaoolaa
namespace Go.Proofs.Ytnicaicjgaoolaa
open Go.RowKit Go.ChangeMaps Go.WideMaps Go.Maps
set_option maxRecDepth 20000
section
variable (p:String)
def z03x0:Oper:=⟨some 3,.move (.tmp 0),39,p,#[],none⟩
def z03x1:Oper:=⟨some 4,.move (.tmp 0),39,p,#[],none⟩
def z03x2:Oper:=⟨some 5,.nilCheck (.tmp 4),0,p,#[⟨1,.data⟩],none⟩
def z03x3:Oper:=⟨some 6,.fieldAddr 66 (.tmp 5) 5,0,p,#[⟨2,.data⟩],none⟩
def z03x4:Oper:=⟨some 7,.load 4 (.tmp 6),4,p,#[⟨3,.data⟩],none⟩
def z03x5:Oper:=⟨some 8,.move (.tmp 7),4,p,#[⟨4,.data⟩],none⟩
def z03x6:Oper:=⟨some 9,.move (.tmp 0),39,p,#[⟨5,.guard⟩],some (5,false)⟩
def z03x7:Oper:=⟨some 10,.nilCheck (.tmp 9),0,p,#[⟨6,.data⟩,⟨5,.guard⟩],some (5,false)⟩
def z03x8:Oper:=⟨some 11,.fieldAddr 66 (.tmp 10) 2,0,p,#[⟨7,.data⟩,⟨5,.guard⟩],some (5,false)⟩
def z03x9:Oper:=⟨some 12,.load 54 (.tmp 11),54,p,#[⟨8,.data⟩,⟨5,.guard⟩],some (5,false)⟩
def z03x10:Oper:=⟨some 13,.call { callee:=Callee.value (Operand.func 32),args:=#[.tmp 12],argTypes:=#[54]},4,p,#[⟨9,.data⟩,⟨5,.chain⟩,⟨5,.guard⟩],some (5,false)⟩
def z03x11:Oper:=⟨some 14,.unOp UnOp.not 4 (.tmp 13),4,p,#[⟨10,.data⟩,⟨5,.guard⟩],some (5,false)⟩
def z03x12:Oper:=⟨some 15,.pick (.tmp 8) (Operand.const (Value.bool true)) (.tmp 14),4,p,#[⟨5,.data⟩,⟨11,.data⟩],none⟩
def z03x13:Oper:=⟨some 16,.move (.tmp 15),4,p,#[⟨12,.data⟩,⟨10,.chain⟩],none⟩
def z03x14:Oper:=⟨some 17,.move (.tmp 0),39,p,#[⟨13,.guard⟩],some (13,false)⟩
def z03x15:Oper:=⟨some 18,.nilCheck (.tmp 17),0,p,#[⟨14,.data⟩,⟨13,.guard⟩],some (13,false)⟩
def z03x16:Oper:=⟨some 19,.fieldAddr 66 (.tmp 18) 2,0,p,#[⟨15,.data⟩,⟨13,.guard⟩],some (13,false)⟩
def z03x17:Oper:=⟨some 20,.load 54 (.tmp 19),54,p,#[⟨16,.data⟩,⟨13,.guard⟩],some (13,false)⟩
def z03x18:Oper:=⟨some 21,.call { callee:=Callee.value (Operand.func 33),args:=#[.tmp 20],argTypes:=#[54]},3,p,#[⟨17,.data⟩,⟨13,.chain⟩,⟨13,.guard⟩],some (13,false)⟩
def z03x19:Oper:=⟨some 22,.move (.tmp 0),39,p,#[⟨13,.guard⟩],some (13,false)⟩
def z03x20:Oper:=⟨some 23,.nilCheck (.tmp 22),0,p,#[⟨19,.data⟩,⟨13,.guard⟩],some (13,false)⟩
def z03x21:Oper:=⟨some 24,.fieldAddr 66 (.tmp 23) 4,0,p,#[⟨20,.data⟩,⟨13,.guard⟩],some (13,false)⟩
def z03x22:Oper:=⟨some 25,.load 3 (.tmp 24),3,p,#[⟨21,.data⟩,⟨13,.guard⟩],some (13,false)⟩
def z03x23:Oper:=⟨some 26,.binOp BinOp.neq 3 (.tmp 21) (.tmp 25) 3,4,p,#[⟨18,.data⟩,⟨22,.data⟩,⟨13,.guard⟩],some (13,false)⟩
def z03x24:Oper:=⟨some 27,.pick (.tmp 16) (Operand.const (Value.bool true)) (.tmp 26),4,p,#[⟨13,.data⟩,⟨23,.data⟩],none⟩
def z03x25:Oper:=⟨some 28,.nilCheck (.tmp 3),0,p,#[⟨0,.data⟩,⟨0,.phase⟩,⟨1,.phase⟩,⟨2,.phase⟩,⟨3,.phase⟩,⟨4,.phase⟩,⟨5,.phase⟩,⟨6,.phase⟩,⟨7,.phase⟩,⟨8,.phase⟩,⟨9,.phase⟩,⟨10,.phase⟩,⟨11,.phase⟩,⟨12,.phase⟩,⟨13,.phase⟩,⟨14,.phase⟩,⟨15,.phase⟩,⟨16,.phase⟩,⟨17,.phase⟩,⟨18,.phase⟩,⟨19,.phase⟩,⟨20,.phase⟩,⟨21,.phase⟩,⟨22,.phase⟩,⟨23,.phase⟩,⟨24,.phase⟩],none⟩
def z03x26:Oper:=⟨some 29,.fieldAddr 66 (.tmp 28) 5,0,p,#[⟨25,.data⟩,⟨0,.phase⟩,⟨1,.phase⟩,⟨2,.phase⟩,⟨3,.phase⟩,⟨4,.phase⟩,⟨5,.phase⟩,⟨6,.phase⟩,⟨7,.phase⟩,⟨8,.phase⟩,⟨9,.phase⟩,⟨10,.phase⟩,⟨11,.phase⟩,⟨12,.phase⟩,⟨13,.phase⟩,⟨14,.phase⟩,⟨15,.phase⟩,⟨16,.phase⟩,⟨17,.phase⟩,⟨18,.phase⟩,⟨19,.phase⟩,⟨20,.phase⟩,⟨21,.phase⟩,⟨22,.phase⟩,⟨23,.phase⟩,⟨24,.phase⟩],none⟩
def z03x27:Oper:=⟨none,.store 4 (.tmp 29) (.tmp 27),0,p,#[⟨26,.data⟩,⟨24,.data⟩,⟨18,.chain⟩,⟨0,.phase⟩,⟨1,.phase⟩,⟨2,.phase⟩,⟨3,.phase⟩,⟨4,.phase⟩,⟨5,.phase⟩,⟨6,.phase⟩,⟨7,.phase⟩,⟨8,.phase⟩,⟨9,.phase⟩,⟨10,.phase⟩,⟨11,.phase⟩,⟨12,.phase⟩,⟨13,.phase⟩,⟨14,.phase⟩,⟨15,.phase⟩,⟨16,.phase⟩,⟨17,.phase⟩,⟨18,.phase⟩,⟨19,.phase⟩,⟨20,.phase⟩,⟨21,.phase⟩,⟨22,.phase⟩,⟨23,.phase⟩,⟨24,.phase⟩],none⟩
end
attribute [go_sem,reducible] z03x0 z03x1 z03x2 z03x3 z03x4 z03x5 z03x6 z03x7 z03x8 z03x9 z03x10 z03x11 z03x12 z03x13 z03x14 z03x15 z03x16 z03x17 z03x18 z03x19 z03x20 z03x21 z03x22 z03x23 z03x24 z03x25 z03x26 z03x27
theorem z03xm0 {p:Prop} (h:p:=by
 refine hK.out _ _ hHeld (fun hHeld=>?_)
 clear hK K
 refine qsp ?_
 refine qtl 23 (z03x23 _) rfl ?_
 refine qtl 24 (z03x24 _) rfl ?_
 refine qtl 25 (z03x25 _) rfl ?_
 refine qtl 26 (z03x26 _) rfl ?_
 refine qr1 27 (z03x27 _) rfl fun K hK=>?_
 unfold z03x27
 go_simp
 refine hK.out _ _ trivial (fun hHeld=>?_)
 clear hK K
 refine qsp ?_
 refine qdn ?_
 go_wp2_with fail
 go_ret
 exact HFIN.out _ _ rfl):p:=h
theorem z03xm1 {p:Prop} (h:p:=by
 go_simp
 refine hK.out _ _ hHeld (fun hHeld=>?_)
 clear hK K
 refine qsp ?_
 refine qr1 18 (z03x18 _) rfl fun K hK=>?_
 unfold z03x18
 go_simp
 refine (lives_any (HD.out.below (below_drewN _ _))).mono ?_
 rintro e wa ⟨rfl,rfl⟩;(try rw [e1.out])
 go_wp2_with fail
 exact z03xm0):p:=h
section
variable {w:World} {A X:List Nat} {r d l:Nat} {s:Rp} {k:Dk}
theorem setc {w:World} {r:Nat} {cs:Array Value} {t:TypeId} (h:w.heap[r]? = some (.cells cs t (0,0))) (q:Nat) (i:Nat) (v:Value):((w.drewN q).setCell ⟨r,i,none⟩ v).heap[r]? = some (.cells (cs.setIfInBounds i v) t (0,0)):=heap_set (w:=w.drewN q) h i v
set_option maxHeartbeats 1000000 in
theorem done_any (h:Nd w A X r d l s k):Calls Try.prog 18 #[.pointer (some ⟨r,0,none⟩)] w fun e w'=>e = .returned (.bool (doneM s k))∧Nd w' A X r d l (doneS s k) k∧Only [r] w w':=by
 obtain ⟨D,L,R,vl,gv,gn,gm,gh,h,hX⟩:=h
 have HFIN:Hid (∀(b:Bool) (q:Nat),b=doneM s k→(Ending.returned (.bool b) = .returned (.bool (doneM s k))∧Nd ((w.drewN q).setCell ⟨r,5,none⟩ (.bool b)) A X r d l (doneS s k) k∧Only [r] w ((w.drewN q).setCell ⟨r,5,none⟩ (.bool b)))):=Lib.hid (fun b q hb=>by
  have ho:Only [r] w ((w.drewN q).setCell ⟨r,5,none⟩ (.bool b)):=((Only.refl _ _).drewN q).setCell (by simp) _
  refine ⟨by rw [hb],(h.only_r (s':=doneS s k) ho ?_ rfl rfl rfl rfl rfl rfl).nd hX,ho⟩
  rw [setc h.cell,hb]
  rfl)
 have HD:=Lib.hid h.wd.dk
 have hc2:w.cell? ⟨r,2,none⟩=some (.pointer (some ⟨d,0,none⟩)):=by rw [cell_heap h.cell];rfl
 have hc4:w.cell? ⟨r,4,none⟩=some (.int .i64 s.lives):=by rw [cell_heap h.cell];rfl
 have hc5:w.cell? ⟨r,5,none⟩=some (.bool s.done):=by rw [cell_heap h.cell];rfl
 have hz:=free_heap h.cell 5
 clear h hX
 unfold doneM at *
 cases hdn:s.done with
 | true =>
  rw [hdn] at hc5 HFIN
  simp only [Bool.true_or] at HFIN
  go_enter Try.func18,Try.ntmps18
  go_upto_region 1 with (fail)
  refine wp_region_held_drew (S:=fun _=>True) (by kernel_rfl) trivial (fun hHeld=>?_)
  refine qtl 0 (z03x0 _) rfl ?_
  refine qtl 1 (z03x1 _) rfl ?_
  refine qtl 2 (z03x2 _) rfl ?_
  refine qtl 3 (z03x3 _) rfl ?_
  refine qr1 4 (z03x4 _) rfl fun K hK=>?_
  unfold z03x4
  go_simp
  refine hK.out _ _ hHeld (fun hHeld=>?_)
  clear hK K
  refine qsp ?_
  refine qtl 5 (z03x5 _) rfl ?_
  refine qtu 6 (z03x6 _) rfl ?_
  refine qtu 7 (z03x7 _) rfl ?_
  refine qtu 8 (z03x8 _) rfl ?_
  refine qtu 9 (z03x9 _) rfl ?_
  refine qtu 10 (z03x10 _) rfl ?_
  refine qtu 11 (z03x11 _) rfl ?_
  refine qtl 12 (z03x12 _) rfl ?_
  refine qtl 13 (z03x13 _) rfl ?_
  refine qtu 14 (z03x14 _) rfl ?_
  refine qtu 15 (z03x15 _) rfl ?_
  refine qtu 16 (z03x16 _) rfl ?_
  refine qtu 17 (z03x17 _) rfl ?_
  refine qtu 18 (z03x18 _) rfl ?_
  refine qtu 19 (z03x19 _) rfl ?_
  refine qtu 20 (z03x20 _) rfl ?_
  refine qtu 21 (z03x21 _) rfl ?_
  refine qtu 22 (z03x22 _) rfl ?_
  refine qtu 23 (z03x23 _) rfl ?_
  refine qtl 24 (z03x24 _) rfl ?_
  refine qtl 25 (z03x25 _) rfl ?_
  refine qtl 26 (z03x26 _) rfl ?_
  refine qr1 27 (z03x27 _) rfl fun K hK=>?_
  unfold z03x27
  go_simp
  refine hK.out _ _ trivial (fun hHeld=>?_)
  clear hK K
  refine qsp ?_
  refine qdn ?_
  go_wp2_with fail
  go_ret
  exact HFIN.out _ _ rfl
 | false =>
  rw [hdn] at hc5 HFIN
  simp only [Bool.false_or] at HFIN
  cases hof:k.off with
  | true =>
   rw [hof] at HFIN
   simp only [Bool.true_or] at HFIN
   have HOF:=Lib.hid hof
   have e1:Hid ((!k.off)=false):=Lib.hid (by rw [hof];rfl)
   clear hof hdn
   go_enter Try.func18,Try.ntmps18
   go_upto_region 1 with (fail)
   refine wp_region_held_drew (S:=fun _=>True) (by kernel_rfl) trivial (fun hHeld=>?_)
   refine qtl 0 (z03x0 _) rfl ?_
   refine qtl 1 (z03x1 _) rfl ?_
   refine qtl 2 (z03x2 _) rfl ?_
   refine qtl 3 (z03x3 _) rfl ?_
   refine qr1 4 (z03x4 _) rfl fun K hK=>?_
   unfold z03x4
   go_simp
   refine hK.out _ _ hHeld (fun hHeld=>?_)
   clear hK K
   refine qsp ?_
   refine qtl 5 (z03x5 _) rfl ?_
   refine qtl 6 (z03x6 _) rfl ?_
   refine qtl 7 (z03x7 _) rfl ?_
   refine qtl 8 (z03x8 _) rfl ?_
   refine qr1 9 (z03x9 _) rfl fun K hK=>?_
   unfold z03x9
   go_simp
   refine hK.out _ _ hHeld (fun hHeld=>?_)
   clear hK K
   refine qsp ?_
   refine qr1 10 (z03x10 _) rfl fun K hK=>?_
   unfold z03x10
   go_simp
   refine (power_any (HD.out.below (below_drewN _ _))).mono ?_
   rintro e wa ⟨rfl,rfl⟩;(try rw [e1.out])
   go_wp2_with fail
   refine hK.out _ _ hHeld (fun hHeld=>?_)
   clear hK K
   refine qsp ?_
   refine qtl 11 (z03x11 _) rfl ?_
   refine qtl 12 (z03x12 _) rfl ?_
   refine qtl 13 (z03x13 _) rfl ?_
   refine qtu 14 (z03x14 _) rfl ?_
   refine qtu 15 (z03x15 _) rfl ?_
   refine qtu 16 (z03x16 _) rfl ?_
   refine qtu 17 (z03x17 _) rfl ?_
   refine qtu 18 (z03x18 _) rfl ?_
   refine qtu 19 (z03x19 _) rfl ?_
   refine qtu 20 (z03x20 _) rfl ?_
   refine qtu 21 (z03x21 _) rfl ?_
   refine qtu 22 (z03x22 _) rfl ?_
   refine qtu 23 (z03x23 _) rfl ?_
   refine qtl 24 (z03x24 _) rfl ?_
   refine qtl 25 (z03x25 _) rfl ?_
   refine qtl 26 (z03x26 _) rfl ?_
   refine qr1 27 (z03x27 _) rfl fun K hK=>?_
   unfold z03x27
   go_simp
   refine hK.out _ _ trivial (fun hHeld=>?_)
   clear hK K
   refine qsp ?_
   refine qdn ?_
   go_wp2_with fail
   go_ret
   exact HFIN.out _ _ rfl
  | false =>
   rw [hof] at HFIN
   simp only [Bool.false_or] at HFIN
   have e1:Hid ((!k.off)=true):=Lib.hid (by rw [hof];rfl)
   clear hof hdn
   have hne:(k.lives != s.lives) = !(k.lives==s.lives):=rfl
   generalize (k.lives==s.lives)=eq at *
   go_enter Try.func18,Try.ntmps18
   go_upto_region 1 with (fail)
   refine wp_region_held_drew (S:=fun _=>True) (by kernel_rfl) trivial (fun hHeld=>?_)
   refine qtl 0 (z03x0 _) rfl ?_
   refine qtl 1 (z03x1 _) rfl ?_
   refine qtl 2 (z03x2 _) rfl ?_
   refine qtl 3 (z03x3 _) rfl ?_
   refine qr1 4 (z03x4 _) rfl fun K hK=>?_
   unfold z03x4
   go_simp
   refine hK.out _ _ hHeld (fun hHeld=>?_)
   clear hK K
   refine qsp ?_
   refine qtl 5 (z03x5 _) rfl ?_
   refine qtl 6 (z03x6 _) rfl ?_
   refine qtl 7 (z03x7 _) rfl ?_
   refine qtl 8 (z03x8 _) rfl ?_
   refine qr1 9 (z03x9 _) rfl fun K hK=>?_
   unfold z03x9
   go_simp
   refine hK.out _ _ hHeld (fun hHeld=>?_)
   clear hK K
   refine qsp ?_
   refine qr1 10 (z03x10 _) rfl fun K hK=>?_
   unfold z03x10
   go_simp
   refine (power_any (HD.out.below (below_drewN _ _))).mono ?_
   rintro e wa ⟨rfl,rfl⟩;(try rw [e1.out])
   go_wp2_with fail
   refine hK.out _ _ hHeld (fun hHeld=>?_)
   clear hK K
   refine qsp ?_
   refine qtl 11 (z03x11 _) rfl ?_
   refine qtl 12 (z03x12 _) rfl ?_
   refine qtl 13 (z03x13 _) rfl ?_
   refine qtl 14 (z03x14 _) rfl ?_
   refine qtl 15 (z03x15 _) rfl ?_
   refine qtl 16 (z03x16 _) rfl ?_
   refine qtl 19 (z03x19 _) rfl ?_
   refine qtl 20 (z03x20 _) rfl ?_
   refine qtl 21 (z03x21 _) rfl ?_
   refine qr2 17 22 (z03x17 _) (z03x22 _) rfl rfl (fun K hK=>?_) fun K hK=>?_
   ·unfold z03x17
    go_simp
    refine hK.out _ _ hHeld (fun hHeld=>?_)
    clear hK K
    refine qsp ?_
    refine qr2 18 22 (z03x18 _) (z03x22 _) rfl rfl (fun K hK=>?_) fun K hK=>?_
    ·unfold z03x18
     go_simp
     refine (lives_any (HD.out.below (below_drewN _ _))).mono ?_
     rintro e wa ⟨rfl,rfl⟩;(try rw [e1.out])
     go_wp2_with fail
     refine hK.out _ _ hHeld (fun hHeld=>?_)
     clear hK K
     refine qsp ?_
     refine qr1 22 (z03x22 _) rfl fun K hK=>?_
     unfold z03x22
     go_simp
     exact z03xm0
    ·unfold z03x22
     exact z03xm1
   ·unfold z03x22
    go_simp
    refine hK.out _ _ hHeld (fun hHeld=>?_)
    clear hK K
    refine qsp ?_
    refine qr1 17 (z03x17 _) rfl fun K hK=>?_
    unfold z03x17
    exact z03xm1
end
end Go.Proofs.Ytnicaicjgaoolaa
namespace Go.Proofs.Ytnicaicjgaoolaa
open Go.RowKit Go.ChangeMaps Go.WideMaps Go.Maps
set_option maxRecDepth 20000
def filB (k:Dk):List UInt8:=match k.file with | none=>[] | some (b,_)=>b
theorem total_filB (k:Dk):k.total=(filB k).length:=by
 unfold Dk.total filB
 cases k.file with
 | none=>rfl
 | some p=>rfl
structure Wf (s:Rp) (k:Dk):Prop where
 n1:1≤s.n
 n5:s.n≤5
 own:s.own<s.n
 vl:s.votes.length=s.n
 nl:s.next.length=s.n
 ml:s.mat.length=s.n
 hl:s.heard.length=s.n
 room:k.room≤1048576
 tot:(k.total:Int)≤k.room
 fil:filB k=F.frames s.wl.recs
 logl:s.log.length≤s.wl.recs.length
 agr:s.agreed≤s.log.length
 man:s.many=(recs (s.log.take s.agreed)).length
 lead:s.leads=true→∀i,s.next.getD i 0≤s.log.length∧s.mat.getD i 0≤s.log.length
 term0:0≤s.term
 termM:s.term≤1099511627776
 cho : -1≤s.choice
 choM:s.choice<s.n
 recl:∀x∈s.log,x.bs.length≤8000
 tick:s.ticks≤s.clock
 hrd:∀x∈s.heard,0≤x.1∧x.1≤(s.clock:Int)
theorem frames_many (l:List (List UInt8)):12*l.length≤(F.frames l).length:=by
 induction l with
 | nil=>simp [F.frames]
 | cons a l ih =>
  have e:F.frames (a::l)=F.frameF a++F.frames l:=by simp [F.frames]
  rw [e,List.length_append,F.frameF_len,List.length_cons]
  omega
theorem Wf.fl {s:Rp} {k:Dk} (h:Wf s k):(F.frames s.wl.recs).length≤1048576:=by
 have h1:=h.room;have h2:=h.tot
 rw [total_filB,h.fil] at h2
 omega
theorem Wf.big {s:Rp} {k:Dk} (h:Wf s k):s.wl.recs.length≤87381:=by
 have:=h.fl;have:=frames_many s.wl.recs;omega
theorem Wf.logb {s:Rp} {k:Dk} (h:Wf s k):s.log.length≤87381:=Nat.le_trans h.logl h.big
structure NdP (w w':World) (A X:List Nat) (r d l:Nat) (s':Rp) (k':Dk):Prop where
 ex:∃A' X',Nd w' A' X' r d l s' k'∧Mv A A' X X' w w'
section
variable {w w':World} {A A' X X':List Nat} {r d l:Nat} {s s':Rp} {k k':Dk}
theorem Nd.ndp (h:Nd w' A' X' r d l s' k') (m:Mv A A' X X' w w'):NdP w w' A X r d l s' k':=⟨⟨A',X',h,m⟩⟩
theorem Nd.here (h:Nd w' A X r d l s' k') (ho:Only [r] w w') (hr:r∈X):NdP w w' A X r d l s' k':=⟨⟨A,X,h,Mv.only ho (by simpa using hr)⟩⟩
theorem iff_wal {D' L' R:List Nat}:∀b,b∈D'++(L'++R)↔b∈D'∨b∈L'∨b∈R:=fun b=>by simp
theorem wal_mv {D L D' L' R:List Nat} (hX:∀b,b∈X↔b∈D∨b∈L∨b∈R) (hm:Moves (D++L) (D'++L') w w') (he:Ext A A' w) (hs:∀b∈A,b∈A'):Mv A A' X (D'++(L'++R)) w w':=by
 have hin:∀b,b∈D++L→b∈X:=fun b hb=>(hX b).2 (by
  rcases List.mem_append.1 hb with hb | hb
  ·exact .inl hb
  ·exact .inr (.inl hb))
 refine ⟨⟨hm.only.mono hin,fun b hb=>?_,fun b hb=>?_⟩,he,hs⟩
 ·simp only [List.mem_append] at hb
  rcases hb with hb | hb | hb
  ·exact (hm.gr b (by simp [hb])).imp (hin b) id
  ·exact (hm.gr b (by simp [hb])).imp (hin b) id
  ·exact .inl ((hX b).2 (.inr (.inr hb)))
 ·rcases (hX b).1 hb with h1 | h1 | h1
  ·have:=hm.sub b (by simp [h1]);simp only [List.mem_append] at this ⊢;rcases this with h3 | h3<;>simp [h3]
  ·have:=hm.sub b (by simp [h1]);simp only [List.mem_append] at this ⊢;rcases this with h3 | h3<;>simp [h3]
  ·simp [h1]
set_option maxHeartbeats 1000000 in
theorem write_any (h:Nd w A X r d l s k) (ao:Option Addr) (n c:Nat) (b:List UInt8) (hb:Imm w A (.slice ao n c) b) (hn:n≤100000)
  (hbig:s.wl.recs.length≤1000000) (hroom:k.room≤1048576) (h0:(k.total:Int)≤k.room) (hfl:(F.frames s.wl.recs).length≤1048576) :
  Calls Try.prog 50 #[.pointer (some ⟨r,0,none⟩),.slice ao n c] w fun e w'=>e = .returned (.bool (!(writeM s k b).1.done))∧NdP w w' A X r d l (writeM s k b).1 (writeM s k b).2:=by
 obtain ⟨D,L,R,vl,gv,gn,gm,gh,h,hX⟩:=h
 have HXr:=Lib.hid ((hX r).2 (.inr (.inr h.rR)))
 have hc3:w.cell? ⟨r,3,none⟩=some (.pointer (some ⟨l,0,none⟩)):=by rw [cell_heap h.cell];rfl
 have hc5:w.cell? ⟨r,5,none⟩=some (.bool s.done):=by rw [cell_heap h.cell];rfl
 have hz:=free_heap h.cell 5
 have HX:=Lib.hid hX
 cases hdn:s.done with
 | true =>
  rw [hdn] at hc5
  have HW:Hid (writeM s k b=(s,k)):=Lib.hid (by unfold writeM;rw [if_pos hdn])
  have HDN:=Lib.hid hdn
  have HFIN:Hid (NdP w (w.setCell ⟨r,5,none⟩ (.bool true)) A X r d l s k):=Lib.hid (by
   have ho:Only [r] w (w.setCell ⟨r,5,none⟩ (.bool true)):=(Only.refl _ _).setCell (by simp) _
   refine ((h.only_r (s':=s) ho ?_ rfl rfl rfl rfl rfl rfl).nd hX).here ho HXr.out
   rw [heap_set h.cell,←hdn]
   rfl)
  clear h hX hb hdn
  go_enter Try.func50,Try.ntmps50
  go_wp2_with fail
  go_ret
  rw [HW.out]
  exact ⟨by rw [HDN.out];rfl,HFIN.out⟩
 | false =>
  rw [hdn] at hc5
  have HW:Hid (writeM s k b=({ s with wl:=(addW s.wl k b).2.1,done := !((addW s.wl k b).1==0)},(addW s.wl k b).2.2)):=Lib.hid (by unfold writeM;rw [if_neg (by rw [hdn];decide)])
  have HA:=Lib.hid (add_any h.wd ao n c b hb hbig hroom h0 hfl hn)
  have H:=Lib.hid h
  clear h hX hb hdn
  rw [HW.out]
  generalize addW s.wl k b=q at *
  obtain ⟨e0,wl',k'⟩:=q
  simp only at *
  have HNE:Hid ((e0 != 0) = !(e0==0)):=Lib.hid rfl
  generalize hee:(!(e0==0))=eb at *
  go_enter Try.func50,Try.ntmps50
  go_wp2_with fail
  refine HA.out.mono ?_
  rintro e w2 ⟨rfl,A2,D2,L2,hw2,hm2,he2,hs2⟩
  obtain ⟨h2,hd2⟩:=H.out.wal hw2 hm2 he2 hs2
  have H2:=Lib.hid h2
  have hz2:=free_heap h2.cell 5
  have hc52:w2.cell? ⟨r,5,none⟩=some (.bool s.done):=by rw [cell_heap h2.cell];rfl
  have HM:Hid (Mv A A2 X (D2++(L2++R)) w w2):=Lib.hid (wal_mv HX.out hm2 he2 hs2)
  clear h2 hw2 hm2 he2 hs2 hd2 HA H
  have hr2:Hid (Nd (w2.setCell ⟨r,5,none⟩ (.bool eb)) A2 (D2++(L2++R)) r d l { s with wl:=wl',done:=eb } k'):=Lib.hid (by
   have ho:Only [r] w2 (w2.setCell ⟨r,5,none⟩ (.bool eb)):=(Only.refl _ _).setCell (by simp) _
   refine (H2.out.only_r (s':={ s with wl:=wl',done:=eb }) ho ?_ rfl rfl rfl rfl rfl rfl).nd iff_wal
   rw [heap_set H2.out.cell]
   rfl)
  have HMF:Hid (Mv A A2 X (D2++(L2++R)) w (w2.setCell ⟨r,5,none⟩ (.bool eb))):=Lib.hid (HM.out.trans (Mv.only (S:=[r]) ((Only.refl _ _).setCell (by simp) _) (fun b hb=>by rw [List.mem_singleton.1 hb];simp [H2.out.rR])))
  clear H2 HM
  have hne:(e0 != 0)=eb:=HNE.out
  go_wp2_with fail
  go_ret
  exact ⟨rfl,hr2.out.ndp HMF.out⟩
set_option maxHeartbeats 1000000 in
theorem sync_any (h:Nd w A X r d l s k) :
  Calls Try.prog 47 #[.pointer (some ⟨r,0,none⟩)] w fun e w'=>e = .returned (.bool (!(syncM s k).1.done))∧NdP w w' A X r d l (syncM s k).1 (syncM s k).2:=by
 obtain ⟨D,L,R,vl,gv,gn,gm,gh,h,hX⟩:=h
 have HXr:=Lib.hid ((hX r).2 (.inr (.inr h.rR)))
 have hc3:w.cell? ⟨r,3,none⟩=some (.pointer (some ⟨l,0,none⟩)):=by rw [cell_heap h.cell];rfl
 have hc5:w.cell? ⟨r,5,none⟩=some (.bool s.done):=by rw [cell_heap h.cell];rfl
 have hz:=free_heap h.cell 5
 have HX:=Lib.hid hX
 cases hdn:s.done with
 | true =>
  rw [hdn] at hc5
  have HW:Hid (syncM s k=(s,k)):=Lib.hid (by unfold syncM;rw [if_pos hdn])
  have HDN:=Lib.hid hdn
  have HFIN:Hid (NdP w (w.setCell ⟨r,5,none⟩ (.bool true)) A X r d l s k):=Lib.hid (by
   have ho:Only [r] w (w.setCell ⟨r,5,none⟩ (.bool true)):=(Only.refl _ _).setCell (by simp) _
   refine ((h.only_r (s':=s) ho ?_ rfl rfl rfl rfl rfl rfl).nd hX).here ho HXr.out
   rw [heap_set h.cell,←hdn]
   rfl)
  clear h hX hdn
  go_enter Try.func47,Try.ntmps47
  go_wp2_with fail
  go_ret
  rw [HW.out]
  exact ⟨by rw [HDN.out];rfl,HFIN.out⟩
 | false =>
  rw [hdn] at hc5
  have HW:Hid (syncM s k=({ s with wl:=(syncW s.wl k).2.1,done := !((syncW s.wl k).1==0)},(syncW s.wl k).2.2)):=Lib.hid (by unfold syncM;rw [if_neg (by rw [hdn];decide)])
  have HA:=Lib.hid (wsync_any h.wd)
  have H:=Lib.hid h
  clear h hX hdn
  rw [HW.out]
  generalize syncW s.wl k=q at *
  obtain ⟨e0,wl',k'⟩:=q
  simp only at *
  have HNE:Hid ((e0 != 0) = !(e0==0)):=Lib.hid rfl
  generalize hee:(!(e0==0))=eb at *
  go_enter Try.func47,Try.ntmps47
  go_wp2_with fail
  refine HA.out.mono ?_
  rintro e w2 ⟨rfl,hw2,hon2⟩
  have hm2:=Moves.of_only hon2
  have he2:=Ext.refl A w
  have hs2:∀b∈A,b∈A:=fun b hb=>hb
  clear hon2
  obtain ⟨h2,hd2⟩:=H.out.wal hw2 hm2 he2 hs2
  have H2:=Lib.hid h2
  have hz2:=free_heap h2.cell 5
  have hc52:w2.cell? ⟨r,5,none⟩=some (.bool s.done):=by rw [cell_heap h2.cell];rfl
  have HM:Hid (Mv A A X (D++(L++R)) w w2):=Lib.hid (wal_mv HX.out hm2 he2 hs2)
  clear h2 hw2 hm2 he2 hs2 hd2 HA H
  have hr2:Hid (Nd (w2.setCell ⟨r,5,none⟩ (.bool eb)) A (D++(L++R)) r d l { s with wl:=wl',done:=eb } k'):=Lib.hid (by
   have ho:Only [r] w2 (w2.setCell ⟨r,5,none⟩ (.bool eb)):=(Only.refl _ _).setCell (by simp) _
   refine (H2.out.only_r (s':={ s with wl:=wl',done:=eb }) ho ?_ rfl rfl rfl rfl rfl rfl).nd iff_wal
   rw [heap_set H2.out.cell]
   rfl)
  have HMF:Hid (Mv A A X (D++(L++R)) w (w2.setCell ⟨r,5,none⟩ (.bool eb))):=Lib.hid (HM.out.trans (Mv.only (S:=[r]) ((Only.refl _ _).setCell (by simp) _) (fun b hb=>by rw [List.mem_singleton.1 hb];simp [H2.out.rR])))
  clear H2 HM
  have hne:(e0 != 0)=eb:=HNE.out
  go_wp2_with fail
  go_ret
  exact ⟨rfl,hr2.out.ndp HMF.out⟩
end
end Go.Proofs.Ytnicaicjgaoolaa
namespace Go.Proofs.Ytnicaicjgaoolaa
open Go.RowKit Go.ChangeMaps Go.WideMaps Go.Maps
set_option maxRecDepth 20000
section
variable {w w':World} {A A' X X':List Nat} {r d l:Nat} {s s':Rp} {k k':Dk}
theorem noteT_len (term who:Int):(noteT term who).length=24:=by unfold noteT;rw [be8s_len];rfl
theorem Nd.cells (h:Nd w A X r d l s k):∃vl gv gn gm gh,w.heap[r]? = some (.cells (rpCells d l s vl gv gn gm gh) 66 (0,0)):=by
 obtain ⟨D,L,R,vl,gv,gn,gm,gh,h,hX⟩:=h
 exact ⟨vl,gv,gn,gm,gh,h.cell⟩
/-- only scalar cells of the struct turn -/
theorem Nd.scal (h:Nd w A X r d l s k) (ho:Only [r] w w') (hc:∀vl gv gn gm gh,w.heap[r]? = some (.cells (rpCells d l s vl gv gn gm gh) 66 (0,0))→w'.heap[r]? = some (.cells (rpCells d l s' vl gv gn gm gh) 66 (0,0)))
  (h1:s'.wl=s.wl) (h2:s'.log=s.log) (h3:s'.votes=s.votes) (h4:s'.next=s.next) (h5:s'.mat=s.mat) (h6:s'.heard=s.heard):NdP w w' A X r d l s' k:=by
 have hr:=h.rX
 obtain ⟨D,L,R,vl,gv,gn,gm,gh,h,hX⟩:=h
 exact ((h.only_r ho (hc _ _ _ _ _ h.cell) h1 h2 h3 h4 h5 h6).nd hX).here ho hr
theorem NdP.trans {w'':World} (m:Mv A A' X X' w w') (h:NdP w' w'' A' X' r d l s k):NdP w w'' A X r d l s k:=by
 obtain ⟨A2,X2,h,m2⟩:=h
 exact ⟨A2,X2,h,m.trans m2⟩
set_option maxHeartbeats 1000000 in
theorem enter_any (h:Nd w A X r d l s k) (hw:Wf s k) (term who:Int) :
  Calls Try.prog 34 #[.pointer (some ⟨r,0,none⟩),.int .i64 term,.int .i64 who] w fun e w'=>e = .returned (.bool (enterM s k term who).1)∧NdP w w' A X r d l (enterM s k term who).2.1 (enterM s k term who).2.2:=by
 have H:=Lib.hid h
 have HW:=Lib.hid hw
 clear h hw
 have HP:∀W:World,Nd W A X r d l s k→∀ao c,Imm W A (.slice ao 24 c) (noteT term who)→Calls Try.prog 50 #[.pointer (some ⟨r,0,none⟩),.slice ao 24 c] W fun e w'=>e = .returned (.bool (!(writeM s k (noteT term who)).1.done))∧NdP W w' A X r d l (writeM s k (noteT term who)).1 (writeM s k (noteT term who)).2:=fun W hW ao c hi=>write_any hW ao 24 c _ hi (by omega) (Nat.le_trans HW.out.big (by omega)) HW.out.room HW.out.tot HW.out.fl
 have HP:=Lib.hid HP
 have HN:Hid (noteT term who=be8s [1,term,who]):=Lib.hid rfl
 have HNL:=Lib.hid (noteT_len term who)
 have HE:Hid (enterM s k term who=(let p:=writeM s k (noteT term who)
  if p.1.done then (false,p.1,p.2) else
  let q:=syncM p.1 p.2
  if q.1.done then (false,q.1,q.2) else
  (true,{ q.1 with leads:=q.1.leads && !decide (q.1.term<term),term:=term,choice:=who },q.2))):=Lib.hid rfl
 generalize writeM s k (noteT term who)=p at *
 generalize noteT term who=nt at *
 obtain ⟨s1,k1⟩:=p
 simp only at HE HP
 cases hd1:s1.done with
 | true =>
  rw [if_pos hd1] at HE
  rw [hd1] at HP
  go_enter Try.func34,Try.ntmps34
  go_wp2_with fail
  refine (pall_any none 0 0 [] (some ⟨w.heap.size,0,none⟩) 3 3 [1,term,who] _ (isB_nil _) (isI_new w [1,term,who] #[.int .i64 1,.int .i64 term,.int .i64 who] rfl 2 (0,0) w.heap.size rfl 3 rfl 3) (by omega) (by omega)).mono ?_
  rintro e w2 ⟨v2,rfl,ho2,hb2⟩
  rw [List.nil_append,←HN.out] at ho2
  have hbw:Below w.heap.size w w2:=((Below.refl _ _).alloc (Nat.le_refl _) _).trans (hb2.mono (by simp))
  have himm:=Imm.new (A:=A) (ho2.mono (base':=w.heap.size) (by simp)) (w:=w) (H.out.alt)
  obtain ⟨ao,c,e2,_⟩:=id himm;rw [HNL.out] at e2;subst e2
  have H2:=Lib.hid (H.out.below hbw)
  have HB:=Lib.hid hbw
  have HI:=Lib.hid himm
  clear ho2 hb2 hbw himm
  go_wp2_with fail
  refine (HP.out _ H2.out _ _ HI.out).mono ?_
  rintro e w3 ⟨rfl,hn3⟩
  have HN3:=Lib.hid hn3
  clear hn3
  go_wp2_with fail
  go_ret
  rw [HE.out]
  exact ⟨rfl,HN3.out.trans (Mv.below HB.out)⟩
 | false =>
  rw [if_neg (by rw [hd1];decide)] at HE
  rw [hd1] at HP
  have HS:=Lib.hid (fun (W W':World) (A1 X1:List Nat) (h:Nd W A1 X1 r d l s1 k1)=>sync_any h)
  generalize syncM s1 k1=q at *
  obtain ⟨s2,k2⟩:=q
  simp only at HE HS
  cases hd2:s2.done with
  | true =>
   rw [if_pos hd2] at HE
   rw [hd2] at HS
   go_enter Try.func34,Try.ntmps34
   go_wp2_with fail
   refine (pall_any none 0 0 [] (some ⟨w.heap.size,0,none⟩) 3 3 [1,term,who] _ (isB_nil _) (isI_new w [1,term,who] #[.int .i64 1,.int .i64 term,.int .i64 who] rfl 2 (0,0) w.heap.size rfl 3 rfl 3) (by omega) (by omega)).mono ?_
   rintro e w2 ⟨v2,rfl,ho2,hb2⟩
   rw [List.nil_append,←HN.out] at ho2
   have hbw:Below w.heap.size w w2:=((Below.refl _ _).alloc (Nat.le_refl _) _).trans (hb2.mono (by simp))
   have himm:=Imm.new (A:=A) (ho2.mono (base':=w.heap.size) (by simp)) (w:=w) (H.out.alt)
   obtain ⟨ao,c,e2,_⟩:=id himm;rw [HNL.out] at e2;subst e2
   have H2:=Lib.hid (H.out.below hbw)
   have HB:=Lib.hid hbw
   have HI:=Lib.hid himm
   clear ho2 hb2 hbw himm
   go_wp2_with fail
   refine (HP.out _ H2.out _ _ HI.out).mono ?_
   rintro e w3 ⟨rfl,hn3⟩
   have HN3:=Lib.hid hn3
   clear hn3
   obtain ⟨A3,X3,h3,m3⟩:=HN3.out
   have H3:=Lib.hid h3
   have M3:=Lib.hid (m3)
   clear h3 m3 HN3
   go_wp2_with fail
   refine (HS.out _ w3 _ _ H3.out).mono ?_
   rintro e w4 ⟨rfl,hn4⟩
   have HN4:=Lib.hid hn4
   clear hn4
   go_wp2_with fail
   go_ret
   rw [HE.out]
   exact ⟨rfl,HN4.out.trans ((Mv.below HB.out).trans M3.out)⟩
  | false =>
   rw [if_neg (by rw [hd2];decide)] at HE
   rw [hd2] at HS
   go_enter Try.func34,Try.ntmps34
   go_wp2_with fail
   refine (pall_any none 0 0 [] (some ⟨w.heap.size,0,none⟩) 3 3 [1,term,who] _ (isB_nil _) (isI_new w [1,term,who] #[.int .i64 1,.int .i64 term,.int .i64 who] rfl 2 (0,0) w.heap.size rfl 3 rfl 3) (by omega) (by omega)).mono ?_
   rintro e w2 ⟨v2,rfl,ho2,hb2⟩
   rw [List.nil_append,←HN.out] at ho2
   have hbw:Below w.heap.size w w2:=((Below.refl _ _).alloc (Nat.le_refl _) _).trans (hb2.mono (by simp))
   have himm:=Imm.new (A:=A) (ho2.mono (base':=w.heap.size) (by simp)) (w:=w) (H.out.alt)
   obtain ⟨ao,c,e2,_⟩:=id himm;rw [HNL.out] at e2;subst e2
   have H2:=Lib.hid (H.out.below hbw)
   have HB:=Lib.hid hbw
   have HI:=Lib.hid himm
   clear ho2 hb2 hbw himm
   go_wp2_with fail
   refine (HP.out _ H2.out _ _ HI.out).mono ?_
   rintro e w3 ⟨rfl,hn3⟩
   have HN3:=Lib.hid hn3
   clear hn3
   obtain ⟨A3,X3,h3,m3⟩:=HN3.out
   have H3:=Lib.hid h3
   have M3:=Lib.hid (m3)
   clear h3 m3 HN3
   go_wp2_with fail
   refine (HS.out _ w3 _ _ H3.out).mono ?_
   rintro e w4 ⟨rfl,hn4⟩
   obtain ⟨A4,X4,h4,m4⟩:=hn4
   have H4:=Lib.hid h4
   have M4:=Lib.hid (((Mv.below HB.out).trans M3.out).trans m4)
   obtain ⟨vl,gv,gn,gm,gh,hcell⟩:=h4.cells
   have HC:=Lib.hid hcell
   have hc6:w4.cell? ⟨r,6,none⟩=some (.int .i64 s2.term):=by rw [cell_heap hcell];rfl
   have hc7:w4.cell? ⟨r,7,none⟩=some (.int .i64 s2.choice):=by rw [cell_heap hcell];rfl
   have hc11:w4.cell? ⟨r,11,none⟩=some (.bool s2.leads):=by rw [cell_heap hcell];rfl
   have hz7:=free_heap hcell 7
   have hz6:=free_heap hcell 6
   have hz11:=free_heap hcell 11
   clear h4 m4 hcell
   by_cases hlt:s2.term<term
   ·go_wp2_with fail
    go_ret
    rw [HE.out]
    refine ⟨rfl,NdP.trans M4.out ?_⟩
    refine Nd.scal H4.out ?_ ?_ rfl rfl rfl rfl rfl rfl
    ·exact (((Only.refl _ _).setCell (by simp) _).setCell (by simp) _).setCell (by simp) _
    ·intro vl gv gn gm gh hc
     rw [heap_set (heap_set (heap_set hc 11 _) 6 _) 7 _]
     simp [rpCells,hlt]
   ·go_wp2_with fail
    go_ret
    rw [HE.out]
    refine ⟨rfl,NdP.trans M4.out ?_⟩
    refine Nd.scal H4.out ?_ ?_ rfl rfl rfl rfl rfl rfl
    ·exact ((Only.refl _ _).setCell (by simp) _).setCell (by simp) _
    ·intro vl gv gn gm gh hc
     rw [heap_set (heap_set hc 6 _) 7 _]
     simp [rpCells,hlt]
end
end Go.Proofs.Ytnicaicjgaoolaa
