/-
  What the proof of the law leans on: contracts of the program's functions, one behind another. No condition.
-/
import Derived.Test.YtnicaicjgaoolaaU0
import Derived.Test.YtnicaicjgaoolaaU6
set_option linter.unusedVariables false
set_option linter.unusedSimpArgs false
namespace Go.Proofs.Ytnicaicjgaoolaa.X
set_option maxRecDepth 20000
structure Ms (ρ:Type) where
 frm:Int
 dst:Int
 kind:Int
 N:List Int
 B:List ρ
structure Nd (ρ:Type) where
 own:Nat
 n:Nat
 term:Int
 choice:Int
 log:List (Int×ρ)
 agreed:Nat
 many:Nat
 leads:Bool
 votes:List Bool
 next:List Nat
 mat:List Nat
 ticks:Nat
 clock:Nat
 heard:List (Int×Int×Int)
 cnt:Nat
 bad:Bool
section
variable {ρ:Type} (z:ρ->Bool)
def bD (l:List (Int×ρ)) (n:Nat):Int:=match n with | 0=>0 | n+1=>match l[n]? with | some x=>x.1 | none=>0
def recs (l:List (Int×ρ)):List ρ:=(l.filter λx => !z x.2).map Prod.snd
def enter (s:Nd ρ) (t w:Int):Nd ρ:={ s with leads:=s.leads && !decide (s.term<t),term:=t,choice:=w,cnt:=s.cnt+1 }
def place (s:Nd ρ) (p:Nat) (x:Int×ρ):Nd ρ:={ s with log:=s.log.take p++[x],cnt:=s.cnt+1 }
def dh (s:Nd ρ) (m:Nat):Bool:=decide (s.n<2*m)
def agree (s:Nd ρ) (m:Nat):Nd ρ:=if s.agreed<m then { s with agreed:=m,many:=s.many+(recs z ((s.log.take m).drop s.agreed)).length } else s
def qX (s:Nd ρ):Nat:=((s.log.drop s.agreed).filter λx=>x.1==s.term && !z x.2).length
def od (s:Nd ρ) (dst kind:Int) (N:List Int):Ms ρ:=⟨(s.own:Int),dst,kind,N,[]⟩
def cT (s:Nd ρ) (f:Nat->Ms ρ):List (Ms ρ):=((List.range s.n).filter λi=>i != s.own).map f
def bI (s:Nd ρ) (dst:Nat):Ms ρ :=
 ⟨(s.own:Int),(dst:Int),3,[s.term,((s.next.getD dst 0:Nat):Int),bD s.log (s.next.getD dst 0),(s.agreed:Int)]++((s.log.drop (s.next.getD dst 0)).take 20).map Prod.fst,((s.log.drop (s.next.getD dst 0)).take 20).map Prod.snd⟩
def bf (s:Nd ρ) (kind:Int) (dst:Nat):Ms ρ:=od s dst kind [s.term,(s.log.length:Int),bD s.log s.log.length]
def settleF (s:Nd ρ):Nat->Option Nat
 | 0=>none
 | k+1=>if s.agreed<k+1/\bD s.log (k+1)=s.term then (if dh s (ey s.mat (k+1)) then some (k+1) else settleF s k) else none
def settle (s:Nd ρ):Bool×Nd ρ :=
 match settleF { s with mat:=s.mat.set s.own s.log.length } s.log.length with
 | some k=>(true,agree z { s with mat:=s.mat.set s.own s.log.length } k)
 | none=>(false,{ s with mat:=s.mat.set s.own s.log.length })
def gL (s:Nd ρ):Bool:=dh s (s.votes.filter id).length
def lead (e:ρ) (s:Nd ρ):List (Ms ρ)×Nd ρ :=
 let s2:=(settle z (place { s with leads:=true,next:=List.replicate s.n s.log.length,mat:=List.replicate s.n 0 } s.log.length (s.term,e))).2
 (cT s2 (bI s2),s2)
def stand (e:ρ) (s:Nd ρ):List (Ms ρ)×Nd ρ :=
 if 1099511627776<=s.term then ([],s) else
 let s1:={ enter s (s.term+1) (s.own:Int) with ticks:=0,votes:=(List.replicate s.n false).set s.own true }
 if gL s1 then lead z e s1 else (cT s1 (bf s1 1),s1)
def better (s:Nd ρ) (i:Nat) (x:Int×Int×Int):Bool :=
 !(x.1==0||decide (4<(s.clock:Int) - x.1)) &&
 (decide (bD s.log s.log.length<x.2.2)||(x.2.2==bD s.log s.log.length&&(decide ((s.log.length:Int)<x.2.1)||(x.2.1==(s.log.length:Int)&&decide (i<s.own)))))
def kN (s:Nd ρ):Bool:=(List.range s.heard.length).all λi => !better s i (s.heard.getD i (0,0,0))
def tick (e:ρ) (s0:Nd ρ):List (Ms ρ)×Nd ρ :=
 let s1:={ s0 with clock:=s0.clock+1 }
 if s1.leads then (cT s1 (bI s1),s1) else
 let s2:={ s1 with ticks:=s1.ticks+1 }
 if 8<=s2.ticks/\kN s2=true then stand z e s2
 else if 4<=s2.ticks then (cT s2 (bf s2 5),s2)
 else ([],s2)
def submit (s:Nd ρ) (rec:ρ):List (Ms ρ)×Bool×Nd ρ :=
 if !s.leads then ([],false,s) else if 200<=qX z s\/2000<=s.many then ([],false,s) else
 let s2:=(settle z (place s s.log.length (s.term,rec))).2
 (cT s2 (bI s2),true,s2)
def asked (s:Nd ρ) (m:Ms ρ):List (Ms ρ)×Nd ρ :=
 if m.N.length=3 then
  let own:=bD s.log s.log.length
  let behind:=decide (own<m.N.getD 2 0)||(m.N.getD 2 0==own&&decide ((s.log.length:Int)<=m.N.getD 1 0))
  let yes:=(m.N.getD 0 0==s.term)&&behind&&(s.choice == -1||s.choice==m.frm)
  if yes then
   if s.choice == -1 then
    let s1:={ enter s s.term m.frm with ticks:=0 }
    ([od s1 m.frm 2 [s1.term,1]],s1)
   else
    let s1:={ s with ticks:=0 }
    ([od s1 m.frm 2 [s1.term,1]],s1)
  else ([od s m.frm 2 [s.term,0]],s)
 else ([],s)
def voted (e:ρ) (s:Nd ρ) (m:Ms ρ):List (Ms ρ)×Nd ρ :=
 if s.leads || !(m.N.getD 0 0==s.term) || !(s.choice==(s.own:Int)) || !(m.N.getD 1 0==1) then ([],s) else
 let s1:={ s with votes:=s.votes.set m.frm.toNat true }
 if gL s1 then lead z e s1 else ([],s1)
def ox (s:Nd ρ) (from_ term:Int):Bool:=decide (from_<=(s.log.length:Int))&&(bD s.log from_.toNat==term)
def bE (from_:Nat):List (Int×ρ)->Nat->Nd ρ->Bool×Nd ρ
 | [],_,s=>(true,s)
 | (t,rec)::l,i,s =>
  if from_+i<s.log.length/\bD s.log (from_+i+1)=t then bE from_ l (i+1) s
  else if t<1\/s.term<t\/from_+i<s.agreed then (false,s)
  else bE from_ l (i+1) (place s (from_+i) (t,rec))
def lays (s:Nd ρ) (m:Ms ρ):List (Ms ρ)×Nd ρ :=
 if !(m.N.length==4+m.B.length)||decide (m.N.getD 1 0<0)||(m.N.getD 0 0==s.term&&s.leads) then ([],s) else
 if m.N.getD 0 0<s.term then ([od s m.frm 4 [s.term,0,0]],s) else
 let s1:={ s with ticks:=0 }
 if ox s1 (m.N.getD 1 0) (m.N.getD 2 0) then
  let from_:=(m.N.getD 1 0).toNat
  let p:=bE from_ ((m.N.drop 4).zip m.B) 0 s1
  if p.1 then
   let s2:=agree z p.2 (min (m.N.getD 3 0) ((from_+m.B.length:Nat):Int)).toNat
   ([od s2 m.frm 4 [s2.term,1,((from_+m.B.length:Nat):Int)]],s2)
  else ([],{ p.2 with bad:=true })
 else ([od s1 m.frm 4 [s1.term,0,min (s1.log.length:Int) (max (m.N.getD 1 0 - 1) 0)]],s1)
def answered (s:Nd ρ) (m:Ms ρ):List (Ms ρ)×Nd ρ :=
 if !s.leads || !(m.N.getD 0 0==s.term) || !(m.N.length==3)||decide (m.N.getD 2 0<0)||decide ((s.log.length:Int)<m.N.getD 2 0) then ([],s) else
 let who:=m.frm.toNat
 let k:=(m.N.getD 2 0).toNat
 if m.N.getD 1 0=0 then
  if s.next.getD who 0<=k then ([],s) else
  let s1:={ s with next:=s.next.set who (max k (s.mat.getD who 0))}
  ([bI s1 who],s1)
 else if k<=s.mat.getD who 0 then ([],s) else
 let p:=settle z { s with mat:=s.mat.set who k,next:=s.next.set who (max k (s.next.getD who 0))}
 if p.1 then (cT p.2 (bI p.2),p.2)
 else if p.2.next.getD who 0<p.2.log.length then ([bI p.2 who],p.2)
 else ([],p.2)
def nZ (s:Nd ρ) (m:Ms ρ):Bool := !(m.dst==(s.own:Int))||m.frm==(s.own:Int)||decide (m.frm<0)||decide ((s.n:Int)<=m.frm)||decide (m.N.length<2)||decide (m.N.getD 0 0<1)||decide (1099511627776<m.N.getD 0 0)
def getIn (e:ρ) (s:Nd ρ) (m:Ms ρ):List (Ms ρ)×Nd ρ :=
 if m.kind=1 then asked s m
 else if m.kind=2 then voted z e s m
 else if m.kind=3 then lays z s m
 else if m.kind=4 then answered z s m
 else if m.kind=5 then (if m.N.length=3 then ([],{ s with heard:=s.heard.set m.frm.toNat ((s.clock:Int),m.N.getD 1 0,m.N.getD 2 0)}) else ([],s))
 else ([],s)
def get (e:ρ) (s:Nd ρ) (m:Ms ρ):List (Ms ρ)×Nd ρ :=
 if nZ s m then ([],s) else getIn z e (if s.term<m.N.getD 0 0 then enter s (m.N.getD 0 0) (-1) else s) m
def new (own n:Nat):Nd ρ:=⟨own,n,0, -1,[],0,0,false,List.replicate n false,List.replicate n 0,List.replicate n 0,0,0,List.replicate n (0,0,0),0,false⟩
def back (s:Nd ρ):Nd ρ:={ (new s.own s.n:Nd ρ) with term:=s.term,choice:=s.choice,log:=s.log,cnt:=s.cnt,bad:=s.bad }
end
abbrev Lg (ρ:Type):=List (Int×ρ)
section
variable {ρ:Type} {L L':Int->Lg ρ} {a b l:Lg ρ} {k m:Nat}
theorem jl (l:Lg ρ) (k:Nat):bD l (k+1)=match l[k]? with | some x=>x.1 | none=>0:=rfl
theorem tI (l:Lg ρ) (k:Nat) (h:k<l.length):bD l (k+1)=(l[k]'h).1:=by
 rw [jl,jv h]
theorem fq (h:a <+: b) (hk:k<=a.length):bD a k=bD b k:=by
 cases k with
 | zero=>rfl
 | succ k =>
  obtain ⟨c,rfl⟩:=h;rw [jl,jl,cy (by omega)]
theorem ed (hk:k<=m) (hm:m<=l.length):bD (l.take m) k=bD l k:=fq (iY _ _) (by rw [aE];omega)
theorem jB (h:a <+: b) (hk:k<=a.length):a.take k=b.take k:=by
 obtain ⟨c,rfl⟩:=h;rw [cI hk]
theorem nC (h:a.take k=b.take k) (hk:k<=a.length):k<=b.length:=by
 grind [List.length,aE]
theorem gt (h:a.take m=b.take m) (hk:k<=m):a.take k=b.take k:=by
 have:=congrArg (List.take k) h;simpa [cL,bB hk] using this
theorem rL (h:a.take m=b.take m) (hk:k<=m) (ha:m<=a.length):bD a k=bD b k:=by
 have hb:=nC h ha;rw [<-ed hk ha,<-ed hk hb,h]
theorem mr (h:a.take k <+: b) (hk:k<=a.length):b.take k=a.take k:=by
 obtain ⟨c,hc⟩:=h;rw [<-hc,cI (by rw [aE];omega),cL,pv]
structure OkL (L:Int->Lg ρ) (l:Lg ρ):Prop where
 at_:∀k,k<l.length->l.take (k+1)=(L (bD l (k+1))).take (k+1)
 pos:∀k,k<l.length->1<=bD l (k+1)
 up:∀j k,j<=k->k<=l.length->bD l j<=bD l k
theorem OkL.nil:OkL L []:=⟨λk h=>by simp at h,λk h=>by simp at h,λj k h1 h2=>by
 obtain rfl:k=0:=by simpa using h2
 obtain rfl:j=0:=by omega
 exact aM _⟩
theorem OkL.mono (h:OkL L l) (hl:∀t,L t <+: L' t):OkL L' l :=
 ⟨λk hk=>by
  have h1:=h.at_ k hk;rw [h1];exact jB (hl _) (nC h1 (by omega)),h.pos,h.up⟩
theorem OkL.take (h:OkL L l) (m:Nat):OkL L (l.take m):=by
 by_cases hm:m<=l.length
 ·have e:(l.take m).length=m:=by rw [aE];omega
  refine ⟨λk hk=>?_,λk hk=>?_,λj k hj hk=>?_⟩
  ·grind [ed,cL,bB,h.at_]
  ·rw [e] at hk;rw [ed (by omega) hm];exact h.pos k (by omega)
  ·rw [e] at hk;rw [ed (by omega) hm,ed hk hm];exact h.up j k hj (by omega)
 ·grind [bA]
theorem OkL.same (ha:OkL L a) (hb:OkL L b) (h1:k<=a.length) (h2:k<=b.length) (he:bD a k=bD b k):a.take k=b.take k:=by
 cases k with
 | zero=>rfl
 | succ k=>rw [ha.at_ k h1,hb.at_ k h2,he]
theorem OkL.snoc {t:Int} {x:ρ} (h:OkL L l) (h1:1<=t) (ht:bD l l.length<=t) (hL:L t=l++[(t,x)]):OkL L (l++[(t,x)]):=by
 have hl:∀k,k<=l.length->bD (l++[(t,x)]) k=bD l k:=λk hk=>(fq (List.prefix_append _ _) hk).symm;have hn:bD (l++[(t,x)]) (l.length+1)=t:=by rw [jl];simp
 have e:(l++[(t,x)]).length=l.length+1:=by simp
 refine ⟨λk hk=>?_,λk hk=>?_,λj k hj hk=>?_⟩
 ·rw [e] at hk;by_cases hk2:k<l.length
  ·grind [h.at_]
  ·grind
 ·rw [e] at hk;by_cases hk2:k<l.length
  ·rw [hl _ (by omega)];exact h.pos k hk2
  ·grind
 ·rw [e] at hk;by_cases hk2:k<=l.length
  ·rw [hl _ (by omega),hl _ (by omega)];exact h.up j k hj hk2
  ·obtain rfl:k=l.length+1:=by omega
   rw [hn];by_cases hj2:j<=l.length
   ·rw [hl _ hj2];exact cS (h.up j _ hj2 (ah _)) ht
   ·grind
def Maj (n:Nat) (q:Nat->Bool):Prop:=n<2*((List.range n).filter q).length
theorem tS (l:List Nat) (p q:Nat->Bool) (h:∀j∈l,¬(p j=true/\q j=true)):(l.filter p).length+(l.filter q).length<=l.length:=by
 induction l with
 | nil=>simp
 | cons x l ih =>
  have h1:=ih λj hj=>h j (aI _ hj);have h2:=h x aP;simp only [fw,aX];cases hp:p x<;>cases hq:q x<;>simp [hp,hq] at h2 ⊢ <;> omega
theorem Maj.meet {n:Nat} {p q:Nat->Bool} (h1:Maj n p) (h2:Maj n q):∃j,j<n/\p j=true/\q j=true:=by
 apply bz;intro hn;have:=tS (List.range n) p q λj hj hpq=>hn ⟨j,cX.1 hj,hpq⟩;unfold Maj at h1 h2;rw [List.length_range] at this;omega
theorem Maj.mono {n:Nat} {p q:Nat->Bool} (h:Maj n p) (hpq:∀j,j<n->p j=true->q j=true):Maj n q:=by
 unfold Maj at h ⊢;have:∀l:List Nat,(∀j∈l,p j=true->q j=true)->(l.filter p).length<=(l.filter q).length:=by
  intro l;induction l with
  | nil=>intro _;simp
  | cons x l ih =>
   intro hl;have h1:=ih λj hj=>hl j (aI _ hj);have h2:=hl x aP;simp only [fw];cases hp:p x<;>cases hq:q x<;>simp [hp,hq] at h2 ⊢ <;> omega
 have:=this (List.range n) λj hj=>hpq j (cX.1 hj);omega
theorem iU {α:Type} (l:List α) (p:α->Bool) (d:α):(l.filter p).length=((List.range l.length).filter λj=>p (l.getD j d)).length:=by
 induction l with
 | nil=>rfl
 | cons x l ih =>
  rw [aX,List.range_succ_eq_map,fw,fw,List.filter_map];have e:((λj=>p ((x::l).getD j d)) ∘ Nat.succ)=λj=>p (l.getD j d):=by funext j;simp [Function.comp]
  rw [e];simp only [List.getD_cons_zero];split<;>simp [ih]
end
structure Gh (ρ:Type) where
 led:Int->Option Nat
 C:Int->Lg ρ
 L:Int->Lg ρ
 ack:Nat->Int->Nat->Prop
 V:Nat->Int->Option (Nat×Lg ρ×Bool)
section
variable {ρ:Type}
def ix (a b:Lg ρ):Prop:=bD b b.length<bD a a.length\/(bD b b.length=bD a a.length/\b.length<=a.length)
structure QA (n:Nat) (G:Gh ρ) (t:Int) (k:Nat):Prop where
 k1:1<=k
 kl:k<=(G.L t).length
 tm:bD (G.L t) k=t
 led:G.led t≠none
 q:∃q,Maj n q/\∀j,j<n->q j=true->G.ack j t k
def Agd (n:Nat) (G:Gh ρ) (t:Int) (l:Lg ρ) (a:Nat):Prop:=a<=l.length/\(a=0\/∃u k,QA n G u k/\u<=t/\a<=k/\l.take a=(G.L u).take a)
structure GI (n:Nat) (G:Gh ρ):Prop where
 led:∀t i,G.led t=some i->i<n/\1<=t
 quo:∀t i,G.led t=some i->∃q,Maj n q/\∀j,j<n->q j=true->∃l,G.V j t=some (i,l,false)/\ix (G.C t) l
 self:∀t i,G.led t=some i->G.ack i t (G.L t).length/\∃b,G.V i t=some (i,G.C t,b)
 pre:∀t,G.led t≠none->G.C t <+: G.L t/\bD (G.C t) (G.C t).length<t
 top:∀t,bD (G.L t) (G.L t).length<=t\/G.L t=[]
 none_:∀t,G.led t=none->G.L t=[]
 ok:∀t,OkL G.L (G.L t)
 V:∀j t c l b,G.V j t=some (c,l,b)->c<n/\OkL G.L l/\bD l l.length<=t/\(c=j->bD l l.length<t)
 utd:∀j t c l b,G.V j t=some (c,l,b)->∃l0 b0,G.V c t=some (c,l0,b0)/\ix l0 l
 late:∀j t c l b,G.led t=none->G.V j t=some (c,l,b)->b=false
 ack:∀j t k,G.ack j t k->j<n/\G.led t≠none/\k<=(G.L t).length
 dn:∀j t k k',G.ack j t k'->k<=k'->G.ack j t k
 ackV:∀j t k t' c l,G.ack j t k->G.V j t'=some (c,l,false)->t<t'->(G.L t).take k <+: l\/∃u,t<u/\u<t'/\G.led u≠none/\¬(G.L t).take k <+: G.C u
structure Le (G G':Gh ρ):Prop where
 led:∀t i,G.led t=some i->G'.led t=some i/\G'.C t=G.C t
 L:∀t,G.L t <+: G'.L t
 ack:∀j t k,G.ack j t k->G'.ack j t k
 V:∀j t x,G.V j t=some x->G'.V j t=some x
structure By (i:Nat) (G G':Gh ρ):Prop where
 le:Le G G'
 led:∀t j,j≠i->G'.led t=some j->G.led t=some j/\G'.L t=G.L t
 V:∀j t,j≠i->G'.V j t=G.V j t
 ack:∀j t k,j≠i->G'.ack j t k->G.ack j t k
variable {n i:Nat} {G G' G'':Gh ρ} {t t':Int} {l l':Lg ρ} {a a' k:Nat}
theorem Le.refl (G:Gh ρ):Le G G:=⟨λ_ _ h=>⟨h,rfl⟩,λ_=>xj _,λ_ _ _ h=>h,λ_ _ _ h=>h⟩
theorem Le.trans (h:Le G G') (h':Le G' G''):Le G G'' :=
 ⟨λt i e=>⟨(h'.led t i (h.led t i e).1).1,(h'.led t i (h.led t i e).1).2.trans (h.led t i e).2⟩,λt=>(h.L t).trans (h'.L t),λj t k e=>h'.ack j t k (h.ack j t k e),λj t x e=>h'.V j t x (h.V j t x e)⟩
theorem By.refl (i:Nat) (G:Gh ρ):By i G G:=⟨Le.refl G,λ_ _ _ h=>⟨h,rfl⟩,λ_ _ _=>rfl,λ_ _ _ _ h=>h⟩
theorem By.trans (h:By i G G') (h':By i G' G''):By i G G'' :=
 ⟨h.le.trans h'.le,λt j hj e=>by
  obtain ⟨e1,e2⟩:=h'.led t j hj e;obtain ⟨e3,e4⟩:=h.led t j hj e1;exact ⟨e3,e2.trans e4⟩,λj t hj=>(h'.V j t hj).trans (h.V j t hj),λj t k hj e=>h.ack j t k hj (h'.ack j t k hj e)⟩
theorem Le.ledN (h:Le G G') (e:G.led t≠none):G'.led t≠none/\G'.C t=G.C t:=by
 cases h1:G.led t with
 | none=>exact absurd h1 e
 | some i =>
  have:=h.led t i h1;exact ⟨by rw [this.1];simp,this.2⟩
theorem QA.mono (h:QA n G t k) (hl:Le G G'):QA n G' t k:=by
 obtain ⟨q,h1,h2⟩:=h.q;exact ⟨h.k1,aF h.kl (hl.L t).length_le,by rw [<-fq (hl.L t) h.kl];exact h.tm,(hl.ledN h.led).1,q,h1,λj hj e=>hl.ack j t k (h2 j hj e)⟩
theorem Agd.mono (h:Agd n G t l a) (hl:Le G G') (ht:t<=t'):Agd n G' t' l a:=by
 refine ⟨h.1,?_⟩;rcases h.2 with h1 | ⟨u,k,h1,h2,h3,h4⟩
 ·exact .inl h1
 ·exact .inr ⟨u,k,h1.mono hl,cS h2 ht,h3,by rw [h4];exact jB (hl.L u) (aF h3 h1.kl)⟩
theorem Agd.log (h:Agd n G t l a) (ha:a<=l'.length) (e:l'.take a=l.take a):Agd n G t l' a:=by
 refine ⟨ha,?_⟩;rcases h.2 with h1 | ⟨u,k,h1,h2,h3,h4⟩
 ·exact .inl h1
 ·grind
theorem Agd.less (h:Agd n G t l a) (ha:a'<=a):Agd n G t l a':=by
 refine ⟨aF ha h.1,?_⟩;rcases h.2 with h1 | ⟨u,k,h1,h2,h3,h4⟩
 ·exact .inl (by omega)
 ·grind [aF,gt]
theorem OkL.whole {L:Int->Lg ρ} (h:OkL L l):l=(L (bD l l.length)).take l.length:=by
 cases e:l.length with
 | zero=>simp [bC.1 e]
 | succ k =>
  have h1:=h.at_ k (by omega);rw [bA (by omega)] at h1;exact h1
theorem GI.lc (h:GI n G) (hq:QA n G t k):∀(m:Nat) (t':Int),(t' - t).toNat<=m->t<t'->G.led t'≠none->(G.L t).take k <+: G.C t':=by
 intro m;induction m with
 | zero=>intro t' h1 h2;omega
 | succ m ih =>
  intro t' hm htt hl;obtain ⟨i,hi⟩:=Option.ne_none_iff_exists'.1 hl;obtain ⟨q',hq1,hq2⟩:=h.quo t' i hi;obtain ⟨q,hq3,hq4⟩:=hq.q;obtain ⟨j,hj,j1,j2⟩:=hq1.meet hq3;obtain ⟨l,hV,hU⟩:=hq2 j hj j1;have hack:=hq4 j hj j2;have hp:(G.L t).take k <+: l:=by
   grind [h.ackV]
  have hlen:((G.L t).take k).length=k:=by rw [aE];have:=hq.kl;omega
  have hkl:k<=l.length:=by have:=hp.length_le;omega
  have hlok:=(h.V j t' i l false hV).2.1;have hlk:bD l k=t:=by rw [<-fq hp (by omega),ed (ah _) hq.kl];exact hq.tm
  have hlt:t<=bD l l.length:=by rw [<-hlk];exact hlok.up k _ hkl (ah _)
  obtain ⟨_,b,hVi⟩:=h.self t' i hi;have hcok:=(h.V i t' i _ b hVi).2.1;have hct:=(h.pre t' hl).2;have hc:=hcok.whole;rcases hU with hU | ⟨hU1,hU2⟩
  ·have hled:G.led (bD (G.C t') (G.C t').length)≠none:=by
    intro hn;rw [h.none_ _ hn] at hc;simp at hc;rw [hc] at hU;have:bD ([]:Lg ρ) ([]:Lg ρ).length=0:=rfl;have h2:=hlok.up 0 l.length (aA _) (ah _);have h3:bD l 0=0:=rfl;omega
   have hP:=(ih _ (by omega) (by omega) hled).trans (h.pre _ hled).1;have hkc:k<=(G.C t').length:=by
    apply bz;intro hn;have e1:bD (G.C t') (G.C t').length=bD ((G.L t).take k) (G.C t').length:=by
     rw [fq hP (by omega)]
     conv=>lhs;rw [hc]
     rw [aE];have hcl:(G.C t').length<=(G.L (bD (G.C t') (G.C t').length)).length:=by
      grind
     rw [bB hcl,ed (ah _) hcl]
    rw [ed (by omega) hq.kl] at e1;have:=(h.ok t).up (G.C t').length k (by omega) hq.kl;rw [hq.tm] at this;omega
   have e2:(G.L (bD (G.C t') (G.C t').length)).take k=(G.L t).take k:=by
    grind [mr,cL,pv]
   rw [<-e2];have e3:(G.L (bD (G.C t') (G.C t').length)).take k=(G.C t').take k:=by
    grind
   rw [e3];exact iY _ _
  ·have hl2:=hlok.whole;rw [hU1] at hl2;have hlc:l <+: G.C t':=by
    grind
   exact hp.trans hlc
theorem GI.later (h:GI n G) (hq:QA n G t k) (htt:t<=t') (hl:G.led t'≠none):(G.L t').take k=(G.L t).take k:=by
 by_cases e:t=t'
 ·rw [e]
 ·have h1:=(h.lc hq _ t' (ah _) (by omega) hl).trans (h.pre t' hl).1;exact mr h1 hq.kl
theorem GI.cmp (h:GI n G) (h1:Agd n G t l a) (h2:Agd n G t' l' a') (ha:a<=a'):l.take a=l'.take a:=by
 rcases h1.2 with e | ⟨u,k,p1,p2,p3,p4⟩
 ·subst e;simp
 rcases h2.2 with e | ⟨u',k',q1,q2,q3,q4⟩
 ·obtain rfl:a=0:=by omega
  simp
 rw [p4,gt q4 ha];by_cases hu:u<=u'
 ·exact (gt (h.later p1 hu q1.led) p3).symm
 ·exact gt (h.later q1 (by omega) p1.led) (by omega)
theorem kV (l:Lg ρ):ix l l:=.inr ⟨rfl,ah _⟩
end
section
variable {ρ:Type} (z:ρ->Bool)
structure NI (n:Nat) (G:Gh ρ) (i:Nat) (s:Nd ρ):Prop where
 ib:i<n
 own:s.own=i
 nn:s.n=n
 vl:s.votes.length=n
 ml:s.mat.length=n
 t0:0<=s.term
 ok:OkL G.L s.log
 top:bD s.log s.log.length<=s.term
 Vf:∀t,s.term<t->G.V i t=none
 ch:(s.choice = -1/\G.V i s.term=none)\/∃c l b,s.choice=((c:Nat):Int)/\G.V i s.term=some (c,l,b)
 ledt:∀t,G.led t=some i->t<=s.term
 lds:s.leads=true->G.led s.term=some i/\s.log=G.L s.term
 own2:∀l b,G.V i s.term=some (i,l,b)->(G.led s.term=none->s.log=l)/\(G.led s.term=some i->s.log=G.L s.term)
 vts:s.choice=(i:Int)->∀j,j<n->s.votes.getD j false=true->∃l b l0 b0,G.V j s.term=some (i,l,b)/\G.V i s.term=some (i,l0,b0)/\ix l0 l
 mat:s.leads=true->∀j,j<n->j≠i->s.mat.getD j 0≠0->G.ack j s.term (s.mat.getD j 0)
 next:s.leads=true->∀j,s.next.getD j 0<=s.log.length
 ag:Agd n G s.term s.log s.agreed
 ackF:∀t k,G.ack i t k->t<=s.term/\((G.L t).take k <+: s.log\/∃u,t<u/\u<=s.term/\G.led u≠none/\¬(G.L t).take k <+: G.C u)
 many:s.many=(recs z (s.log.take s.agreed)).length
 bad:s.bad=false
structure MI (n:Nat) (G:Gh ρ) (m:Ms ρ):Prop where
 f:∃f:Nat,f<n/\m.frm=(f:Int) /\
  (m.kind=1->m.N.length=3->∃l b,G.V f (m.N.getD 0 0)=some (f,l,b)/\m.N.getD 1 0=(l.length:Int)/\m.N.getD 2 0=bD l l.length) /\
  (m.kind=2->m.N.getD 1 0=1->∃d:Nat,∃l b l0 b0,m.dst=(d:Int)/\G.V f (m.N.getD 0 0)=some (d,l,b)/\G.V d (m.N.getD 0 0)=some (d,l0,b0)/\ix l0 l) /\
  (m.kind=3->G.led (m.N.getD 0 0)=some f/\∃p a:Nat,m.N.getD 1 0=(p:Int)/\m.N.getD 2 0=bD (G.L (m.N.getD 0 0)) p/\m.N.getD 3 0=(a:Int)/\p+m.B.length<=(G.L (m.N.getD 0 0)).length/\m.N.length=4+m.B.length/\(m.N.drop 4).zip m.B=((G.L (m.N.getD 0 0)).drop p).take m.B.length/\Agd n G (m.N.getD 0 0) (G.L (m.N.getD 0 0)) a) /\
  (m.kind=4->m.N.length=3->m.N.getD 1 0≠0->0<=m.N.getD 2 0->G.ack f (m.N.getD 0 0) (m.N.getD 2 0).toNat)
variable {z}
variable {n i:Nat} {G G' G'':Gh ρ} {t t':Int} {l l':Lg ρ} {a a' k:Nat} {s s':Nd ρ} {m:Ms ρ}
theorem MI.mono (h:MI n G m) (hl:Le G G'):MI n G' m:=by
 obtain ⟨f,hf,e,h1,h2,h3,h4⟩:=h.f;refine ⟨f,hf,e,λk1 k2=>?_,λk1 k2=>?_,λk1=>?_,λk1 k2 k3 k4=>hl.ack _ _ _ (h4 k1 k2 k3 k4)⟩
 ·grind [hl.V]
 ·grind [hl.V]
 ·obtain ⟨e1,p,a,e2,e3,e4,e5,e6,e7,e8⟩:=h3 k1;refine ⟨(hl.led _ _ e1).1,p,a,e2,?_,e4,aF e5 (hl.L _).length_le,e6,?_,?_⟩
  ·grind [fq,hl.L]
  ·rw [e7];obtain ⟨c,hc⟩:=hl.L (m.N.getD 0 0);rw [<-hc,List.drop_append_of_le_length (by omega),cI (by rw [bw];omega)]
  ·exact (e8.mono hl (aM _)).log (aF e8.1 (hl.L _).length_le) (jB (hl.L _) e8.1).symm
theorem NI.other {j:Nat} (hg:GI n G) (h:NI z n G j s) (hb:By i G G') (hj:j≠i):NI z n G' j s:=by
 have hV:∀t,G'.V j t=G.V j t:=λt=>hb.V j t hj;refine ⟨h.ib,h.own,h.nn,h.vl,h.ml,h.t0,h.ok.mono hb.le.L,h.top,λt ht=>by rw [hV];exact h.Vf t ht,by rw [hV];exact h.ch,λt e=>h.ledt t (hb.led t j hj e).1,λe=>?_,λl b e=>?_,λe j2 hj2 hv=>?_,λe j2 h1 h2 h3=>hb.le.ack _ _ _ (h.mat e j2 h1 h2 h3),h.next,h.ag.mono hb.le (aM _),λt k e=>?_,h.many,h.bad⟩
 ·have h1:=h.lds e;have h2:=(hb.le.led _ _ h1.1).1;exact ⟨h2,by rw [(hb.led _ j hj h2).2];exact h1.2⟩
 ·rw [hV] at e;have h1:=h.own2 l b e;refine ⟨λe1=>h1.1 ?_,λe1=>?_⟩
  ·cases e2:G.led s.term with
   | none=>rfl
   | some x=>rw [(hb.le.led _ _ e2).1] at e1;cases e1
  ·grind [hb.led]
 ·obtain ⟨l,b,l0,b0,e1,e2,e3⟩:=h.vts e j2 hj2 hv;exact ⟨l,b,l0,b0,hb.le.V _ _ _ e1,hb.le.V _ _ _ e2,e3⟩
 ·have e2:=hb.ack j t k hj e;have hk:=(hg.ack j t k e2).2.2;have hT:(G'.L t).take k=(G.L t).take k:=(jB (hb.le.L t) hk).symm;obtain ⟨h1,h2⟩:=h.ackF t k e2;refine ⟨h1,?_⟩;rw [hT];rcases h2 with h2 | ⟨u,u1,u2,u3,u4⟩
  ·exact .inl h2
  ·exact .inr ⟨u,u1,u2,(hb.le.ledN u3).1,by rw [(hb.le.ledN u3).2];exact u4⟩
theorem NI.ledch (hg:GI n G) (h:NI z n G i s) (e:G.led s.term=some i):s.choice=(i:Int):=by
 obtain ⟨b,hv⟩:=(hg.self _ _ e).2;rcases h.ch with ⟨_,h1⟩ | ⟨c,l,b2,h1,h2⟩
 ·rw [h1] at hv;cases hv
 ·grind
theorem NI.enter (h:NI z n G i s) (ht:s.term<t):NI z n G i (enter s t (-1)):=by
 have e0:(s.leads && !decide (s.term<t))=false:=by simp [ht]
 refine ⟨h.ib,h.own,h.nn,h.vl,h.ml,?_,h.ok,?_,λt2 h2=>h.Vf t2 ?_,.inl ⟨rfl,h.Vf t ht⟩,λt2 e=>?_,λe=>?_,λl b e=>?_,λe=>?_,λe=>?_,λe=>?_,?_,λt2 k e=>?_,h.many,h.bad⟩
 ·show 0<=t;have:=h.t0;omega
 ·show bD s.log s.log.length<=t;have:=h.top;omega
 ·have h2:t<t2:=h2;omega
 ·show t2<=t;have:=h.ledt t2 e;omega
 ·have e:(s.leads && !decide (s.term<t))=true:=e;rw [e0] at e;cases e
 ·have e:G.V i t=some (i,l,b):=e;rw [h.Vf t ht] at e;cases e
 ·have e:(-1:Int)=(i:Int):=e;omega
 ·have e:(s.leads && !decide (s.term<t))=true:=e;rw [e0] at e;cases e
 ·have e:(s.leads && !decide (s.term<t))=true:=e;rw [e0] at e;cases e
 ·exact h.ag.mono (Le.refl G) (Int.le_of_lt ht)
 ·obtain ⟨h1,h2⟩:=h.ackF t2 k e;refine ⟨by show t2<=t;omega,?_⟩;rcases h2 with h2 | ⟨u,u1,u2,u3⟩
  ·exact .inl h2
  ·exact .inr ⟨u,u1,by show u<=t;omega,u3⟩
def Gh.vote (G:Gh ρ) (i:Nat) (t:Int) (c:Nat) (l:Lg ρ):Gh ρ:={ G with V:=λj u=>if j=i/\u=t then some (c,l,(G.led t).isSome) else G.V j u }
theorem p9 {c:Nat} (h:G.V i t=none):By i G (G.vote i t c l):=by
 refine ⟨⟨λt j e=>⟨e,rfl⟩,λ_=>xj _,λ_ _ _ e=>e,λj u x e=>?_⟩,λ_ _ _ e=>⟨e,rfl⟩,λj u hj=>?_,λ_ _ _ _ e=>e⟩
 ·show (if j=i/\u=t then _ else _)=_;rw [aw]
  ·exact e
  ·rintro ⟨rfl,rfl⟩;rw [h] at e;cases e
 ·show (if j=i/\u=t then _ else _)=_;rw [aw (λe=>hj e.1)]
theorem dW {c:Nat}:(G.vote i t c l).V i t=some (c,l,(G.led t).isSome):=by
 show (if i=i/\t=t then _ else _)=_;rw [ax ⟨rfl,rfl⟩]
theorem jW {c j:Nat} {u:Int} (h:¬(j=i/\u=t)):(G.vote i t c l).V j u=G.V j u:=by
 show (if j=i/\u=t then _ else _)=_;rw [aw h]
theorem GI.vote {c:Nat} (hg:GI n G) (h:NI z n G i s) (hv:G.V i t=none) (ht:s.term<=t) (hc:c<n) (hci:c=i->s.term<t) (hu:c=i\/∃l0 b0,G.V c t=some (c,l0,b0)/\ix l0 s.log):GI n (G.vote i t c s.log):=by
 have hle:=(p9 (c:=c) (l:=s.log) hv).le;refine ⟨hg.led,λu j e=>?_,λu j e=>?_,hg.pre,hg.top,hg.none_,hg.ok,λj u c2 l2 b2 e=>?_,λj u c2 l2 b2 e=>?_,λj u c2 l2 b2 e1 e=>?_,hg.ack,hg.dn,λj u k u2 c2 l2 e1 e2 hu=>?_⟩
 ·obtain ⟨q,q1,q2⟩:=hg.quo u j e;refine ⟨q,q1,λj2 h1 h2=>?_⟩;obtain ⟨l,e1,e2⟩:=q2 j2 h1 h2;exact ⟨l,hle.V _ _ _ e1,e2⟩
 ·obtain ⟨e1,b,e2⟩:=hg.self u j e;exact ⟨e1,b,hle.V _ _ _ e2⟩
 ·by_cases hju:j=i/\u=t
  ·obtain ⟨rfl,rfl⟩:=hju;rw [dW] at e;simp only [co,fW] at e;obtain ⟨rfl,rfl,rfl⟩:=e;have:=h.top;exact ⟨hc,h.ok,by omega,λe=>by have:=hci e;omega⟩
  ·rw [jW hju] at e;exact hg.V j u c2 l2 b2 e
 ·by_cases hju:j=i/\u=t
  ·obtain ⟨rfl,rfl⟩:=hju;rw [dW] at e;simp only [co,fW] at e;obtain ⟨rfl,rfl,rfl⟩:=e;rcases hu with rfl | ⟨l0,b0,e1,e2⟩
   ·exact ⟨s.log,_,dW,.inr ⟨rfl,ah _⟩⟩
   ·exact ⟨l0,b0,hle.V _ _ _ e1,e2⟩
  ·grind [jW,hg.utd,hle.V]
 ·by_cases hju:j=i/\u=t
  ·obtain ⟨rfl,rfl⟩:=hju;rw [dW] at e;simp only [co,fW] at e;rw [<-e.2.2];have e1:G.led u=none:=e1;rw [e1];rfl
  ·rw [jW hju] at e;exact hg.late j u c2 l2 b2 e1 e
 ·by_cases hju:j=i/\u2=t
  ·obtain ⟨rfl,rfl⟩:=hju;rw [dW] at e2;simp only [co,fW] at e2;obtain ⟨rfl,rfl,e3⟩:=e2;obtain ⟨h1,h2⟩:=h.ackF u k e1;rcases h2 with h2 | ⟨v,v1,v2,v3,v4⟩
   ·exact .inl h2
   ·refine .inr ⟨v,v1,?_,v3,v4⟩;have:v≠u2:=by
     intro e;subst e;cases e5:G.led v with
     | none=>exact v3 e5
     | some x=>rw [e5] at e3;cases e3
    omega
  ·rw [jW hju] at e2;exact hg.ackV j u k u2 c2 l2 e1 e2 hu
theorem NI.vote {c:Nat} (hg:GI n G) (h:NI z n G i s) (hch:s.choice = -1) (hc:c<n) (hci:c≠i) (hu:∃l0 b0,G.V c s.term=some (c,l0,b0)/\ix l0 s.log):By i G (G.vote i s.term c s.log)/\GI n (G.vote i s.term c s.log)/\NI z n (G.vote i s.term c s.log) i (X.enter s s.term (c:Int))/\(G.vote i s.term c s.log).V i s.term=some (c,s.log,(G.led s.term).isSome):=by
 have hv:G.V i s.term=none:=by
  grind [h.ch]
 have hby:=p9 (c:=c) (l:=s.log) hv;refine ⟨hby,hg.vote h hv (aM _) hc (λe=>absurd e hci) (.inr hu),?_,dW⟩;have hle:=hby.le;have hnl:G.led s.term≠some i:=λe=>by
  grind [h.ledch]
 have hnld:s.leads=false:=by
  cases e:s.leads with
  | false=>rfl
  | true=>exact absurd (h.lds e).1 hnl
 have e0:(s.leads && !decide (s.term<s.term))=false:=by rw [hnld];rfl
 refine ⟨h.ib,h.own,h.nn,h.vl,h.ml,h.t0,h.ok,h.top,λt2 h2=>?_,.inr ⟨c,s.log,_,rfl,dW⟩,h.ledt,λe=>?_,λl b e=>?_,λe=>?_,λe=>?_,λe=>?_,h.ag.mono hle (aM _),λt2 k e=>h.ackF t2 k e,h.many,h.bad⟩
 ·have h2:s.term<t2:=h2;rw [jW (by omega)];exact h.Vf t2 h2
 ·have e:(s.leads && !decide (s.term<s.term))=true:=e;rw [e0] at e;cases e
 ·have e:(G.vote i s.term c s.log).V i s.term=some (i,l,b):=e;rw [dW] at e;simp only [co,fW] at e;exact absurd e.1 hci
 ·have e:((c:Nat):Int)=(i:Int):=e;omega
 ·have e:(s.leads && !decide (s.term<s.term))=true:=e;rw [e0] at e;cases e
 ·have e:(s.leads && !decide (s.term<s.term))=true:=e;rw [e0] at e;cases e
theorem NI.stand (hg:GI n G) (h:NI z n G i s):∃G',By i G G'/\GI n G'/\NI z n G' i { X.enter s (s.term+1) (i:Int) with ticks:=0,votes:=(List.replicate n false).set i true }/\∃b,G'.V i (s.term+1)=some (i,s.log,b):=by
 have hv:G.V i (s.term+1)=none:=h.Vf _ (by omega);have hby:=p9 (c:=i) (l:=s.log) hv;refine ⟨G.vote i (s.term+1) i s.log,hby,hg.vote h hv (by omega) h.ib (λ_=>by omega) (.inl rfl),?_,_,dW⟩;have hle:=hby.le;have e0:(s.leads && !decide (s.term<s.term+1))=false:=by simp;intro;omega
 have hnl:G.led (s.term+1)≠some i:=λe=>by have:=h.ledt _ e;omega
 refine ⟨h.ib,h.own,h.nn,by simp,h.ml,?_,h.ok,?_,λt2 h2=>?_,.inr ⟨i,s.log,_,rfl,dW⟩,λt2 e=>?_,λe=>?_,λl b e=>?_,λ_ j hj hv=>?_,λe=>?_,λe=>?_,h.ag.mono hle ?_,λt2 k e=>?_,h.many,h.bad⟩
 ·show 0<=s.term+1;have:=h.t0;omega
 ·show bD s.log s.log.length<=s.term+1;have:=h.top;omega
 ·have h2:s.term+1<t2:=h2;rw [jW (by omega)];exact h.Vf t2 (by omega)
 ·show t2<=s.term+1;have:=h.ledt t2 e;omega
 ·have e:(s.leads && !decide (s.term<s.term+1))=true:=e;rw [e0] at e;cases e
 ·have e:(G.vote i (s.term+1) i s.log).V i (s.term+1)=some (i,l,b):=e;rw [dW] at e;simp only [co,fW] at e;exact ⟨λ_=>e.2.1,λe=>absurd e hnl⟩
 ·have hv:((List.replicate n false).set i true).getD j false=true:=hv;have e:j=i:=by
   grind
  subst e;exact ⟨s.log,_,s.log,_,dW,dW,kV _⟩
 ·have e:(s.leads && !decide (s.term<s.term+1))=true:=e;rw [e0] at e;cases e
 ·have e:(s.leads && !decide (s.term<s.term+1))=true:=e;rw [e0] at e;cases e
 ·show s.term<=s.term+1;omega
 ·obtain ⟨h1,h2⟩:=h.ackF t2 k e;refine ⟨by show t2<=s.term+1;omega,?_⟩;rcases h2 with h2 | ⟨u,u1,u2,u3⟩
  ·exact .inl h2
  ·exact .inr ⟨u,u1,by show u<=s.term+1;omega,u3⟩
end
end Go.Proofs.Ytnicaicjgaoolaa.X
