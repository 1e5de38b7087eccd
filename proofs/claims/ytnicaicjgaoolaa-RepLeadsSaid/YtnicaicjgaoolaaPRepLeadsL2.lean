/-
  What the proof of the law leans on: contracts of the program's functions, one behind another. No condition.
-/
import Derived.Test.YtnicaicjgaoolaaU0
import Derived.Test.YtnicaicjgaoolaaPRepLeadsL1
set_option linter.unusedVariables false
set_option linter.unusedSimpArgs false
namespace Go.Proofs.Ytnicaicjgaoolaa.X
section
variable {ρ:Type} {z:ρ->Bool}
variable {n i:Nat} {G G' G'':Gh ρ} {t t':Int} {l l':Lg ρ} {a a' k:Nat} {s s':Nd ρ} {m:Ms ρ}
def Gh.elect (G:Gh ρ) (i:Nat) (t:Int) (l:Lg ρ):Gh ρ :=
  { led:=λu=>if u=t then some i else G.led u,C:=λu=>if u=t then l else G.C u,L:=λu=>if u=t then l else G.L u,
    ack:=λj u k=>G.ack j u k\/(j=i/\u=t/\k<=l.length),V:=G.V }
theorem z9 (hg:GI n G) (hl:G.led t=none):By i G (G.elect i t l):=by
 have hne:∀u j,G.led u=some j->u≠t:=λu j e h=>by rw [h,hl] at e;cases e
 refine ⟨⟨λu j e=>?_,λu=>?_,λ_ _ _ e=>.inl e,λ_ _ _ e=>e⟩,λu j hj e=>?_,λ_ _ _=>rfl,λj u k hj e=>?_⟩
 ·have:=hne u j e;exact ⟨by show (if u=t then _ else _)=_;rw [aw this];exact e,by show (if u=t then _ else _)=_;rw [aw this]⟩
 ·show _ <+: (if u=t then l else G.L u)
  by_cases e:u=t
  ·grind [hg.none_]
  ·rw [aw e];exact xj _
 ·have e:(if u=t then some i else G.led u)=some j:=e;by_cases h:u=t
  ·grind
  ·rw [aw h] at e;exact ⟨e,by show (if u=t then l else G.L u)=_;rw [aw h]⟩
 ·rcases e with e | e
  ·exact e
  ·exact absurd e.1 hj
theorem NI.elect (hg:GI n G) (h:NI z n G i s) (hl:G.led s.term=none) (hch:s.choice=(i:Int)) (hq:∃q,Maj n q/\∀j,j<n->q j=true->s.votes.getD j false=true) :
  By i G (G.elect i s.term s.log)/\GI n (G.elect i s.term s.log)/\NI z n (G.elect i s.term s.log) i s/\(G.elect i s.term s.log).led s.term=some i/\(G.elect i s.term s.log).L s.term=s.log:=by
 have hby:=z9 (i:=i) (l:=s.log) hg hl;have hle:=hby.le;have hL1:(G.elect i s.term s.log).L s.term=s.log:=ax rfl;have hC1:(G.elect i s.term s.log).C s.term=s.log:=ax rfl;have hl1:(G.elect i s.term s.log).led s.term=some i:=ax rfl;have hL2:∀u,u≠s.term->(G.elect i s.term s.log).L u=G.L u:=λu e=>aw e;have hC2:∀u,u≠s.term->(G.elect i s.term s.log).C u=G.C u:=λu e=>aw e;have hl2:∀u,u≠s.term->(G.elect i s.term s.log).led u=G.led u:=λu e=>aw e;obtain ⟨c,l0,b0,hc0,hv0⟩:∃(c:Nat) (l0:Lg ρ) (b0:Bool),s.choice=((c:Nat):Int)/\G.V i s.term=some (c,l0,b0):=by
  grind [h.ch]
 obtain rfl:c=i:=by rw [hch] at hc0;omega
 have hlog:s.log=l0:=(h.own2 l0 b0 hv0).1 hl;have hlt:bD s.log s.log.length<s.term:=by rw [hlog];exact (hg.V _ _ _ _ _ hv0).2.2.2 rfl
 have h1t:1<=s.term:=by
  have:=h.ok.up 0 s.log.length (aA _) (ah _);have h3:bD s.log 0=0:=rfl;omega
 have hne:∀j u k,G.ack j u k->u≠s.term:=λj u k e h2=>(hg.ack j u k e).2.1 (by rw [h2];exact hl);refine ⟨hby,⟨λu j e=>?_,λu j e=>?_,λu j e=>?_,λu e=>?_,λu=>?_,λu e=>?_,λu=>?_,λj u c2 l2 b2 e=>?_,hg.utd,λj u c2 l2 b2 e1 e=>?_,λj u k e=>?_,λj u k k' e hk=>?_,λj u k u2 c2 l2 e1 e2 hu=>?_⟩,⟨h.ib,h.own,h.nn,h.vl,h.ml,h.t0,h.ok.mono hle.L,h.top,h.Vf,h.ch,λu e=>?_,λe=>?_,λl b e=>?_,h.vts,λe j h1 h2 h3=>.inl (h.mat e j h1 h2 h3),h.next,h.ag.mono hle (aM _),λu k e=>?_,h.many,h.bad⟩,hl1,hL1⟩
 ·by_cases h2:u=s.term
  ·grind [h.ib]
  ·rw [hl2 u h2] at e;exact hg.led u j e
 ·by_cases h2:u=s.term
  ·subst h2;rw [hl1] at e;simp only [co] at e;subst e;obtain ⟨q,q1,q2⟩:=hq;refine ⟨q,q1,λj hj hqj=>?_⟩;obtain ⟨l,b,l1,b1,e1,e2,e3⟩:=h.vts hch j hj (q2 j hj hqj);have hb:=hg.late _ _ _ _ _ hl e1;subst hb;rw [hv0] at e2;simp only [co,fW] at e2;rw [hC1,hlog,e2.2.1];exact ⟨l,e1,e3⟩
  ·rw [hl2 u h2] at e;rw [hC2 u h2];exact hg.quo u j e
 ·by_cases h2:u=s.term
  ·subst h2;rw [hl1] at e;simp only [co] at e;subst e;rw [hL1,hC1];exact ⟨.inr ⟨rfl,rfl,ah _⟩,b0,by rw [hlog];exact hv0⟩
  ·rw [hl2 u h2] at e;rw [hL2 u h2,hC2 u h2];obtain ⟨e1,e2⟩:=hg.self u j e;exact ⟨.inl e1,e2⟩
 ·by_cases h2:u=s.term
  ·grind
  ·grind [hg.pre]
 ·by_cases h2:u=s.term
  ·subst h2;rw [hL1];exact .inl (by omega)
  ·rw [hL2 u h2];exact hg.top u
 ·by_cases h2:u=s.term
  ·subst h2;rw [hl1] at e;cases e
  ·grind [hg.none_]
 ·by_cases h2:u=s.term
  ·subst h2;rw [hL1];exact h.ok.mono hle.L
  ·rw [hL2 u h2];exact (hg.ok u).mono hle.L
 ·obtain ⟨e1,e2,e3⟩:=hg.V j u c2 l2 b2 e;exact ⟨e1,e2.mono hle.L,e3⟩
 ·by_cases h2:u=s.term
  ·subst h2;rw [hl1] at e1;cases e1
  ·rw [hl2 u h2] at e1;exact hg.late j u c2 l2 b2 e1 e
 ·rcases e with e | ⟨rfl,rfl,e⟩
  ·have h2:=hne j u k e;rw [hl2 u h2,hL2 u h2];exact hg.ack j u k e
  ·grind [h.ib]
 ·rcases e with e | ⟨rfl,rfl,e⟩
  ·exact .inl (hg.dn j u k k' e hk)
  ·exact .inr ⟨rfl,rfl,by omega⟩
 ·rcases e1 with e | ⟨rfl,rfl,e⟩
  ·have h2:=hne j u k e;rw [hL2 u h2];rcases hg.ackV j u k u2 c2 l2 e e2 hu with h3 | ⟨v,v1,v2,v3,v4⟩
   ·exact .inl h3
   ·grind
  ·have e2:G.V j u2=some (c2,l2,false):=e2;rw [h.Vf u2 hu] at e2;cases e2
 ·by_cases h2:u=s.term
  ·omega
  ·rw [hl2 u h2] at e;exact h.ledt u e
 ·grind
 ·grind
 ·rcases e with e | ⟨_,rfl,e⟩
  ·have h2:=hne _ u k e;rw [hL2 u h2];obtain ⟨h3,h4⟩:=h.ackF u k e;refine ⟨h3,?_⟩;rcases h4 with h4 | ⟨v,v1,v2,v3,v4⟩
   ·exact .inl h4
   ·grind
  ·grind
def Gh.grow (G:Gh ρ) (i:Nat) (t:Int) (x:ρ):Gh ρ :=
 { G with L:=λu=>if u=t then G.L t++[(t,x)] else G.L u,ack:=λj u k=>G.ack j u k\/(j=i/\u=t/\k<=(G.L t).length+1)}
theorem Bu {x:ρ} (hl:G.led t=some i):By i G (G.grow i t x):=by
 refine ⟨⟨λu j e=>⟨e,rfl⟩,λu=>?_,λ_ _ _ e=>.inl e,λ_ _ _ e=>e⟩,λu j hj e=>⟨e,?_⟩,λ_ _ _=>rfl,λj u k hj e=>?_⟩
 ·show _ <+: (if u=t then _ else G.L u)
  by_cases e:u=t
  ·grind
  ·rw [aw e];exact xj _
 ·show (if u=t then _ else G.L u)=_;rw [aw];intro h;have e:G.led u=some j:=e;rw [h,hl] at e;simp only [co] at e;exact hj e.symm
 ·rcases e with e | e
  ·exact e
  ·exact absurd e.1 hj
theorem NI.grow {x:ρ} (hg:GI n G) (h:NI z n G i s) (hl:G.led s.term=some i) (hlog:s.log=G.L s.term) :
  By i G (G.grow i s.term x)/\GI n (G.grow i s.term x)/\NI z n (G.grow i s.term x) i (place s s.log.length (s.term,x)):=by
 have hby:=Bu (x:=x) hl;have hle:=hby.le;have hL1:(G.grow i s.term x).L s.term=s.log++[(s.term,x)]:=by show (if s.term=s.term then _ else _)=_;rw [ax rfl,hlog]
 have hL2:∀u,u≠s.term->(G.grow i s.term x).L u=G.L u:=λu e=>aw e;have hlen:(s.log++[(s.term,x)]).length=s.log.length+1:=by simp
 have h1t:=(hg.led _ _ hl).2;have hok:OkL (G.grow i s.term x).L (s.log++[(s.term,x)]):=(h.ok.mono hle.L).snoc h1t h.top hL1;have hlast:bD (s.log++[(s.term,x)]) (s.log++[(s.term,x)]).length=s.term:=by rw [hlen,jl];simp
 have hpl:(place s s.log.length (s.term,x)).log=s.log++[(s.term,x)]:=by show s.log.take s.log.length++_=_;rw [cM]
 have hT:∀j u k,G.ack j u k->((G.grow i s.term x).L u).take k=(G.L u).take k:=λj u k e=>(jB (hle.L u) (hg.ack j u k e).2.2).symm;refine ⟨hby,⟨hg.led,hg.quo,λu j e=>?_,λu e=>?_,λu=>?_,λu e=>?_,λu=>?_,λj u c2 l2 b2 e=>?_,hg.utd,hg.late,λj u k e=>?_,λj u k k' e hk=>?_,λj u k u2 c2 l2 e1 e2 hu=>?_⟩,⟨h.ib,h.own,h.nn,h.vl,h.ml,h.t0,by rw [hpl];exact hok,by rw [hpl,hlast];exact aM _,h.Vf,h.ch,h.ledt,λe=>⟨hl,by rw [hpl];exact hL1.symm⟩,λl b e=>⟨λe1=>?_,λ_=>by rw [hpl];exact hL1.symm⟩,h.vts,λe j h1 h2 h3=>.inl (h.mat e j h1 h2 h3),λe j=>?_,?_,λu k e=>?_,?_,h.bad⟩⟩
 ·by_cases h2:u=s.term
  ·subst h2;have e:G.led s.term=some j:=e;rw [hl] at e;simp only [co] at e;subst e;rw [hL1,hlen];exact ⟨.inr ⟨rfl,rfl,by rw [hlog];exact ah _⟩,(hg.self _ _ hl).2⟩
  ·rw [hL2 u h2];exact ⟨.inl (hg.self u j e).1,(hg.self u j e).2⟩
 ·exact ⟨(hg.pre u e).1.trans (hle.L u),(hg.pre u e).2⟩
 ·by_cases h2:u=s.term
  ·grind
  ·rw [hL2 u h2];exact hg.top u
 ·have h2:u≠s.term:=λh2=>by
   have e:G.led u=none:=e;rw [h2,hl] at e;cases e
  rw [hL2 u h2];exact hg.none_ u e
 ·by_cases h2:u=s.term
  ·subst h2;rw [hL1];exact hok
  ·rw [hL2 u h2];exact (hg.ok u).mono hle.L
 ·obtain ⟨e1,e2,e3⟩:=hg.V j u c2 l2 b2 e;exact ⟨e1,e2.mono hle.L,e3⟩
 ·rcases e with e | ⟨rfl,rfl,e⟩
  ·obtain ⟨e1,e2,e3⟩:=hg.ack j u k e;exact ⟨e1,e2,aF e3 (hle.L u).length_le⟩
  ·exact ⟨h.ib,by show G.led s.term≠none;rw [hl];simp,by rw [hL1,hlen,hlog];exact e⟩
 ·rcases e with e | ⟨rfl,rfl,e⟩
  ·exact .inl (hg.dn j u k k' e hk)
  ·exact .inr ⟨rfl,rfl,by omega⟩
 ·rcases e1 with e | ⟨rfl,rfl,e⟩
  ·rw [hT j u k e];exact hg.ackV j u k u2 c2 l2 e e2 hu
  ·have e2:G.V j u2=some (c2,l2,false):=e2;rw [h.Vf u2 hu] at e2;cases e2
 ·have e1:G.led s.term=none:=e1;rw [hl] at e1;cases e1
 ·rw [hpl,hlen];have:=h.next e j;show s.next.getD j 0<=_;omega
 ·have h1:=h.ag.mono hle (aM _);rw [hpl];exact h1.log (by rw [hlen];have:=h.ag.1;show s.agreed<=_;omega) (by rw [cI h.ag.1])
 ·rcases e with e | ⟨_,rfl,e⟩
  ·rw [hT _ u k e,hpl];obtain ⟨h3,h4⟩:=h.ackF u k e;refine ⟨h3,?_⟩;rcases h4 with h4 | h4
   ·grind
   ·exact .inr h4
  ·rw [hL1,hpl];exact ⟨aM _,.inl (iY _ _)⟩
 ·rw [hpl];show s.many=(recs z ((s.log++[(s.term,x)]).take s.agreed)).length;rw [cI h.ag.1];exact h.many
theorem NI.agree (h:NI z n G i s) (hk:Agd n G s.term s.log k):NI z n G i (X.agree z s k):=by
 unfold X.agree;split
 ·rename_i hlt;refine ⟨h.ib,h.own,h.nn,h.vl,h.ml,h.t0,h.ok,h.top,h.Vf,h.ch,h.ledt,h.lds,h.own2,h.vts,h.mat,h.next,hk,h.ackF,?_,h.bad⟩;show s.many+(recs z ((s.log.take k).drop s.agreed)).length=(recs z (s.log.take k)).length;have e:s.log.take k=s.log.take s.agreed++(s.log.take k).drop s.agreed:=by
   grind [eD,cL,bB]
  rw [h.many]
  conv=>rhs;rw [e]
  unfold recs;rw [cC,bW,ay]
 ·exact h
theorem ig (k:Nat):(X.agree z s k).log=s.log/\(X.agree z s k).term=s.term/\(X.agree z s k).leads=s.leads/\(X.agree z s k).own=s.own/\(X.agree z s k).n=s.n/\(X.agree z s k).next=s.next/\(X.agree z s k).mat=s.mat:=by
 unfold X.agree;split<;>exact ⟨rfl,rfl,rfl,rfl,rfl,rfl,rfl⟩
theorem gU (s:Nd ρ):∀k r,settleF s k=some r->r<=k/\s.agreed<r/\bD s.log r=s.term/\dh s (ey s.mat r)=true:=by
 intro k;induction k with
 | zero=>intro r e;simp [settleF] at e
 | succ k ih =>
  intro r e;unfold settleF at e;split at e
  ·grind
  ·cases e
theorem NI.matown (h:NI z n G i s):NI z n G i { s with mat:=s.mat.set s.own s.log.length }:=by
 refine ⟨h.ib,h.own,h.nn,h.vl,by show (s.mat.set _ _).length=n;rw [cW];exact h.ml,h.t0,h.ok,h.top,h.Vf,h.ch,h.ledt,h.lds,h.own2,h.vts,λe j h1 h2 h3=>?_,h.next,h.ag,h.ackF,h.many,h.bad⟩;have e1:(s.mat.set s.own s.log.length).getD j 0=s.mat.getD j 0:=by
  grind [h.own]
 have h3:(s.mat.set s.own s.log.length).getD j 0≠0:=h3;show G.ack j s.term ((s.mat.set s.own s.log.length).getD j 0);rw [e1] at h3 ⊢;exact h.mat e j h1 h2 h3
theorem NI.settle (hg:GI n G) (h:NI z n G i s) (hl:s.leads=true):NI z n G i (X.settle z s).2:=by
 unfold X.settle;have h1:=h.matown;split
 ·rename_i k hk;obtain ⟨k1,k2,k3,k4⟩:=gU _ _ _ hk;have k2:s.agreed<k:=k2;have k3:bD s.log k=s.term:=k3;obtain ⟨d1,d2⟩:=h.lds hl;refine h1.agree ⟨k1,.inr ⟨s.term,k,⟨by omega,by rw [<-d2];exact k1,by rw [<-d2];exact k3,by rw [d1];simp,?_⟩,aM _,ah _,by show s.log.take k=_;rw [<-d2]⟩⟩;have hm:(s.mat.set s.own s.log.length).length=n:=h1.ml;refine ⟨λj=>decide (k<=(s.mat.set s.own s.log.length).getD j 0),?_,λj hj hq=>?_⟩
  ·unfold Maj;have e:=iU (s.mat.set s.own s.log.length) (λm=>decide (k<=m)) 0;rw [hm] at e;rw [<-e];have k4:decide (s.n<2*ey (s.mat.set s.own s.log.length) k)=true:=k4;unfold ey at k4;rw [h.nn] at k4;exact kQ k4
  ·have hq:=kQ hq;by_cases e:j=i
   ·subst e;have e1:=(hg.self _ _ d1).1;exact hg.dn _ _ _ _ e1 (by rw [<-d2];exact k1)
   ·exact hg.dn _ _ _ _ (h1.mat hl j hj e (by show (s.mat.set s.own s.log.length).getD j 0≠0;omega)) hq
 ·exact h1
theorem jD:(X.settle z s).2.log=s.log/\(X.settle z s).2.term=s.term/\(X.settle z s).2.leads=s.leads/\(X.settle z s).2.own=s.own/\(X.settle z s).2.n=s.n/\(X.settle z s).2.next=s.next:=by
 unfold X.settle;split
 ·grind [ig]
 ·exact ⟨rfl,rfl,rfl,rfl,rfl,rfl⟩
theorem NI.back (h:NI z n G i s):NI z n G i (X.back s):=by
 refine ⟨h.ib,h.own,h.nn,by show (List.replicate s.n false).length=n;rw [fF];exact h.nn,by show (List.replicate s.n 0).length=n;rw [fF];exact h.nn,h.t0,h.ok,h.top,h.Vf,h.ch,h.ledt,λe=>(by cases e),h.own2,λ_ j hj hv=>?_,λe=>(by cases e),λe=>(by cases e),⟨aA _,.inl rfl⟩,h.ackF,rfl,h.bad⟩;have hv:(List.replicate s.n false).getD j false=true:=hv;simp [aK,List.getElem?_replicate] at hv;split at hv<;>simp at hv
end
section
variable {ρ:Type} {z:ρ->Bool} {e:ρ}
variable {n i:Nat} {G G' G'':Gh ρ} {t t':Int} {l l':Lg ρ} {a a' k:Nat} {s s':Nd ρ} {m:Ms ρ}
def Stp (z:ρ->Bool) (n i:Nat) (G:Gh ρ) (r:List (Ms ρ)×Nd ρ):Prop:=∃G',By i G G'/\GI n G'/\NI z n G' i r.2/\∀m∈r.1,MI n G' m
theorem Stp.of (hg:GI n G) (h:NI z n G i s) {ms:List (Ms ρ)} (hm:∀m∈ms,MI n G m):Stp z n i G (ms,s):=⟨G,By.refl i G,hg,h,hm⟩
theorem Stp.step {r:List (Ms ρ)×Nd ρ} (hb:By i G G') (h:Stp z n i G' r):Stp z n i G r:=by
 obtain ⟨G2,h1,h2⟩:=h;exact ⟨G2,hb.trans h1,h2⟩
theorem NI.tc (h:NI z n G i s) (a b c:Nat) (hh:List (Int×Int×Int)):NI z n G i { s with ticks:=a,clock:=b,heard:=hh,cnt:=c } :=
 ⟨h.ib,h.own,h.nn,h.vl,h.ml,h.t0,h.ok,h.top,h.Vf,h.ch,h.ledt,h.lds,h.own2,h.vts,h.mat,h.next,h.ag,h.ackF,h.many,h.bad⟩
theorem cJ (s:Nd ρ) (f:Nat->Ms ρ) (m:Ms ρ) (h:m∈cT s f):∃d,d<s.n/\d≠s.own/\m=f d:=by
 grind [cT,gR.1,oe.1,cX.1]
theorem Ca (l:Lg ρ):(l.map Prod.fst).zip (l.map Prod.snd)=l:=by
 induction l with
 | nil=>rfl
 | cons x l ih=>simp [ih]
theorem lV (h:NI z n G i s) (hl:s.leads=true) (d:Nat):MI n G (bI s d):=by
 obtain ⟨h1,h2⟩:=h.lds hl;have hn:=h.next hl d;refine ⟨i,h.ib,by show ((s.own:Nat):Int)=_;rw [h.own],λk=>(by cases k),λk=>(by cases k),λ_=>⟨h1,s.next.getD d 0,s.agreed,rfl,?_,rfl,?_,?_,?_,?_⟩,λk=>(by cases k)⟩
 ·show bD s.log (s.next.getD d 0)=bD (G.L s.term) _;rw [<-h2]
 ·show s.next.getD d 0+(((s.log.drop (s.next.getD d 0)).take 20).map Prod.snd).length<=(G.L s.term).length;rw [<-h2,aQ,aE,bw];omega
 ·show ([s.term,((s.next.getD d 0:Nat):Int),bD s.log (s.next.getD d 0),(s.agreed:Int)]++((s.log.drop (s.next.getD d 0)).take 20).map Prod.fst).length=4+(((s.log.drop (s.next.getD d 0)).take 20).map Prod.snd).length;simp;omega
 ·show (((s.log.drop (s.next.getD d 0)).take 20).map Prod.fst).zip (((s.log.drop (s.next.getD d 0)).take 20).map Prod.snd)=((G.L s.term).drop (s.next.getD d 0)).take (((s.log.drop (s.next.getD d 0)).take 20).map Prod.snd).length;rw [Ca,<-h2,aQ,aE,List.take_eq_take_iff];omega
 ·show Agd n G s.term (G.L s.term) s.agreed;rw [<-h2];exact h.ag
theorem jk (h:NI z n G i s) (hl:s.leads=true):∀m∈cT s (bI s),MI n G m:=λm hm=>by
 obtain ⟨d,_,_,rfl⟩:=cJ _ _ _ hm;exact lV h hl d
theorem pK (h:NI z n G i s) (d kd:Int) (N:List Int) (h1:kd≠1) (h2:kd≠2\/N.getD 1 0≠1) (h3:kd≠3) (h4:kd≠4\/N.getD 1 0=0):MI n G (od s d kd N):=by
 refine ⟨i,h.ib,by show ((s.own:Nat):Int)=_;rw [h.own],λk=>absurd k h1,λk k2=>?_,λk=>absurd k h3,λk _ k2=>?_⟩
 ·rcases h2 with h2 | h2
  ·exact absurd k h2
  ·exact absurd k2 h2
 ·rcases h4 with h4 | h4
  ·exact absurd k h4
  ·exact absurd h4 k2
theorem NI.relead (h:NI z n G i s) (hl:G.led s.term=some i) (hlog:s.log=G.L s.term):NI z n G i { s with leads:=true,next:=List.replicate s.n s.log.length,mat:=List.replicate s.n 0 }:=by
 refine ⟨h.ib,h.own,h.nn,h.vl,by show (List.replicate s.n 0).length=n;rw [fF];exact h.nn,h.t0,h.ok,h.top,h.Vf,h.ch,h.ledt,λ_=>⟨hl,hlog⟩,h.own2,h.vts,λ_ j hj _ h3=>?_,λ_ j=>?_,h.ag,h.ackF,h.many,h.bad⟩
 ·grind
 ·grind
theorem uG (hg:GI n G) (h:NI z n G i s) (hch:s.choice=(i:Int)) (hc:gL s=true):Stp z n i G (lead z e s):=by
 have hq:Maj n λj=>s.votes.getD j false:=by
  unfold gL dh at hc;rw [h.nn] at hc;have e:=iU s.votes id false;rw [h.vl] at e;have hc:=kQ hc;rw [e] at hc;exact hc
 obtain ⟨l0,b0,hv0⟩:∃(l0:Lg ρ) (b0:Bool),G.V i s.term=some (i,l0,b0):=by
  grind [h.ch]
 have key:∃G1,By i G G1/\GI n G1/\NI z n G1 i s/\G1.led s.term=some i/\G1.L s.term=s.log:=by
  cases hl:G.led s.term with
  | none=>exact ⟨_,h.elect hg hl hch ⟨_,hq,λj _ hj=>hj⟩⟩
  | some c =>
   by_cases hci:c=i
   ·grind [By.refl,h.own2]
   ·obtain ⟨q,q1,q2⟩:=hg.quo _ _ hl;obtain ⟨j,hj,j1,j2⟩:=q1.meet hq;obtain ⟨l,e1,_⟩:=q2 j hj j1;obtain ⟨l2,b2,_,_,e2,_⟩:=h.vts hch j hj j2;rw [e1] at e2;simp only [co,fW] at e2;exact absurd e2.1 hci
 obtain ⟨G1,hb,hg1,h1,hl1,hL1⟩:=key;obtain ⟨hb2,hg2,h2⟩:=(h1.relead hl1 hL1.symm).grow (x:=e) hg1 hl1 hL1.symm;have h3:=h2.settle hg2 rfl;obtain ⟨s1,s2,s3,_⟩:=jD (z:=z) (s:=place { s with leads:=true,next:=List.replicate s.n s.log.length,mat:=List.replicate s.n 0 } s.log.length (s.term,e));exact ⟨_,hb.trans hb2,hg2,h3,jk h3 s3⟩
theorem yv (hg:GI n G) (h:NI z n G i s):Stp z n i G (stand z e s):=by
 unfold stand;split
 ·exact Stp.of hg h (λm hm=>by cases hm)
 ·obtain ⟨G1,hb,hg1,h1,b,hv⟩:=h.stand hg;have e1:({ enter s (s.term+1) (s.own:Int) with ticks:=0,votes:=(List.replicate s.n false).set s.own true }:Nd ρ)={ enter s (s.term+1) (i:Int) with ticks:=0,votes:=(List.replicate n false).set i true }:=by rw [h.own,h.nn]
  simp only;rw [e1];split
  ·rename_i hc;exact (uG hg1 h1 rfl hc).step hb
  ·refine ⟨G1,hb,hg1,h1,λm hm=>?_⟩;obtain ⟨d,_,_,rfl⟩:=cJ _ _ _ hm;exact ⟨i,h.ib,by show ((s.own:Nat):Int)=_;rw [h.own],λ_ _=>⟨s.log,b,hv,rfl,rfl⟩,λk=>(by cases k),λk=>(by cases k),λk=>(by cases k)⟩
theorem um (hg:GI n G) (h:NI z n G i s):Stp z n i G (tick z e s):=by
 unfold tick;have h1:NI z n G i { s with clock:=s.clock+1 }:=h.tc s.ticks (s.clock+1) s.cnt s.heard;have h2:NI z n G i { s with clock:=s.clock+1,ticks:=s.ticks+1 }:=h.tc (s.ticks+1) (s.clock+1) s.cnt s.heard;simp only;split
 ·grind [Stp.of,jk]
 ·split
  ·exact yv hg h2
  ·split
   ·refine Stp.of hg h2 (λm hm=>?_);obtain ⟨d,_,_,rfl⟩:=cJ _ _ _ hm;exact pK h2 _ _ _ (by decide) (.inl (by decide)) (by decide) (.inl (by decide))
   ·grind [Stp.of]
theorem oJ (hg:GI n G) (h:NI z n G i s) (x:ρ):Stp z n i G ((submit z s x).1,(submit z s x).2.2):=by
 unfold submit;split
 ·exact Stp.of hg h (λm hm=>by cases hm)
 ·rename_i hl;split
  ·exact Stp.of hg h (λm hm=>by cases hm)
  ·have hl:s.leads=true:=by simpa using hl
   obtain ⟨d1,d2⟩:=h.lds hl;obtain ⟨hb2,hg2,h2⟩:=h.grow (x:=x) hg d1 d2;have h3:=h2.settle hg2 hl;obtain ⟨s1,s2,s3,_⟩:=jD (z:=z) (s:=place s s.log.length (s.term,x));exact ⟨_,hb2,hg2,h3,jk h3 (s3.trans hl)⟩
theorem Av (hg:GI n G) (h:NI z n G i s) (hm:MI n G m) (hk:m.kind=1) (hf:m.frm≠(i:Int)):Stp z n i G (asked s m):=by
 unfold asked;split
 ·rename_i hN;obtain ⟨f,hfn,hfe,h1,_⟩:=hm.f;obtain ⟨l0,b0,e1,e2,e3⟩:=h1 hk hN;have hfi:f≠i:=λe=>hf (by rw [hfe,e]);simp only;split
  ·rename_i hy;simp only [bk,cH,aW,aR] at hy;obtain ⟨⟨hy1,hy2⟩,hy3⟩:=hy;rw [hy1] at e1;have hu:ix l0 s.log:=by
    rw [e2,e3] at hy2;rcases hy2 with hy2 | ⟨hy2,hy4⟩
    ·exact .inl hy2
    ·exact .inr ⟨hy2.symm,by omega⟩
   split
   ·rename_i hc;rw [cH] at hc;obtain ⟨g1,g2,g3,g4⟩:=h.vote hg hc hfn hfi ⟨l0,b0,e1,hu⟩;refine ⟨_,g1,g2,?_,λx hx=>?_⟩
    ·rw [hfe];exact g3.tc 0 s.clock (s.cnt+1) s.heard
    ·rw [aj.1 hx];refine ⟨i,h.ib,by show ((s.own:Nat):Int)=_;rw [h.own],λk=>(by cases k),λ_ _=>⟨f,s.log,_,l0,b0,hfe,g4,g1.le.V _ _ _ e1,hu⟩,λk=>(by cases k),λk=>(by cases k)⟩
   ·rename_i hc;have hc:¬s.choice = -1:=by simpa using hc
    have hcf:s.choice=m.frm:=by
     omega
    obtain ⟨l,b,hv⟩:∃(l:Lg ρ) (b:Bool),G.V i s.term=some (f,l,b):=by
     grind [h.ch]
    obtain ⟨l1,b1,e4,e5⟩:=hg.utd _ _ _ _ _ hv;refine Stp.of hg (h.tc 0 s.clock s.cnt s.heard) (λx hx=>?_);rw [aj.1 hx];exact ⟨i,h.ib,by show ((s.own:Nat):Int)=_;rw [h.own],λk=>(by cases k),λ_ _=>⟨f,l,b,l1,b1,hfe,hv,e4,e5⟩,λk=>(by cases k),λk=>(by cases k)⟩
  ·grind [Stp.of,aj.1,pK]
 ·exact Stp.of hg h (λm hm=>by cases hm)
theorem yi (hg:GI n G) (h:NI z n G i s) (hm:MI n G m) (hk:m.kind=2) (hd:m.dst=(i:Int)):Stp z n i G (voted z e s m):=by
 unfold voted;split
 ·exact Stp.of hg h (λm hm=>by cases hm)
 ·rename_i hy;simp only [aW,aV,be,not_or,ne_eq,da,i7] at hy;obtain ⟨⟨⟨hy1,hy2⟩,hy3⟩,hy4⟩:=hy;obtain ⟨f,hfn,hfe,_,h1,_⟩:=hm.f;obtain ⟨d,l,b,l0,b0,e1,e2,e3,e4⟩:=h1 hk hy4;obtain rfl:d=i:=by omega
  rw [hy2] at e2 e3;rw [h.own] at hy3;have h2:NI z n G d { s with votes:=s.votes.set m.frm.toNat true }:=by
   refine ⟨h.ib,h.own,h.nn,by show (s.votes.set _ _).length=n;rw [cW];exact h.vl,h.ml,h.t0,h.ok,h.top,h.Vf,h.ch,h.ledt,h.lds,h.own2,λhc j hj hv=>?_,h.mat,h.next,h.ag,h.ackF,h.many,h.bad⟩;by_cases hjf:j=f
   ·grind
   ·grind [h.vts]
  simp only;split
  ·rename_i hc;exact uG hg h2 hy3 hc
  ·grind [Stp.of]
theorem sq (hg:GI n G) (h:NI z n G i s) (hm:MI n G m) (hk:m.kind=4) (hf:m.frm≠(i:Int)):Stp z n i G (answered z s m):=by
 unfold answered;split
 ·exact Stp.of hg h (λm hm=>by cases hm)
 ·rename_i hy;simp only [aW,aV,be,not_or,ne_eq,da,dB,aR,Int.not_lt] at hy;obtain ⟨⟨⟨⟨hl,hy2⟩,hy3⟩,hy4⟩,hy5⟩:=hy;obtain ⟨f,hfn,hfe,_,_,_,h1⟩:=hm.f;have hw:m.frm.toNat=f:=by omega
  have hfi:f≠i:=λe=>hf (by rw [hfe,e]);obtain ⟨d1,d2⟩:=h.lds hl;have hmat:∀j,j<n->j≠i->s.mat.getD j 0<=s.log.length:=λj hj hji=>by
   by_cases h0:s.mat.getD j 0=0
   ·omega
   ·have:=(hg.ack _ _ _ (h.mat hl j hj hji h0)).2.2;rw [d2];exact this
  simp only;rw [hw];split
  ·split
   ·exact Stp.of hg h (λm hm=>by cases hm)
   ·rename_i hN1 hnx;have h2:NI z n G i { s with next:=s.next.set f (max (m.N.getD 2 0).toNat (s.mat.getD f 0))}:=by
     refine ⟨h.ib,h.own,h.nn,h.vl,h.ml,h.t0,h.ok,h.top,h.Vf,h.ch,h.ledt,h.lds,h.own2,h.vts,h.mat,λ_ j=>?_,h.ag,h.ackF,h.many,h.bad⟩;show (s.next.set f _).getD j 0<=s.log.length;by_cases hjf:j=f
     ·grind
     ·rw [aK,List.getElem?_set_ne (by omega),<-aK];exact h.next hl j
    refine Stp.of hg h2 (λx hx=>?_);rw [aj.1 hx];exact lV h2 hl f
  ·rename_i hN1;split
   ·exact Stp.of hg h (λm hm=>by cases hm)
   ·rename_i hkm;have hak:=h1 hk hy3 hN1 hy4;rw [hy2] at hak;have h2:NI z n G i { s with mat:=s.mat.set f (m.N.getD 2 0).toNat,next:=s.next.set f (max (m.N.getD 2 0).toNat (s.next.getD f 0))}:=by
     refine ⟨h.ib,h.own,h.nn,h.vl,by show (s.mat.set _ _).length=n;rw [cW];exact h.ml,h.t0,h.ok,h.top,h.Vf,h.ch,h.ledt,h.lds,h.own2,h.vts,λ_ j hj hji h3=>?_,λ_ j=>?_,h.ag,h.ackF,h.many,h.bad⟩
     ·have h3:(s.mat.set f (m.N.getD 2 0).toNat).getD j 0≠0:=h3;show G.ack j s.term ((s.mat.set f (m.N.getD 2 0).toNat).getD j 0);by_cases hjf:j=f
      ·grind
      ·grind [h.mat]
     ·show (s.next.set f _).getD j 0<=s.log.length;by_cases hjf:j=f
      ·subst hjf;rw [aK];by_cases hlt:j<s.next.length
       ·rw [List.getElem?_set_self hlt];have:=h.next hl j;show max _ _<=_;omega
       ·grind
      ·rw [aK,List.getElem?_set_ne (by omega),<-aK];exact h.next hl j
    have h3:=h2.settle hg hl;obtain ⟨_,_,s3,_⟩:=jD (z:=z) (s:={ s with mat:=s.mat.set f (m.N.getD 2 0).toNat,next:=s.next.set f (max (m.N.getD 2 0).toNat (s.next.getD f 0))});have hl3:=s3.trans hl;split
    ·exact Stp.of hg h3 (jk h3 hl3)
    ·grind [Stp.of,aj.1,lV]
end
section
variable {ρ:Type} {z:ρ->Bool} {e:ρ}
variable {n i:Nat} {G G' G'':Gh ρ} {t t':Int} {l l' Lt:Lg ρ} {a a' k p q r:Nat} {s s':Nd ρ} {m:Ms ρ}
theorem mf (h:q<Lt.length) (r:Nat):(Lt.drop q).take (r+1)=Lt[q]::(Lt.drop (q+1)).take r:=by
 rw [sG h,List.take_succ_cons]
theorem lK (h:q<Lt.length):Lt.take q++[Lt[q]]=Lt.take (q+1):=by
 simp_all
theorem gC (h:q<Lt.length):bD Lt (q+1)=Lt[q].1:=tI Lt q h
theorem Bl (hp:∀k,k<Lt.length->1<=bD Lt (k+1)/\bD Lt (k+1)<=t) (p:Nat):∀(r j:Nat) (s:Nd ρ),s.term=t->s.log=Lt.take (p+j)->s.agreed<=p+j->p+j+r<=Lt.length ->
  ∃c,bE p ((Lt.drop (p+j)).take r) j s=(true,{ s with log:=Lt.take (p+j+r),cnt:=c }):=by
 intro r;induction r with
 | zero =>
  intro j s ht hl ha hr;exact ⟨s.cnt,by rw [List.take_zero,eK,<-hl];rfl⟩
 | succ r ih =>
  intro j s ht hl ha hr;have hq:p+j<Lt.length:=by omega
  have h1:=hp _ hq;rw [gC hq] at h1;have hlen:s.log.length=p+j:=by rw [hl,aE];omega
  rw [mf hq];have e0:Lt[p+j]=(Lt[p+j].1,Lt[p+j].2):=rfl;rw [e0];unfold bE;rw [aw (by omega),aw (by omega)];have hs:place s (p+j) (Lt[p+j].1,Lt[p+j].2)={ s with log:=Lt.take (p+(j+1)),cnt:=s.cnt+1 }:=by
   grind [place,cL,pv,lK]
  rw [hs];obtain ⟨c,hc⟩:=ih (j+1) { s with log:=Lt.take (p+(j+1)),cnt:=s.cnt+1 } ht rfl (by show s.agreed<=_;omega) (by omega);exact ⟨c,by rw [show p+j+1=p+(j+1) from rfl,hc,show p+j+(r+1)=p+(j+1)+r by omega]⟩
theorem uH {L:Int->Lg ρ} (hok:OkL L Lt) (hp:∀k,k<Lt.length->bD Lt (k+1)<=t) (p:Nat):∀(r j:Nat) (s:Nd ρ),s.term=t->OkL L s.log->s.log.take (p+j)=Lt.take (p+j)->p+j<=s.log.length->s.agreed<=s.log.length->s.log.take s.agreed=Lt.take s.agreed->p+j+r<=Lt.length ->
  ∃c lg,bE p ((Lt.drop (p+j)).take r) j s=(true,{ s with log:=lg,cnt:=c }) /\
   ((lg=s.log/\s.log.take (p+j+r)=Lt.take (p+j+r)/\p+j+r<=s.log.length) \/
    (lg=Lt.take (p+j+r)/\∃c,c<p+j+r/\s.agreed<=c/\(s.log.length<=c\/bD s.log (c+1)≠bD Lt (c+1)))):=by
 intro r;induction r with
 | zero =>
  intro j s ht hs hl hj ha hal hr;exact ⟨s.cnt,s.log,rfl,.inl ⟨rfl,hl,hj⟩⟩
 | succ r ih =>
  intro j s ht hs hl hj ha hal hr;have hq:p+j<Lt.length:=by omega
  have h1:Lt[p+j].1<=t:=by have:=hp _ hq;rw [gC hq] at this;exact this
  have h0:1<=Lt[p+j].1:=by have:=hok.pos _ hq;rw [gC hq] at this;exact this
  rw [mf hq];have e0:Lt[p+j]=(Lt[p+j].1,Lt[p+j].2):=rfl;rw [e0];unfold bE;by_cases hc:p+j<s.log.length/\bD s.log (p+j+1)=Lt[p+j].1
  ·rw [ax hc];have hsame:=hs.same hok (k:=p+j+1) (by omega) (by omega) (by rw [hc.2,gC hq]);obtain ⟨c,lg,h2,h3⟩:=ih (j+1) s ht hs hsame (by omega) ha hal (by omega);refine ⟨c,lg,h2,?_⟩;rw [show p+j+(r+1)=p+(j+1)+r by omega];exact h3
  ·rw [aw hc];have hag:s.agreed<=p+j:=by
     grind [rL,gC]
   rw [aw (by omega)];have hpl:place s (p+j) (Lt[p+j].1,Lt[p+j].2)={ s with log:=Lt.take (p+(j+1)),cnt:=s.cnt+1 }:=by
     unfold place;rw [hl,lK hq];rfl
   rw [hpl];obtain ⟨c,h2⟩:=Bl (t:=t) (λk hk=>⟨hok.pos k hk,hp k hk⟩) p r (j+1) { s with log:=Lt.take (p+(j+1)),cnt:=s.cnt+1 } ht rfl (by show s.agreed<=_;omega) (by omega);refine ⟨c,Lt.take (p+(j+1)+r),h2,.inr ⟨by rw [show p+(j+1)+r=p+j+(r+1) by omega],p+j,by omega,hag,?_⟩⟩;by_cases h3:p+j<s.log.length
   · grind [gC]
   · exact .inl (by omega)
def Gh.got (G:Gh ρ) (i:Nat) (t:Int) (r:Nat):Gh ρ:={ G with ack:=λj u k=>G.ack j u k\/(j=i/\u=t/\k<=r)}
theorem CC:By i G (G.got i t r) :=
 ⟨⟨λ_ _ e=>⟨e,rfl⟩,λ_=>xj _,λ_ _ _ e=>.inl e,λ_ _ _ e=>e⟩,λ_ _ _ e=>⟨e,rfl⟩,λ_ _ _=>rfl,λj u k hj e=>by
  rcases e with e | e
  ·exact e
  ·exact absurd e.1 hj⟩
theorem NI.got {f:Nat} {lg:Lg ρ} (hg:GI n G) (h:NI z n G i s) (hl:G.led s.term=some f) (hf:f≠i) (hr:r<=(G.L s.term).length) (c:Nat)
  (hlg:(lg=s.log/\s.log.take r=(G.L s.term).take r/\r<=s.log.length)\/(lg=(G.L s.term).take r/\∃c,c<r/\s.agreed<=c/\(s.log.length<=c\/bD s.log (c+1)≠bD (G.L s.term) (c+1))))
  (hal:s.log.take s.agreed=(G.L s.term).take s.agreed):By i G (G.got i s.term r)/\GI n (G.got i s.term r)/\NI z n (G.got i s.term r) i { s with log:=lg,cnt:=c }/\r<=lg.length/\lg.take r=(G.L s.term).take r:=by
 have hby:=CC (G:=G) (i:=i) (t:=s.term) (r:=r);have hle:=hby.le;have hln:G.led s.term≠none:=by rw [hl];simp
 have hrl:r<=lg.length/\lg.take r=(G.L s.term).take r:=by
  grind
 have hnl:s.leads=false:=by
  cases e:s.leads with
  | false=>rfl
  | true =>
   have:=(h.lds e).1;rw [hl] at this;simp only [co] at this;exact absurd this hf
 have hall:s.agreed<=lg.length/\lg.take s.agreed=s.log.take s.agreed:=by
  rcases hlg with ⟨rfl,h1,h2⟩ | ⟨rfl,c,c1,c2,_⟩
  ·exact ⟨h.ag.1,rfl⟩
  ·grind
 have hkeep:∀(P:Lg ρ),P <+: s.log->P <+: G.L s.term->P <+: lg:=λP h1 h2=>by
  rcases hlg with ⟨rfl,_⟩ | ⟨rfl,c,c1,c2,c3⟩
  ·exact h1
  ·have hP:P.length<=r:=by
    apply bz;intro hn;have hl1:=h1.length_le;rcases c3 with c3 | c3
    ·omega
    ·exact c3 (by rw [<-fq h1 (by omega),<-fq h2 (by omega)])
   rw [List.prefix_iff_eq_take] at h2 ⊢;rw [cL,bB hP];exact h2
 refine ⟨hby,⟨hg.led,hg.quo,λu j e=>⟨.inl (hg.self u j e).1,(hg.self u j e).2⟩,hg.pre,hg.top,hg.none_,hg.ok,hg.V,hg.utd,hg.late,λj u k e=>?_,λj u k k' e hk=>?_,λj u k u2 c2 l2 e1 e2 hu=>?_⟩,⟨h.ib,h.own,h.nn,h.vl,h.ml,h.t0,?_,?_,h.Vf,h.ch,h.ledt,λe=>?_,λl b e=>⟨λe1=>absurd e1 hln,λe1=>?_⟩,h.vts,λe=>?_,λe=>?_,?_,λu k e=>?_,?_,h.bad⟩,hrl⟩
 ·rcases e with e | ⟨rfl,rfl,e⟩
  ·exact hg.ack j u k e
  ·exact ⟨h.ib,hln,by show k<=(G.L s.term).length;omega⟩
 ·rcases e with e | ⟨rfl,rfl,e⟩
  ·exact .inl (hg.dn j u k k' e hk)
  ·exact .inr ⟨rfl,rfl,by omega⟩
 ·rcases e1 with e | ⟨rfl,rfl,e⟩
  ·exact hg.ackV j u k u2 c2 l2 e e2 hu
  ·have e2:G.V j u2=some (c2,l2,false):=e2;rw [h.Vf u2 hu] at e2;cases e2
 ·rcases hlg with ⟨rfl,_⟩ | ⟨rfl,_⟩
  ·exact h.ok
  ·exact (hg.ok _).take _
 ·show bD lg lg.length<=s.term;rcases hlg with ⟨rfl,_⟩ | ⟨rfl,c,c1,_⟩
  ·exact h.top
  ·rw [ed (by rw [aE];omega) hr];rcases hg.top s.term with h1 | h1
   ·exact cS ((hg.ok s.term).up _ _ (by rw [aE];omega) (ah _)) h1
   ·rw [h1] at hr;simp at hr;omega
 ·grind
 ·have e1:G.led s.term=some i:=e1;rw [hl] at e1;simp only [co] at e1;exact absurd e1 hf
 ·grind
 ·grind
 ·exact (h.ag.mono hle (aM _)).log hall.1 hall.2
 ·rcases e with e | ⟨_,rfl,e⟩
  ·obtain ⟨h1,h2⟩:=h.ackF u k e;refine ⟨h1,?_⟩;show (G.L u).take k <+: lg\/∃v,u<v/\v<=s.term/\G.led v≠none/\¬(G.L u).take k <+: G.C v;rcases h2 with h2 | h2
   ·by_cases hut:u=s.term
    ·grind
    ·by_cases hc:(G.L u).take k <+: G.C s.term
     ·exact .inl (hkeep _ h2 (hc.trans (hg.pre _ hln).1))
     ·grind
   ·exact .inr h2
  ·refine ⟨aM _,.inl ?_⟩;show (G.L s.term).take k <+: lg;rw [<-gt hrl.2 e];exact iY _ _
 ·show s.many=(recs z (lg.take s.agreed)).length;rw [hall.2];exact h.many
theorem Bi (hg:GI n G) (h:NI z n G i s) (hm:MI n G m) (hk:m.kind=3) (hf:m.frm≠(i:Int)) (ht:m.N.getD 0 0<=s.term):Stp z n i G (lays z s m):=by
 unfold lays;split
 ·exact Stp.of hg h (λm hm=>by cases hm)
 ·split
  ·grind [Stp.of,aj.1,pK]
  ·rename_i hlt;obtain ⟨f,hfn,hfe,_,_,h1,_⟩:=hm.f;obtain ⟨e1,p,a,e2,e3,e4,e5,e6,e7,e8⟩:=h1 hk;have hfi:f≠i:=λe=>hf (by rw [hfe,e]);have hT:m.N.getD 0 0=s.term:=by omega
   rw [hT] at e1 e3 e5 e7 e8;have hs1:NI z n G i { s with ticks:=0 }:=h.tc 0 s.clock s.cnt s.heard;simp only;split
   ·rename_i hfit;unfold ox at hfit;simp only [bk,aR,cH] at hfit;rw [e2] at hfit ⊢;obtain ⟨f1,f2⟩:=hfit;have f1:p<=s.log.length:=by have f1:(p:Int)<=(s.log.length:Int):=f1;omega
    have f2:bD s.log p=bD (G.L s.term) p:=by rw [<-e3];exact f2
    have hpp:=h.ok.same (hg.ok s.term) f1 (by omega) f2;have hal:s.log.take s.agreed=(G.L s.term).take s.agreed:=by
     rcases h.ag.2 with h2 | ⟨u,k,k1,k2,k3,k4⟩
     ·rw [h2];simp
     ·rw [k4];exact (gt (hg.later k1 k2 (by rw [e1];simp)) k3).symm
    have htop:∀k,k<(G.L s.term).length->bD (G.L s.term) (k+1)<=s.term:=λk hk=>by
     rcases hg.top s.term with h2 | h2
     ·exact cS ((hg.ok s.term).up _ _ (by omega) (ah _)) h2
     ·rw [h2] at hk;simp at hk
    have hpn:((p:Int)).toNat=p:=by omega
    rw [hpn,e7];obtain ⟨c,lg,c1,c2⟩:=uH (hg.ok s.term) htop p m.B.length 0 { s with ticks:=0 } rfl h.ok hpp f1 h.ag.1 hal e5;rw [eK] at c1 c2;rw [c1];simp only [if_true];obtain ⟨g1,g2,g3,g4,g5⟩:=hs1.got (r:=p+m.B.length) hg e1 hfi e5 c c2 hal;have hmin:(min (m.N.getD 3 0) ((p+m.B.length:Nat):Int)).toNat=min a (p+m.B.length):=by rw [e4];omega
    rw [hmin];have hagd:Agd n (G.got i s.term (p+m.B.length)) s.term lg (min a (p+m.B.length)):=by
     refine ((e8.mono g1.le (aM _)).less (Nat.min_le_left _ _)).log (aF (Nat.min_le_right _ _) g4) ?_;exact gt g5 (Nat.min_le_right _ _)
    have g6:=g3.agree hagd;obtain ⟨a1,a2,_⟩:=ig (z:=z) (s:={ s with ticks:=0,log:=lg,cnt:=c }) (min a (p+m.B.length));refine ⟨_,g1,g2,g6,λx hx=>?_⟩;rw [aj.1 hx];refine ⟨i,h.ib,?_,λk=>(by cases k),λk=>(by cases k),λk=>(by cases k),λ_ _ _ _=>?_⟩
    ·show (((X.agree z { s with ticks:=0,log:=lg,cnt:=c } (min a (p+m.B.length))).own:Nat):Int)=_;rw [g6.own]
    ·show (G.got i s.term (p+m.B.length)).ack i (X.agree z { s with ticks:=0,log:=lg,cnt:=c } (min a (p+m.B.length))).term _;rw [a2];refine .inr ⟨rfl,rfl,?_⟩;show (((p+m.B.length:Nat):Int)).toNat<=_;omega
   ·refine Stp.of hg hs1 (λx hx=>?_);rw [aj.1 hx];exact pK hs1 _ _ _ (by decide) (.inl (by decide)) (by decide) (.inr rfl)
theorem rS (hg:GI n G) (h:NI z n G i s) (hm:MI n G m) (hd:m.dst=(i:Int)) (hf:m.frm≠(i:Int)) (ht:m.N.getD 0 0<=s.term):Stp z n i G (getIn z e s m):=by
 unfold getIn;split
 ·rename_i hk;exact Av hg h hm hk hf
 ·split
  ·rename_i hk;exact yi hg h hm hk hd
  ·split
   ·rename_i hk;exact Bi hg h hm hk hf ht
   ·split
    ·rename_i hk;exact sq hg h hm hk hf
    ·split
     ·split
      ·exact Stp.of hg (h.tc s.ticks s.clock s.cnt _) (λm hm=>by cases hm)
      ·exact Stp.of hg h (λm hm=>by cases hm)
     ·exact Stp.of hg h (λm hm=>by cases hm)
theorem CF (hg:GI n G) (h:NI z n G i s) (hm:MI n G m):Stp z n i G (get z e s m):=by
 unfold get;split
 ·exact Stp.of hg h (λm hm=>by cases hm)
 ·rename_i hb;unfold nZ at hb;simp only [aW,aV,be,cH,not_or,ne_eq,da,aR] at hb;obtain ⟨⟨⟨⟨⟨⟨b1,b2⟩,b3⟩,b4⟩,b5⟩,b6⟩,b7⟩:=hb;rw [h.own] at b1 b2;split
  ·rename_i ht;exact rS hg (h.enter ht) hm b1 b2 (aM _)
  ·exact rS hg h hm b1 b2 (by omega)
end
end Go.Proofs.Ytnicaicjgaoolaa.X
