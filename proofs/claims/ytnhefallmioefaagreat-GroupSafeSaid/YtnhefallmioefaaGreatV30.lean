/-
  What the proof of the law leans on: contracts of the program's functions, one behind another. No condition.
-/
import Derived.Test.YtnhefallmioefaaGreatV0
import Derived.Test.YtnhefallmioefaaGreatV28
set_option linter.unusedVariables false
set_option linter.unusedSimpArgs false
namespace Go.Proofs.YtnhefallmioefaaGreat.X
abbrev Lg (ρ:Type):=List (Int×ρ)
section
variable {ρ:Type} {L L':Int->Lg ρ} {a b l:Lg ρ} {k m:Nat}
theorem jd (l:Lg ρ) (k:Nat):bF l (k+1)=match l[k]? with | some x=>x.1 | none=>0:=rfl
theorem tL (l:Lg ρ) (k:Nat) (h:k<l.length):bF l (k+1)=(l[k]'h).1:=by
 rw [jd,bK h]
theorem fF (h:a <+: b) (hk:k<=a.length):bF a k=bF b k:=by
 cases k with
 | zero=>rfl
 | succ k =>
  obtain ⟨c,rfl⟩:=h;rw [jd,jd,cI (by omega)]
theorem en (hk:k<=m) (hm:m<=l.length):bF (l.take m) k=bF l k:=fF (mx _ _) (by rw [aI];omega)
theorem jp (h:a <+: b) (hk:k<=a.length):a.take k=b.take k:=by
 obtain ⟨c,rfl⟩:=h;rw [cG hk]
theorem qX (h:a.take k=b.take k) (hk:k<=a.length):k<=b.length:=by
 grind [List.length,aI]
theorem iQ (h:a.take m=b.take m) (hk:k<=m):a.take k=b.take k:=by
 have:=DL (List.take k) h;simpa [cB,bi hk] using this
theorem zl (h:a.take m=b.take m) (hk:k<=m) (ha:m<=a.length):bF a k=bF b k:=by
 have hb:=qX h ha;rw [<-en hk ha,<-en hk hb,h]
theorem l6 (h:a.take k <+: b) (hk:k<=a.length):b.take k=a.take k:=by
 obtain ⟨c,hc⟩:=h;rw [<-hc,cG (by rw [aI];omega),cB,DM]
structure OkL (L:Int->Lg ρ) (l:Lg ρ):Prop where
 at_:∀k,k<l.length->l.take (k+1)=(L (bF l (k+1))).take (k+1)
 pos:∀k,k<l.length->1<=bF l (k+1)
 up:∀j k,j<=k->k<=l.length->bF l j<=bF l k
theorem OkL.nil:OkL L []:=⟨λk h=>by simp at h,λk h=>by simp at h,λj k h1 h2=>by
 obtain rfl:k=0:=by simpa using h2
 obtain rfl:j=0:=by omega
 exact aX _⟩
theorem OkL.mono (h:OkL L l) (hl:∀t,L t <+: L' t):OkL L' l :=
 ⟨λk hk=>by
  have h1:=h.at_ k hk;rw [h1];exact jp (hl _) (qX h1 (by omega)),h.pos,h.up⟩
theorem OkL.take (h:OkL L l) (m:Nat):OkL L (l.take m):=by
 by_cases hm:m<=l.length
 ·have e:(l.take m).length=m:=by rw [aI];omega
  refine ⟨λk hk=>?_,λk hk=>?_,λj k hj hk=>?_⟩
  ·grind [en,cB,bi,h.at_]
  ·rw [e] at hk;rw [en (by omega) hm];exact h.pos k (by omega)
  ·rw [e] at hk;rw [en (by omega) hm,en hk hm];exact h.up j k hj (by omega)
 ·grind [aZ]
theorem OkL.same (ha:OkL L a) (hb:OkL L b) (h1:k<=a.length) (h2:k<=b.length) (he:bF a k=bF b k):a.take k=b.take k:=by
 cases k with
 | zero=>rfl
 | succ k=>rw [ha.at_ k h1,hb.at_ k h2,he]
theorem OkL.snoc {t:Int} {x:ρ} (h:OkL L l) (h1:1<=t) (ht:bF l l.length<=t) (hL:L t=l++[(t,x)]):OkL L (l++[(t,x)]):=by
 have hl:∀k,k<=l.length->bF (l++[(t,x)]) k=bF l k:=λk hk=>(fF (List.prefix_append _ _) hk).symm;have hn:bF (l++[(t,x)]) (l.length+1)=t:=by rw [jd];simp
 have e:(l++[(t,x)]).length=l.length+1:=by simp
 refine ⟨λk hk=>?_,λk hk=>?_,λj k hj hk=>?_⟩
 ·rw [e] at hk;by_cases hk2:k<l.length
  ·grind [h.at_]
  ·grind
 ·rw [e] at hk;by_cases hk2:k<l.length
  ·rw [hl _ (by omega)];exact h.pos k hk2
  ·grind
 ·rw [e] at hk;by_cases hk2:k<=l.length
  ·rw [hl _ (by omega),hl _ (by omega)];exact h.up j k hj hk2
  ·obtain rfl:k=l.length+1:=by omega
   rw [hn];by_cases hj2:j<=l.length
   ·rw [hl _ hj2];exact fO (h.up j _ hj2 (ah _)) ht
   ·grind
def Maj (n:Nat) (q:Nat->Bool):Prop:=n<2*((List.range n).filter q).length
theorem tX (l:List Nat) (p q:Nat->Bool) (h:∀j∈l,¬(p j=true/\q j=true)):(l.filter p).length+(l.filter q).length<=l.length:=by
 induction l with
 | nil=>simp
 | cons x l ih =>
  have h1:=ih λj hj=>h j (aU _ hj);have h2:=h x cz;simp only [xt,aY];cases hp:p x<;>cases hq:q x<;>simp [hp,hq] at h2 ⊢ <;> omega
theorem Maj.meet {n:Nat} {p q:Nat->Bool} (h1:Maj n p) (h2:Maj n q):∃j,j<n/\p j=true/\q j=true:=by
 apply Classical.byContradiction;intro hn;have:=tX (List.range n) p q λj hj hpq=>hn ⟨j,cW.1 hj,hpq⟩;unfold Maj at h1 h2;rw [List.length_range] at this;omega
theorem lV {α:Type} (l:List α) (p:α->Bool) (d:α):(l.filter p).length=((List.range l.length).filter λj=>p (l.getD j d)).length:=by
 induction l with
 | nil=>rfl
 | cons x l ih =>
  rw [aY,List.range_succ_eq_map,xt,xt,List.filter_map];have e:((λj=>p ((x::l).getD j d)) ∘ Nat.succ)=λj=>p (l.getD j d):=by funext j;simp [Function.comp]
  rw [e];simp only [List.getD_cons_zero];split<;>simp [ih]
end
structure Gh (ρ:Type) where
 led:Int->Option Nat
 C:Int->Lg ρ
 L:Int->Lg ρ
 ack:Nat->Int->Nat->Prop
 V:Nat->Int->Option (Nat×Lg ρ×Bool)
section
variable {ρ:Type}
def B9 (a b:Lg ρ):Prop:=bF b b.length<bF a a.length\/(bF b b.length=bF a a.length/\b.length<=a.length)
structure QA (n:Nat) (G:Gh ρ) (t:Int) (k:Nat):Prop where
 k1:1<=k
 kl:k<=(G.L t).length
 tm:bF (G.L t) k=t
 led:G.led t≠none
 q:∃q,Maj n q/\∀j,j<n->q j=true->G.ack j t k
def Agd (n:Nat) (G:Gh ρ) (t:Int) (l:Lg ρ) (a:Nat):Prop:=a<=l.length/\(a=0\/∃u k,QA n G u k/\u<=t/\a<=k/\l.take a=(G.L u).take a)
structure GI (n:Nat) (G:Gh ρ):Prop where
 led:∀t i,G.led t=some i->i<n/\1<=t
 quo:∀t i,G.led t=some i->∃q,Maj n q/\∀j,j<n->q j=true->∃l,G.V j t=some (i,l,false)/\B9 (G.C t) l
 self:∀t i,G.led t=some i->G.ack i t (G.L t).length/\∃b,G.V i t=some (i,G.C t,b)
 pre:∀t,G.led t≠none->G.C t <+: G.L t/\bF (G.C t) (G.C t).length<t
 top:∀t,bF (G.L t) (G.L t).length<=t\/G.L t=[]
 none_:∀t,G.led t=none->G.L t=[]
 ok:∀t,OkL G.L (G.L t)
 V:∀j t c l b,G.V j t=some (c,l,b)->c<n/\OkL G.L l/\bF l l.length<=t/\(c=j->bF l l.length<t)
 utd:∀j t c l b,G.V j t=some (c,l,b)->∃l0 b0,G.V c t=some (c,l0,b0)/\B9 l0 l
 late:∀j t c l b,G.led t=none->G.V j t=some (c,l,b)->b=false
 ack:∀j t k,G.ack j t k->j<n/\G.led t≠none/\k<=(G.L t).length
 dn:∀j t k k',G.ack j t k'->k<=k'->G.ack j t k
 ackV:∀j t k t' c l,G.ack j t k->G.V j t'=some (c,l,false)->t<t'->(G.L t).take k <+: l\/∃u,t<u/\u<t'/\G.led u≠none/\¬(G.L t).take k <+: G.C u
structure Le (G G':Gh ρ):Prop where
 led:∀t i,G.led t=some i->G'.led t=some i/\G'.C t=G.C t
 L:∀t,G.L t <+: G'.L t
 ack:∀j t k,G.ack j t k->G'.ack j t k
 V:∀j t x,G.V j t=some x->G'.V j t=some x
structure By (i:Nat) (G G':Gh ρ):Prop where
 le:Le G G'
 led:∀t j,j≠i->G'.led t=some j->G.led t=some j/\G'.L t=G.L t
 V:∀j t,j≠i->G'.V j t=G.V j t
 ack:∀j t k,j≠i->G'.ack j t k->G.ack j t k
variable {n i:Nat} {G G' G'':Gh ρ} {t t':Int} {l l':Lg ρ} {a a' k:Nat}
theorem Le.refl (G:Gh ρ):Le G G:=⟨λ_ _ h=>⟨h,rfl⟩,λ_=>dZ _,λ_ _ _ h=>h,λ_ _ _ h=>h⟩
theorem Le.trans (h:Le G G') (h':Le G' G''):Le G G'' :=
 ⟨λt i e=>⟨(h'.led t i (h.led t i e).1).1,(h'.led t i (h.led t i e).1).2.trans (h.led t i e).2⟩,λt=>(h.L t).trans (h'.L t),λj t k e=>h'.ack j t k (h.ack j t k e),λj t x e=>h'.V j t x (h.V j t x e)⟩
theorem By.refl (i:Nat) (G:Gh ρ):By i G G:=⟨Le.refl G,λ_ _ _ h=>⟨h,rfl⟩,λ_ _ _=>rfl,λ_ _ _ _ h=>h⟩
theorem By.trans (h:By i G G') (h':By i G' G''):By i G G'' :=
 ⟨h.le.trans h'.le,λt j hj e=>by
  obtain ⟨e1,e2⟩:=h'.led t j hj e;obtain ⟨e3,e4⟩:=h.led t j hj e1;exact ⟨e3,e2.trans e4⟩,λj t hj=>(h'.V j t hj).trans (h.V j t hj),λj t k hj e=>h.ack j t k hj (h'.ack j t k hj e)⟩
theorem Le.ledN (h:Le G G') (e:G.led t≠none):G'.led t≠none/\G'.C t=G.C t:=by
 cases h1:G.led t with
 | none=>exact absurd h1 e
 | some i =>
  have:=h.led t i h1;exact ⟨by rw [this.1];simp,this.2⟩
theorem QA.mono (h:QA n G t k) (hl:Le G G'):QA n G' t k:=by
 obtain ⟨q,h1,h2⟩:=h.q;exact ⟨h.k1,aD h.kl (hl.L t).length_le,by rw [<-fF (hl.L t) h.kl];exact h.tm,(hl.ledN h.led).1,q,h1,λj hj e=>hl.ack j t k (h2 j hj e)⟩
theorem Agd.mono (h:Agd n G t l a) (hl:Le G G') (ht:t<=t'):Agd n G' t' l a:=by
 refine ⟨h.1,?_⟩;rcases h.2 with h1 | ⟨u,k,h1,h2,h3,h4⟩
 ·exact .inl h1
 ·exact .inr ⟨u,k,h1.mono hl,fO h2 ht,h3,by rw [h4];exact jp (hl.L u) (aD h3 h1.kl)⟩
theorem Agd.log (h:Agd n G t l a) (ha:a<=l'.length) (e:l'.take a=l.take a):Agd n G t l' a:=by
 refine ⟨ha,?_⟩;rcases h.2 with h1 | ⟨u,k,h1,h2,h3,h4⟩
 ·exact .inl h1
 ·grind
theorem Agd.less (h:Agd n G t l a) (ha:a'<=a):Agd n G t l a':=by
 refine ⟨aD ha h.1,?_⟩;rcases h.2 with h1 | ⟨u,k,h1,h2,h3,h4⟩
 ·exact .inl (by omega)
 ·grind [aD,iQ]
theorem OkL.whole {L:Int->Lg ρ} (h:OkL L l):l=(L (bF l l.length)).take l.length:=by
 cases e:l.length with
 | zero=>simp [br.1 e]
 | succ k =>
  have h1:=h.at_ k (by omega);rw [aZ (by omega)] at h1;exact h1
theorem GI.lc (h:GI n G) (hq:QA n G t k):∀(m:Nat) (t':Int),(t' - t).toNat<=m->t<t'->G.led t'≠none->(G.L t).take k <+: G.C t':=by
 intro m;induction m with
 | zero=>intro t' h1 h2;omega
 | succ m ih =>
  intro t' hm htt hl;obtain ⟨i,hi⟩:=Option.ne_none_iff_exists'.1 hl;obtain ⟨q',hq1,hq2⟩:=h.quo t' i hi;obtain ⟨q,hq3,hq4⟩:=hq.q;obtain ⟨j,hj,j1,j2⟩:=hq1.meet hq3;obtain ⟨l,hV,hU⟩:=hq2 j hj j1;have hack:=hq4 j hj j2;have hp:(G.L t).take k <+: l:=by
   grind [h.ackV]
  have hlen:((G.L t).take k).length=k:=by rw [aI];have:=hq.kl;omega
  have hkl:k<=l.length:=by have:=hp.length_le;omega
  have hlok:=(h.V j t' i l false hV).2.1;have hlk:bF l k=t:=by rw [<-fF hp (by omega),en (ah _) hq.kl];exact hq.tm
  have hlt:t<=bF l l.length:=by rw [<-hlk];exact hlok.up k _ hkl (ah _)
  obtain ⟨_,b,hVi⟩:=h.self t' i hi;have hcok:=(h.V i t' i _ b hVi).2.1;have hct:=(h.pre t' hl).2;have hc:=hcok.whole;rcases hU with hU | ⟨hU1,hU2⟩
  ·have hled:G.led (bF (G.C t') (G.C t').length)≠none:=by
    intro hn;rw [h.none_ _ hn] at hc;simp at hc;rw [hc] at hU;have:bF ([]:Lg ρ) ([]:Lg ρ).length=0:=rfl;have h2:=hlok.up 0 l.length (aH _) (ah _);have h3:bF l 0=0:=rfl;omega
   have hP:=(ih _ (by omega) (by omega) hled).trans (h.pre _ hled).1;have hkc:k<=(G.C t').length:=by
    apply Classical.byContradiction;intro hn;have e1:bF (G.C t') (G.C t').length=bF ((G.L t).take k) (G.C t').length:=by
     rw [fF hP (by omega)]
     conv=>lhs;rw [hc]
     rw [aI];have hcl:(G.C t').length<=(G.L (bF (G.C t') (G.C t').length)).length:=by
      grind
     rw [bi hcl,en (ah _) hcl]
    rw [en (by omega) hq.kl] at e1;have:=(h.ok t).up (G.C t').length k (by omega) hq.kl;rw [hq.tm] at this;omega
   have e2:(G.L (bF (G.C t') (G.C t').length)).take k=(G.L t).take k:=by
    grind [l6,cB,DM]
   rw [<-e2];have e3:(G.L (bF (G.C t') (G.C t').length)).take k=(G.C t').take k:=by
    grind
   rw [e3];exact mx _ _
  ·have hl2:=hlok.whole;rw [hU1] at hl2;have hlc:l <+: G.C t':=by
    grind
   exact hp.trans hlc
theorem GI.later (h:GI n G) (hq:QA n G t k) (htt:t<=t') (hl:G.led t'≠none):(G.L t').take k=(G.L t).take k:=by
 by_cases e:t=t'
 ·rw [e]
 ·have h1:=(h.lc hq _ t' (ah _) (by omega) hl).trans (h.pre t' hl).1;exact l6 h1 hq.kl
theorem GI.cmp (h:GI n G) (h1:Agd n G t l a) (h2:Agd n G t' l' a') (ha:a<=a'):l.take a=l'.take a:=by
 rcases h1.2 with e | ⟨u,k,p1,p2,p3,p4⟩
 ·subst e;simp
 rcases h2.2 with e | ⟨u',k',q1,q2,q3,q4⟩
 ·obtain rfl:a=0:=by omega
  simp
 rw [p4,iQ q4 ha];by_cases hu:u<=u'
 ·exact (iQ (h.later p1 hu q1.led) p3).symm
 ·exact iQ (h.later q1 (by omega) p1.led) (by omega)
theorem ya (l:Lg ρ):B9 l l:=.inr ⟨rfl,ah _⟩
end
section
variable {ρ:Type} (z:ρ->Bool)
structure NI (n:Nat) (G:Gh ρ) (i:Nat) (s:Nd ρ):Prop where
 ib:i<n
 own:s.own=i
 nn:s.n=n
 vl:s.votes.length=n
 ml:s.mat.length=n
 t0:0<=s.term
 ok:OkL G.L s.log
 top:bF s.log s.log.length<=s.term
 Vf:∀t,s.term<t->G.V i t=none
 ch:(s.choice = -1/\G.V i s.term=none)\/∃c l b,s.choice=((c:Nat):Int)/\G.V i s.term=some (c,l,b)
 ledt:∀t,G.led t=some i->t<=s.term
 lds:s.leads=true->G.led s.term=some i/\s.log=G.L s.term
 own2:∀l b,G.V i s.term=some (i,l,b)->(G.led s.term=none->s.log=l)/\(G.led s.term=some i->s.log=G.L s.term)
 vts:s.choice=(i:Int)->∀j,j<n->s.votes.getD j false=true->∃l b l0 b0,G.V j s.term=some (i,l,b)/\G.V i s.term=some (i,l0,b0)/\B9 l0 l
 mat:s.leads=true->∀j,j<n->j≠i->s.mat.getD j 0≠0->G.ack j s.term (s.mat.getD j 0)
 next:s.leads=true->∀j,s.next.getD j 0<=s.log.length
 ag:Agd n G s.term s.log s.agreed
 ackF:∀t k,G.ack i t k->t<=s.term/\((G.L t).take k <+: s.log\/∃u,t<u/\u<=s.term/\G.led u≠none/\¬(G.L t).take k <+: G.C u)
 many:s.many=(recs z (s.log.take s.agreed)).length
 bad:s.bad=false
structure MI (n:Nat) (G:Gh ρ) (m:Ms ρ):Prop where
 f:∃f:Nat,f<n/\m.frm=(f:Int) /\
  (m.kind=1->m.N.length=3->∃l b,G.V f (m.N.getD 0 0)=some (f,l,b)/\m.N.getD 1 0=(l.length:Int)/\m.N.getD 2 0=bF l l.length) /\
  (m.kind=2->m.N.getD 1 0=1->∃d:Nat,∃l b l0 b0,m.dst=(d:Int)/\G.V f (m.N.getD 0 0)=some (d,l,b)/\G.V d (m.N.getD 0 0)=some (d,l0,b0)/\B9 l0 l) /\
  (m.kind=3->G.led (m.N.getD 0 0)=some f/\∃p a:Nat,m.N.getD 1 0=(p:Int)/\m.N.getD 2 0=bF (G.L (m.N.getD 0 0)) p/\m.N.getD 3 0=(a:Int)/\p+m.B.length<=(G.L (m.N.getD 0 0)).length/\m.N.length=4+m.B.length/\(m.N.drop 4).zip m.B=((G.L (m.N.getD 0 0)).drop p).take m.B.length/\Agd n G (m.N.getD 0 0) (G.L (m.N.getD 0 0)) a) /\
  (m.kind=4->m.N.length=3->m.N.getD 1 0≠0->0<=m.N.getD 2 0->G.ack f (m.N.getD 0 0) (m.N.getD 2 0).toNat)
variable {z}
variable {n i:Nat} {G G' G'':Gh ρ} {t t':Int} {l l':Lg ρ} {a a' k:Nat} {s s':Nd ρ} {m:Ms ρ}
theorem MI.mono (h:MI n G m) (hl:Le G G'):MI n G' m:=by
 obtain ⟨f,hf,e,h1,h2,h3,h4⟩:=h.f;refine ⟨f,hf,e,λk1 k2=>?_,λk1 k2=>?_,λk1=>?_,λk1 k2 k3 k4=>hl.ack _ _ _ (h4 k1 k2 k3 k4)⟩
 ·grind [hl.V]
 ·grind [hl.V]
 ·obtain ⟨e1,p,a,e2,e3,e4,e5,e6,e7,e8⟩:=h3 k1;refine ⟨(hl.led _ _ e1).1,p,a,e2,?_,e4,aD e5 (hl.L _).length_le,e6,?_,?_⟩
  ·grind [fF,hl.L]
  ·rw [e7];obtain ⟨c,hc⟩:=hl.L (m.N.getD 0 0);rw [<-hc,List.drop_append_of_le_length (by omega),cG (by rw [bz];omega)]
  ·exact (e8.mono hl (aX _)).log (aD e8.1 (hl.L _).length_le) (jp (hl.L _) e8.1).symm
theorem NI.other {j:Nat} (hg:GI n G) (h:NI z n G j s) (hb:By i G G') (hj:j≠i):NI z n G' j s:=by
 have hV:∀t,G'.V j t=G.V j t:=λt=>hb.V j t hj;refine ⟨h.ib,h.own,h.nn,h.vl,h.ml,h.t0,h.ok.mono hb.le.L,h.top,λt ht=>by rw [hV];exact h.Vf t ht,by rw [hV];exact h.ch,λt e=>h.ledt t (hb.led t j hj e).1,λe=>?_,λl b e=>?_,λe j2 hj2 hv=>?_,λe j2 h1 h2 h3=>hb.le.ack _ _ _ (h.mat e j2 h1 h2 h3),h.next,h.ag.mono hb.le (aX _),λt k e=>?_,h.many,h.bad⟩
 ·have h1:=h.lds e;have h2:=(hb.le.led _ _ h1.1).1;exact ⟨h2,by rw [(hb.led _ j hj h2).2];exact h1.2⟩
 ·rw [hV] at e;have h1:=h.own2 l b e;refine ⟨λe1=>h1.1 ?_,λe1=>?_⟩
  ·cases e2:G.led s.term with
   | none=>rfl
   | some x=>rw [(hb.le.led _ _ e2).1] at e1;cases e1
  ·grind [hb.led]
 ·obtain ⟨l,b,l0,b0,e1,e2,e3⟩:=h.vts e j2 hj2 hv;exact ⟨l,b,l0,b0,hb.le.V _ _ _ e1,hb.le.V _ _ _ e2,e3⟩
 ·have e2:=hb.ack j t k hj e;have hk:=(hg.ack j t k e2).2.2;have hT:(G'.L t).take k=(G.L t).take k:=(jp (hb.le.L t) hk).symm;obtain ⟨h1,h2⟩:=h.ackF t k e2;refine ⟨h1,?_⟩;rw [hT];rcases h2 with h2 | ⟨u,u1,u2,u3,u4⟩
  ·exact .inl h2
  ·exact .inr ⟨u,u1,u2,(hb.le.ledN u3).1,by rw [(hb.le.ledN u3).2];exact u4⟩
theorem NI.ledch (hg:GI n G) (h:NI z n G i s) (e:G.led s.term=some i):s.choice=(i:Int):=by
 obtain ⟨b,hv⟩:=(hg.self _ _ e).2;rcases h.ch with ⟨_,h1⟩ | ⟨c,l,b2,h1,h2⟩
 ·rw [h1] at hv;cases hv
 ·grind
theorem NI.enter (h:NI z n G i s) (ht:s.term<t):NI z n G i (enter s t (-1)):=by
 have e0:(s.leads && !decide (s.term<t))=false:=by simp [ht]
 refine ⟨h.ib,h.own,h.nn,h.vl,h.ml,?_,h.ok,?_,λt2 h2=>h.Vf t2 ?_,.inl ⟨rfl,h.Vf t ht⟩,λt2 e=>?_,λe=>?_,λl b e=>?_,λe=>?_,λe=>?_,λe=>?_,?_,λt2 k e=>?_,h.many,h.bad⟩
 ·show 0<=t;have:=h.t0;omega
 ·show bF s.log s.log.length<=t;have:=h.top;omega
 ·have h2:t<t2:=h2;omega
 ·show t2<=t;have:=h.ledt t2 e;omega
 ·have e:(s.leads && !decide (s.term<t))=true:=e;rw [e0] at e;cases e
 ·have e:G.V i t=some (i,l,b):=e;rw [h.Vf t ht] at e;cases e
 ·have e:(-1:Int)=(i:Int):=e;omega
 ·have e:(s.leads && !decide (s.term<t))=true:=e;rw [e0] at e;cases e
 ·have e:(s.leads && !decide (s.term<t))=true:=e;rw [e0] at e;cases e
 ·exact h.ag.mono (Le.refl G) (Int.le_of_lt ht)
 ·obtain ⟨h1,h2⟩:=h.ackF t2 k e;refine ⟨by show t2<=t;omega,?_⟩;rcases h2 with h2 | ⟨u,u1,u2,u3⟩
  ·exact .inl h2
  ·exact .inr ⟨u,u1,by show u<=t;omega,u3⟩
def Gh.vote (G:Gh ρ) (i:Nat) (t:Int) (c:Nat) (l:Lg ρ):Gh ρ:={ G with V:=λj u=>if j=i/\u=t then some (c,l,(G.led t).isSome) else G.V j u }
theorem qi {c:Nat} (h:G.V i t=none):By i G (G.vote i t c l):=by
 refine ⟨⟨λt j e=>⟨e,rfl⟩,λ_=>dZ _,λ_ _ _ e=>e,λj u x e=>?_⟩,λ_ _ _ e=>⟨e,rfl⟩,λj u hj=>?_,λ_ _ _ _ e=>e⟩
 ·show (if j=i/\u=t then _ else _)=_;rw [aw]
  ·exact e
  ·rintro ⟨rfl,rfl⟩;rw [h] at e;cases e
 ·show (if j=i/\u=t then _ else _)=_;rw [aw (λe=>hj e.1)]
theorem dY {c:Nat}:(G.vote i t c l).V i t=some (c,l,(G.led t).isSome):=by
 show (if i=i/\t=t then _ else _)=_;rw [aA ⟨rfl,rfl⟩]
theorem jM {c j:Nat} {u:Int} (h:¬(j=i/\u=t)):(G.vote i t c l).V j u=G.V j u:=by
 show (if j=i/\u=t then _ else _)=_;rw [aw h]
theorem GI.vote {c:Nat} (hg:GI n G) (h:NI z n G i s) (hv:G.V i t=none) (ht:s.term<=t) (hc:c<n) (hci:c=i->s.term<t) (hu:c=i\/∃l0 b0,G.V c t=some (c,l0,b0)/\B9 l0 s.log):GI n (G.vote i t c s.log):=by
 have hle:=(qi (c:=c) (l:=s.log) hv).le;refine ⟨hg.led,λu j e=>?_,λu j e=>?_,hg.pre,hg.top,hg.none_,hg.ok,λj u c2 l2 b2 e=>?_,λj u c2 l2 b2 e=>?_,λj u c2 l2 b2 e1 e=>?_,hg.ack,hg.dn,λj u k u2 c2 l2 e1 e2 hu=>?_⟩
 ·obtain ⟨q,q1,q2⟩:=hg.quo u j e;refine ⟨q,q1,λj2 h1 h2=>?_⟩;obtain ⟨l,e1,e2⟩:=q2 j2 h1 h2;exact ⟨l,hle.V _ _ _ e1,e2⟩
 ·obtain ⟨e1,b,e2⟩:=hg.self u j e;exact ⟨e1,b,hle.V _ _ _ e2⟩
 ·by_cases hju:j=i/\u=t
  ·obtain ⟨rfl,rfl⟩:=hju;rw [dY] at e;simp only [bW,dC] at e;obtain ⟨rfl,rfl,rfl⟩:=e;have:=h.top;exact ⟨hc,h.ok,by omega,λe=>by have:=hci e;omega⟩
  ·rw [jM hju] at e;exact hg.V j u c2 l2 b2 e
 ·by_cases hju:j=i/\u=t
  ·obtain ⟨rfl,rfl⟩:=hju;rw [dY] at e;simp only [bW,dC] at e;obtain ⟨rfl,rfl,rfl⟩:=e;rcases hu with rfl | ⟨l0,b0,e1,e2⟩
   ·exact ⟨s.log,_,dY,.inr ⟨rfl,ah _⟩⟩
   ·exact ⟨l0,b0,hle.V _ _ _ e1,e2⟩
  ·grind [jM,hg.utd,hle.V]
 ·by_cases hju:j=i/\u=t
  ·obtain ⟨rfl,rfl⟩:=hju;rw [dY] at e;simp only [bW,dC] at e;rw [<-e.2.2];have e1:G.led u=none:=e1;rw [e1];rfl
  ·rw [jM hju] at e;exact hg.late j u c2 l2 b2 e1 e
 ·by_cases hju:j=i/\u2=t
  ·obtain ⟨rfl,rfl⟩:=hju;rw [dY] at e2;simp only [bW,dC] at e2;obtain ⟨rfl,rfl,e3⟩:=e2;obtain ⟨h1,h2⟩:=h.ackF u k e1;rcases h2 with h2 | ⟨v,v1,v2,v3,v4⟩
   ·exact .inl h2
   ·refine .inr ⟨v,v1,?_,v3,v4⟩;have:v≠u2:=by
     intro e;subst e;cases e5:G.led v with
     | none=>exact v3 e5
     | some x=>rw [e5] at e3;cases e3
    omega
  ·rw [jM hju] at e2;exact hg.ackV j u k u2 c2 l2 e1 e2 hu
theorem NI.vote {c:Nat} (hg:GI n G) (h:NI z n G i s) (hch:s.choice = -1) (hc:c<n) (hci:c≠i) (hu:∃l0 b0,G.V c s.term=some (c,l0,b0)/\B9 l0 s.log):By i G (G.vote i s.term c s.log)/\GI n (G.vote i s.term c s.log)/\NI z n (G.vote i s.term c s.log) i (X.enter s s.term (c:Int))/\(G.vote i s.term c s.log).V i s.term=some (c,s.log,(G.led s.term).isSome):=by
 have hv:G.V i s.term=none:=by
  grind [h.ch]
 have hby:=qi (c:=c) (l:=s.log) hv;refine ⟨hby,hg.vote h hv (aX _) hc (λe=>absurd e hci) (.inr hu),?_,dY⟩;have hle:=hby.le;have hnl:G.led s.term≠some i:=λe=>by
  grind [h.ledch]
 have hnld:s.leads=false:=by
  cases e:s.leads with
  | false=>rfl
  | true=>exact absurd (h.lds e).1 hnl
 have e0:(s.leads && !decide (s.term<s.term))=false:=by rw [hnld];rfl
 refine ⟨h.ib,h.own,h.nn,h.vl,h.ml,h.t0,h.ok,h.top,λt2 h2=>?_,.inr ⟨c,s.log,_,rfl,dY⟩,h.ledt,λe=>?_,λl b e=>?_,λe=>?_,λe=>?_,λe=>?_,h.ag.mono hle (aX _),λt2 k e=>h.ackF t2 k e,h.many,h.bad⟩
 ·have h2:s.term<t2:=h2;rw [jM (by omega)];exact h.Vf t2 h2
 ·have e:(s.leads && !decide (s.term<s.term))=true:=e;rw [e0] at e;cases e
 ·have e:(G.vote i s.term c s.log).V i s.term=some (i,l,b):=e;rw [dY] at e;simp only [bW,dC] at e;exact absurd e.1 hci
 ·have e:((c:Nat):Int)=(i:Int):=e;omega
 ·have e:(s.leads && !decide (s.term<s.term))=true:=e;rw [e0] at e;cases e
 ·have e:(s.leads && !decide (s.term<s.term))=true:=e;rw [e0] at e;cases e
theorem NI.stand (hg:GI n G) (h:NI z n G i s):∃G',By i G G'/\GI n G'/\NI z n G' i { X.enter s (s.term+1) (i:Int) with ticks:=0,votes:=(List.replicate n false).set i true }/\∃b,G'.V i (s.term+1)=some (i,s.log,b):=by
 have hv:G.V i (s.term+1)=none:=h.Vf _ (by omega);have hby:=qi (c:=i) (l:=s.log) hv;refine ⟨G.vote i (s.term+1) i s.log,hby,hg.vote h hv (by omega) h.ib (λ_=>by omega) (.inl rfl),?_,_,dY⟩;have hle:=hby.le;have e0:(s.leads && !decide (s.term<s.term+1))=false:=by simp;intro;omega
 have hnl:G.led (s.term+1)≠some i:=λe=>by have:=h.ledt _ e;omega
 refine ⟨h.ib,h.own,h.nn,by simp,h.ml,?_,h.ok,?_,λt2 h2=>?_,.inr ⟨i,s.log,_,rfl,dY⟩,λt2 e=>?_,λe=>?_,λl b e=>?_,λ_ j hj hv=>?_,λe=>?_,λe=>?_,h.ag.mono hle ?_,λt2 k e=>?_,h.many,h.bad⟩
 ·show 0<=s.term+1;have:=h.t0;omega
 ·show bF s.log s.log.length<=s.term+1;have:=h.top;omega
 ·have h2:s.term+1<t2:=h2;rw [jM (by omega)];exact h.Vf t2 (by omega)
 ·show t2<=s.term+1;have:=h.ledt t2 e;omega
 ·have e:(s.leads && !decide (s.term<s.term+1))=true:=e;rw [e0] at e;cases e
 ·have e:(G.vote i (s.term+1) i s.log).V i (s.term+1)=some (i,l,b):=e;rw [dY] at e;simp only [bW,dC] at e;exact ⟨λ_=>e.2.1,λe=>absurd e hnl⟩
 ·have hv:((List.replicate n false).set i true).getD j false=true:=hv;have e:j=i:=by
   grind
  subst e;exact ⟨s.log,_,s.log,_,dY,dY,ya _⟩
 ·have e:(s.leads && !decide (s.term<s.term+1))=true:=e;rw [e0] at e;cases e
 ·have e:(s.leads && !decide (s.term<s.term+1))=true:=e;rw [e0] at e;cases e
 ·show s.term<=s.term+1;omega
 ·obtain ⟨h1,h2⟩:=h.ackF t2 k e;refine ⟨by show t2<=s.term+1;omega,?_⟩;rcases h2 with h2 | ⟨u,u1,u2,u3⟩
  ·exact .inl h2
  ·exact .inr ⟨u,u1,by show u<=s.term+1;omega,u3⟩
end
section
variable {ρ:Type} {z:ρ->Bool}
variable {n i:Nat} {G G' G'':Gh ρ} {t t':Int} {l l':Lg ρ} {a a' k:Nat} {s s':Nd ρ} {m:Ms ρ}
def Gh.elect (G:Gh ρ) (i:Nat) (t:Int) (l:Lg ρ):Gh ρ :=
  { led:=λu=>if u=t then some i else G.led u,C:=λu=>if u=t then l else G.C u,L:=λu=>if u=t then l else G.L u,
    ack:=λj u k=>G.ack j u k\/(j=i/\u=t/\k<=l.length),V:=G.V }
theorem zY (hg:GI n G) (hl:G.led t=none):By i G (G.elect i t l):=by
 have hne:∀u j,G.led u=some j->u≠t:=λu j e h=>by rw [h,hl] at e;cases e
 refine ⟨⟨λu j e=>?_,λu=>?_,λ_ _ _ e=>.inl e,λ_ _ _ e=>e⟩,λu j hj e=>?_,λ_ _ _=>rfl,λj u k hj e=>?_⟩
 ·have:=hne u j e;exact ⟨by show (if u=t then _ else _)=_;rw [aw this];exact e,by show (if u=t then _ else _)=_;rw [aw this]⟩
 ·show _ <+: (if u=t then l else G.L u)
  by_cases e:u=t
  ·grind [hg.none_]
  ·rw [aw e];exact dZ _
 ·have e:(if u=t then some i else G.led u)=some j:=e;by_cases h:u=t
  ·grind
  ·rw [aw h] at e;exact ⟨e,by show (if u=t then l else G.L u)=_;rw [aw h]⟩
 ·rcases e with e | e
  ·exact e
  ·exact absurd e.1 hj
theorem NI.elect (hg:GI n G) (h:NI z n G i s) (hl:G.led s.term=none) (hch:s.choice=(i:Int)) (hq:∃q,Maj n q/\∀j,j<n->q j=true->s.votes.getD j false=true) :
  By i G (G.elect i s.term s.log)/\GI n (G.elect i s.term s.log)/\NI z n (G.elect i s.term s.log) i s/\(G.elect i s.term s.log).led s.term=some i/\(G.elect i s.term s.log).L s.term=s.log:=by
 have hby:=zY (i:=i) (l:=s.log) hg hl;have hle:=hby.le;have hL1:(G.elect i s.term s.log).L s.term=s.log:=aA rfl;have hC1:(G.elect i s.term s.log).C s.term=s.log:=aA rfl;have hl1:(G.elect i s.term s.log).led s.term=some i:=aA rfl;have hL2:∀u,u≠s.term->(G.elect i s.term s.log).L u=G.L u:=λu e=>aw e;have hC2:∀u,u≠s.term->(G.elect i s.term s.log).C u=G.C u:=λu e=>aw e;have hl2:∀u,u≠s.term->(G.elect i s.term s.log).led u=G.led u:=λu e=>aw e;obtain ⟨c,l0,b0,hc0,hv0⟩:∃(c:Nat) (l0:Lg ρ) (b0:Bool),s.choice=((c:Nat):Int)/\G.V i s.term=some (c,l0,b0):=by
  grind [h.ch]
 obtain rfl:c=i:=by rw [hch] at hc0;omega
 have hlog:s.log=l0:=(h.own2 l0 b0 hv0).1 hl;have hlt:bF s.log s.log.length<s.term:=by rw [hlog];exact (hg.V _ _ _ _ _ hv0).2.2.2 rfl
 have h1t:1<=s.term:=by
  have:=h.ok.up 0 s.log.length (aH _) (ah _);have h3:bF s.log 0=0:=rfl;omega
 have hne:∀j u k,G.ack j u k->u≠s.term:=λj u k e h2=>(hg.ack j u k e).2.1 (by rw [h2];exact hl);refine ⟨hby,⟨λu j e=>?_,λu j e=>?_,λu j e=>?_,λu e=>?_,λu=>?_,λu e=>?_,λu=>?_,λj u c2 l2 b2 e=>?_,hg.utd,λj u c2 l2 b2 e1 e=>?_,λj u k e=>?_,λj u k k' e hk=>?_,λj u k u2 c2 l2 e1 e2 hu=>?_⟩,⟨h.ib,h.own,h.nn,h.vl,h.ml,h.t0,h.ok.mono hle.L,h.top,h.Vf,h.ch,λu e=>?_,λe=>?_,λl b e=>?_,h.vts,λe j h1 h2 h3=>.inl (h.mat e j h1 h2 h3),h.next,h.ag.mono hle (aX _),λu k e=>?_,h.many,h.bad⟩,hl1,hL1⟩
 ·by_cases h2:u=s.term
  ·grind [h.ib]
  ·rw [hl2 u h2] at e;exact hg.led u j e
 ·by_cases h2:u=s.term
  ·subst h2;rw [hl1] at e;simp only [bW] at e;subst e;obtain ⟨q,q1,q2⟩:=hq;refine ⟨q,q1,λj hj hqj=>?_⟩;obtain ⟨l,b,l1,b1,e1,e2,e3⟩:=h.vts hch j hj (q2 j hj hqj);have hb:=hg.late _ _ _ _ _ hl e1;subst hb;rw [hv0] at e2;simp only [bW,dC] at e2;rw [hC1,hlog,e2.2.1];exact ⟨l,e1,e3⟩
  ·rw [hl2 u h2] at e;rw [hC2 u h2];exact hg.quo u j e
 ·by_cases h2:u=s.term
  ·subst h2;rw [hl1] at e;simp only [bW] at e;subst e;rw [hL1,hC1];exact ⟨.inr ⟨rfl,rfl,ah _⟩,b0,by rw [hlog];exact hv0⟩
  ·rw [hl2 u h2] at e;rw [hL2 u h2,hC2 u h2];obtain ⟨e1,e2⟩:=hg.self u j e;exact ⟨.inl e1,e2⟩
 ·by_cases h2:u=s.term
  ·grind
  ·grind [hg.pre]
 ·by_cases h2:u=s.term
  ·subst h2;rw [hL1];exact .inl (by omega)
  ·rw [hL2 u h2];exact hg.top u
 ·by_cases h2:u=s.term
  ·subst h2;rw [hl1] at e;cases e
  ·grind [hg.none_]
 ·by_cases h2:u=s.term
  ·subst h2;rw [hL1];exact h.ok.mono hle.L
  ·rw [hL2 u h2];exact (hg.ok u).mono hle.L
 ·obtain ⟨e1,e2,e3⟩:=hg.V j u c2 l2 b2 e;exact ⟨e1,e2.mono hle.L,e3⟩
 ·by_cases h2:u=s.term
  ·subst h2;rw [hl1] at e1;cases e1
  ·rw [hl2 u h2] at e1;exact hg.late j u c2 l2 b2 e1 e
 ·rcases e with e | ⟨rfl,rfl,e⟩
  ·have h2:=hne j u k e;rw [hl2 u h2,hL2 u h2];exact hg.ack j u k e
  ·grind [h.ib]
 ·rcases e with e | ⟨rfl,rfl,e⟩
  ·exact .inl (hg.dn j u k k' e hk)
  ·exact .inr ⟨rfl,rfl,by omega⟩
 ·rcases e1 with e | ⟨rfl,rfl,e⟩
  ·have h2:=hne j u k e;rw [hL2 u h2];rcases hg.ackV j u k u2 c2 l2 e e2 hu with h3 | ⟨v,v1,v2,v3,v4⟩
   ·exact .inl h3
   ·grind
  ·have e2:G.V j u2=some (c2,l2,false):=e2;rw [h.Vf u2 hu] at e2;cases e2
 ·by_cases h2:u=s.term
  ·omega
  ·rw [hl2 u h2] at e;exact h.ledt u e
 ·grind
 ·grind
 ·rcases e with e | ⟨_,rfl,e⟩
  ·have h2:=hne _ u k e;rw [hL2 u h2];obtain ⟨h3,h4⟩:=h.ackF u k e;refine ⟨h3,?_⟩;rcases h4 with h4 | ⟨v,v1,v2,v3,v4⟩
   ·exact .inl h4
   ·grind
  ·grind
def Gh.grow (G:Gh ρ) (i:Nat) (t:Int) (x:ρ):Gh ρ :=
 { G with L:=λu=>if u=t then G.L t++[(t,x)] else G.L u,ack:=λj u k=>G.ack j u k\/(j=i/\u=t/\k<=(G.L t).length+1)}
theorem Bx {x:ρ} (hl:G.led t=some i):By i G (G.grow i t x):=by
 refine ⟨⟨λu j e=>⟨e,rfl⟩,λu=>?_,λ_ _ _ e=>.inl e,λ_ _ _ e=>e⟩,λu j hj e=>⟨e,?_⟩,λ_ _ _=>rfl,λj u k hj e=>?_⟩
 ·show _ <+: (if u=t then _ else G.L u)
  by_cases e:u=t
  ·grind
  ·rw [aw e];exact dZ _
 ·show (if u=t then _ else G.L u)=_;rw [aw];intro h;have e:G.led u=some j:=e;rw [h,hl] at e;simp only [bW] at e;exact hj e.symm
 ·rcases e with e | e
  ·exact e
  ·exact absurd e.1 hj
theorem NI.grow {x:ρ} (hg:GI n G) (h:NI z n G i s) (hl:G.led s.term=some i) (hlog:s.log=G.L s.term) :
  By i G (G.grow i s.term x)/\GI n (G.grow i s.term x)/\NI z n (G.grow i s.term x) i (place s s.log.length (s.term,x)):=by
 have hby:=Bx (x:=x) hl;have hle:=hby.le;have hL1:(G.grow i s.term x).L s.term=s.log++[(s.term,x)]:=by show (if s.term=s.term then _ else _)=_;rw [aA rfl,hlog]
 have hL2:∀u,u≠s.term->(G.grow i s.term x).L u=G.L u:=λu e=>aw e;have hlen:(s.log++[(s.term,x)]).length=s.log.length+1:=by simp
 have h1t:=(hg.led _ _ hl).2;have hok:OkL (G.grow i s.term x).L (s.log++[(s.term,x)]):=(h.ok.mono hle.L).snoc h1t h.top hL1;have hlast:bF (s.log++[(s.term,x)]) (s.log++[(s.term,x)]).length=s.term:=by rw [hlen,jd];simp
 have hpl:(place s s.log.length (s.term,x)).log=s.log++[(s.term,x)]:=by show s.log.take s.log.length++_=_;rw [cK]
 have hT:∀j u k,G.ack j u k->((G.grow i s.term x).L u).take k=(G.L u).take k:=λj u k e=>(jp (hle.L u) (hg.ack j u k e).2.2).symm;refine ⟨hby,⟨hg.led,hg.quo,λu j e=>?_,λu e=>?_,λu=>?_,λu e=>?_,λu=>?_,λj u c2 l2 b2 e=>?_,hg.utd,hg.late,λj u k e=>?_,λj u k k' e hk=>?_,λj u k u2 c2 l2 e1 e2 hu=>?_⟩,⟨h.ib,h.own,h.nn,h.vl,h.ml,h.t0,by rw [hpl];exact hok,by rw [hpl,hlast];exact aX _,h.Vf,h.ch,h.ledt,λe=>⟨hl,by rw [hpl];exact hL1.symm⟩,λl b e=>⟨λe1=>?_,λ_=>by rw [hpl];exact hL1.symm⟩,h.vts,λe j h1 h2 h3=>.inl (h.mat e j h1 h2 h3),λe j=>?_,?_,λu k e=>?_,?_,h.bad⟩⟩
 ·by_cases h2:u=s.term
  ·subst h2;have e:G.led s.term=some j:=e;rw [hl] at e;simp only [bW] at e;subst e;rw [hL1,hlen];exact ⟨.inr ⟨rfl,rfl,by rw [hlog];exact ah _⟩,(hg.self _ _ hl).2⟩
  ·rw [hL2 u h2];exact ⟨.inl (hg.self u j e).1,(hg.self u j e).2⟩
 ·exact ⟨(hg.pre u e).1.trans (hle.L u),(hg.pre u e).2⟩
 ·by_cases h2:u=s.term
  ·grind
  ·rw [hL2 u h2];exact hg.top u
 ·have h2:u≠s.term:=λh2=>by
   have e:G.led u=none:=e;rw [h2,hl] at e;cases e
  rw [hL2 u h2];exact hg.none_ u e
 ·by_cases h2:u=s.term
  ·subst h2;rw [hL1];exact hok
  ·rw [hL2 u h2];exact (hg.ok u).mono hle.L
 ·obtain ⟨e1,e2,e3⟩:=hg.V j u c2 l2 b2 e;exact ⟨e1,e2.mono hle.L,e3⟩
 ·rcases e with e | ⟨rfl,rfl,e⟩
  ·obtain ⟨e1,e2,e3⟩:=hg.ack j u k e;exact ⟨e1,e2,aD e3 (hle.L u).length_le⟩
  ·exact ⟨h.ib,by show G.led s.term≠none;rw [hl];simp,by rw [hL1,hlen,hlog];exact e⟩
 ·rcases e with e | ⟨rfl,rfl,e⟩
  ·exact .inl (hg.dn j u k k' e hk)
  ·exact .inr ⟨rfl,rfl,by omega⟩
 ·rcases e1 with e | ⟨rfl,rfl,e⟩
  ·rw [hT j u k e];exact hg.ackV j u k u2 c2 l2 e e2 hu
  ·have e2:G.V j u2=some (c2,l2,false):=e2;rw [h.Vf u2 hu] at e2;cases e2
 ·have e1:G.led s.term=none:=e1;rw [hl] at e1;cases e1
 ·rw [hpl,hlen];have:=h.next e j;show s.next.getD j 0<=_;omega
 ·have h1:=h.ag.mono hle (aX _);rw [hpl];exact h1.log (by rw [hlen];have:=h.ag.1;show s.agreed<=_;omega) (by rw [cG h.ag.1])
 ·rcases e with e | ⟨_,rfl,e⟩
  ·rw [hT _ u k e,hpl];obtain ⟨h3,h4⟩:=h.ackF u k e;refine ⟨h3,?_⟩;rcases h4 with h4 | h4
   ·grind
   ·exact .inr h4
  ·rw [hL1,hpl];exact ⟨aX _,.inl (mx _ _)⟩
 ·rw [hpl];show s.many=(recs z ((s.log++[(s.term,x)]).take s.agreed)).length;rw [cG h.ag.1];exact h.many
theorem NI.agree (h:NI z n G i s) (hk:Agd n G s.term s.log k):NI z n G i (X.agree z s k):=by
 unfold X.agree;split
 ·rename_i hlt;refine ⟨h.ib,h.own,h.nn,h.vl,h.ml,h.t0,h.ok,h.top,h.Vf,h.ch,h.ledt,h.lds,h.own2,h.vts,h.mat,h.next,hk,h.ackF,?_,h.bad⟩;show s.many+(recs z ((s.log.take k).drop s.agreed)).length=(recs z (s.log.take k)).length;have e:s.log.take k=s.log.take s.agreed++(s.log.take k).drop s.agreed:=by
   grind [dh,cB,bi]
  rw [h.many]
  conv=>rhs;rw [e]
  unfold recs;rw [cT,bS,ay]
 ·exact h
theorem gT (k:Nat):(X.agree z s k).log=s.log/\(X.agree z s k).term=s.term/\(X.agree z s k).leads=s.leads/\(X.agree z s k).own=s.own/\(X.agree z s k).n=s.n/\(X.agree z s k).next=s.next/\(X.agree z s k).mat=s.mat:=by
 unfold X.agree;split<;>exact ⟨rfl,rfl,rfl,rfl,rfl,rfl,rfl⟩
theorem iW (s:Nd ρ):∀k r,settleF s k=some r->r<=k/\s.agreed<r/\bF s.log r=s.term/\cZ s (eI s.mat r)=true:=by
 intro k;induction k with
 | zero=>intro r e;simp [settleF] at e
 | succ k ih =>
  intro r e;unfold settleF at e;split at e
  ·grind
  ·cases e
theorem NI.matown (h:NI z n G i s):NI z n G i { s with mat:=s.mat.set s.own s.log.length }:=by
 refine ⟨h.ib,h.own,h.nn,h.vl,by show (s.mat.set _ _).length=n;rw [dU];exact h.ml,h.t0,h.ok,h.top,h.Vf,h.ch,h.ledt,h.lds,h.own2,h.vts,λe j h1 h2 h3=>?_,h.next,h.ag,h.ackF,h.many,h.bad⟩;have e1:(s.mat.set s.own s.log.length).getD j 0=s.mat.getD j 0:=by
  grind [h.own]
 have h3:(s.mat.set s.own s.log.length).getD j 0≠0:=h3;show G.ack j s.term ((s.mat.set s.own s.log.length).getD j 0);rw [e1] at h3 ⊢;exact h.mat e j h1 h2 h3
theorem NI.settle (hg:GI n G) (h:NI z n G i s) (hl:s.leads=true):NI z n G i (X.settle z s).2:=by
 unfold X.settle;have h1:=h.matown;split
 ·rename_i k hk;obtain ⟨k1,k2,k3,k4⟩:=iW _ _ _ hk;have k2:s.agreed<k:=k2;have k3:bF s.log k=s.term:=k3;obtain ⟨d1,d2⟩:=h.lds hl;refine h1.agree ⟨k1,.inr ⟨s.term,k,⟨by omega,by rw [<-d2];exact k1,by rw [<-d2];exact k3,by rw [d1];simp,?_⟩,aX _,ah _,by show s.log.take k=_;rw [<-d2]⟩⟩;have hm:(s.mat.set s.own s.log.length).length=n:=h1.ml;refine ⟨λj=>decide (k<=(s.mat.set s.own s.log.length).getD j 0),?_,λj hj hq=>?_⟩
  ·unfold Maj;have e:=lV (s.mat.set s.own s.log.length) (λm=>decide (k<=m)) 0;rw [hm] at e;rw [<-e];have k4:decide (s.n<2*eI (s.mat.set s.own s.log.length) k)=true:=k4;unfold eI at k4;rw [h.nn] at k4;exact d8 k4
  ·have hq:=d8 hq;by_cases e:j=i
   ·subst e;have e1:=(hg.self _ _ d1).1;exact hg.dn _ _ _ _ e1 (by rw [<-d2];exact k1)
   ·exact hg.dn _ _ _ _ (h1.mat hl j hj e (by show (s.mat.set s.own s.log.length).getD j 0≠0;omega)) hq
 ·exact h1
theorem jq:(X.settle z s).2.log=s.log/\(X.settle z s).2.term=s.term/\(X.settle z s).2.leads=s.leads/\(X.settle z s).2.own=s.own/\(X.settle z s).2.n=s.n/\(X.settle z s).2.next=s.next:=by
 unfold X.settle;split
 ·grind [gT]
 ·exact ⟨rfl,rfl,rfl,rfl,rfl,rfl⟩
theorem NI.back (h:NI z n G i s):NI z n G i (X.back s):=by
 refine ⟨h.ib,h.own,h.nn,by show (List.replicate s.n false).length=n;rw [gX];exact h.nn,by show (List.replicate s.n 0).length=n;rw [gX];exact h.nn,h.t0,h.ok,h.top,h.Vf,h.ch,h.ledt,λe=>(by cases e),h.own2,λ_ j hj hv=>?_,λe=>(by cases e),λe=>(by cases e),⟨aH _,.inl rfl⟩,h.ackF,rfl,h.bad⟩;have hv:(List.replicate s.n false).getD j false=true:=hv;simp [aF,List.getElem?_replicate] at hv;split at hv<;>simp at hv
end
end Go.Proofs.YtnhefallmioefaaGreat.X
