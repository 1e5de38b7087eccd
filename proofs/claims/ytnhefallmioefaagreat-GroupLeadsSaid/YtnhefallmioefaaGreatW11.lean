/- What the law leans on. No condition. -/
import Derived.Test.YtnhefallmioefaaGreatW0
import Derived.Test.YtnhefallmioefaaGreatW1
import Derived.Test.YtnhefallmioefaaGreatW9
set_option maxHeartbeats 8000000
set_option linter.unusedVariables false
set_option linter.unusedSimpArgs false
namespace Go.Proofs.YtnhefallmioefaaGreat.X
abbrev Lg (ρ:Type):=List (Int×ρ)
section
variable {ρ:Type} {L L':Int->Lg ρ} {a b l:Lg ρ} {k m:Nat}
theorem kH (l:Lg ρ) (k:Nat):bC l (k+1)=match l[k]? with | some x=>x.1 | none=>0:=rfl
theorem mW (l:Lg ρ) (k:Nat) (h:k<l.length):bC l (k+1)=(l[k]'h).1:=by
 rw [kH,cf h]
theorem fR (h:a <+: b) (hk:k<=a.length):bC a k=bC b k:=by
 cases k with
 | zero=>rfl
 | succ k =>
  obtain ⟨c,rfl⟩:=h;rw [kH,kH,dN az]
theorem eH (hk:k<=m) (hm:m<=l.length):bC (l.take m) k=bC l k:=fR (kh _ _) yd
theorem jb (h:a <+: b) (hk:k<=a.length):a.take k=b.take k:=by
 obtain ⟨c,rfl⟩:=h;rw [cS hk]
theorem qJ (h:a.take k=b.take k) (hk:k<=a.length):k<=b.length:=by
 grind [List.length,aQ]
theorem iz (h:a.take m=b.take m) (hk:k<=m):a.take k=b.take k:=by
 have:=congrArg (List.take k) h;simpa [dv,bT hk] using this
theorem ws (h:a.take m=b.take m) (hk:k<=m) (ha:m<=a.length):bC a k=bC b k:=by
 have hb:=qJ h ha;rw [<-eH hk ha,<-eH hk hb,h]
theorem pI (h:a.take k <+: b) (hk:k<=a.length):b.take k=a.take k:=by
 obtain ⟨c,hc⟩:=h;rw [<-hc,cS yd,dv,tv]
structure SF (L:Int->Lg ρ) (l:Lg ρ):Prop where
 at_:∀k,k<l.length->l.take (k+1)=(L (bC l (k+1))).take (k+1)
 pos:∀k,k<l.length->1<=bC l (k+1)
 up:∀j k,j<=k->k<=l.length->bC l j<=bC l k
theorem SF.nil:SF L []:=⟨λk h=>by simp at h,λk h=>by simp at h,λj k h1 h2=>by
 obtain rfl:k=0:=by simpa using h2
 obtain rfl:j=0:=az;exact aP _⟩
theorem SF.mono (h:SF L l) (hl:∀t,L t <+: L' t):SF L' l :=
 ⟨λk hk=>by
  have h1:=h.at_ k hk;rw [h1];exact jb (hl _) (qJ h1 az),h.pos,h.up⟩
theorem SF.take (h:SF L l) (m:Nat):SF L (l.take m):=by
 by_cases hm:m<=l.length
 ·have e:(l.take m).length=m:=by rw [aQ];omega
  refine ⟨λk hk=>?_,λk hk=>?_,λj k hj hk=>?_⟩
  ·grind [eH,bT,h.at_]
  ·rw [e] at hk;rw [eH az hm];exact h.pos k az
  ·rw [e] at hk;rw [eH az hm,eH hk hm];exact h.up j k hj az
 ·grind [bE]
theorem SF.same (ha:SF L a) (hb:SF L b) (h1:k<=a.length) (h2:k<=b.length) (he:bC a k=bC b k):a.take k=b.take k:=by
 cases k with
 | zero=>rfl
 | succ k=>rw [ha.at_ k h1,hb.at_ k h2,he]
theorem SF.snoc {t:Int} {x:ρ} (h:SF L l) (h1:1<=t) (ht:bC l l.length<=t) (hL:L t=l++[(t,x)]):SF L (l++[(t,x)]):=by
 have hl:∀k,k<=l.length->bC (l++[(t,x)]) k=bC l k:=λk hk=>(fR (List.prefix_append _ _) hk).symm;have hn:bC (l++[(t,x)]) (l.length+1)=t:=by rw [kH];simp
 have e:(l++[(t,x)]).length=l.length+1:=bL;refine ⟨λk hk=>?_,λk hk=>?_,λj k hj hk=>?_⟩
 ·rw [e] at hk;by_cases hk2:k<l.length
  ·grind [h.at_]
  ·grind
 ·rw [e] at hk;by_cases hk2:k<l.length
  ·rw [hl _ az];exact h.pos k hk2
  ·grind
 ·rw [e] at hk;by_cases hk2:k<=l.length
  ·rw [hl _ az,hl _ az];exact h.up j k hj hk2
  ·obtain rfl:k=l.length+1:=by omega
   rw [hn];by_cases Tv:j<=l.length
   ·rw [hl _ Tv];exact cK (h.up j _ Tv (ah _)) ht
   ·grind
def RO (n:Nat) (q:Nat->Bool):Prop:=n<2*((List.range n).filter q).length
theorem yI (l:List Nat) (p q:Nat->Bool) (h:∀j∈l,¬(p j=true/\q j=true)):(l.filter p).length+(l.filter q).length<=l.length:=by
 induction l with
 | nil=>simp
 | cons x l ih =>
  have h1:=ih λj hj=>h j (aM _ hj);have h2:=h x bd;exact I7
theorem RO.meet {n:Nat} {p q:Nat->Bool} (h1:RO n p) (h2:RO n q):∃j,j<n/\p j=true/\q j=true:=by
 apply bz;intro hn;have:=yI (List.range n) p q λj hj hpq=>hn ⟨j,eJ.1 hj,hpq⟩;unfold RO at h1 h2;rw [List.length_range] at this;omega
theorem RO.mono {n:Nat} {p q:Nat->Bool} (h:RO n p) (hpq:∀j,j<n->p j=true->q j=true):RO n q:=by
 unfold RO at h ⊢;have:∀l:List Nat,(∀j∈l,p j=true->q j=true)->(l.filter p).length<=(l.filter q).length:=by
  intro l;induction l with
  | nil=>intro _;simp
  | cons x l ih =>
   intro hl;have h1:=ih λj hj=>hl j (aM _ hj);have h2:=hl x bd;exact I7
 have:=this (List.range n) λj hj=>hpq j (eJ.1 hj);omega
theorem ka {α:Type} (l:List α) (p:α->Bool) (d:α):(l.filter p).length=((List.range l.length).filter λj=>p (l.getD j d)).length:=by
 induction l with
 | nil=>rfl
 | cons x l ih =>
  rw [aX,List.range_succ_eq_map,fA,fA,List.filter_map];have e:((λj=>p ((x::l).getD j d)) ∘ Nat.succ)=λj=>p (l.getD j d):=by funext j;simp [Function.comp]
  rw [e];simp only [List.getD_cons_zero];split<;>simp [ih]
end
structure Gh (ρ:Type) where
 O7:Int->Option Nat
 C:Int->Lg ρ
 L:Int->Lg ρ
 Qx:Nat->Int->Nat->Prop
 V:Nat->Int->Option (Nat×Lg ρ×Bool)
section
variable {ρ:Type}
def jL (a b:Lg ρ):Prop:=bC b b.length<bC a a.length\/(bC b b.length=bC a a.length/\b.length<=a.length)
structure QA (n:Nat) (G:Gh ρ) (t:Int) (k:Nat):Prop where
 k1:1<=k
 kl:k<=(G.L t).length
 tm:bC (G.L t) k=t
 O7:G.O7 t≠none
 q:∃q,RO n q/\∀j,j<n->q j=true->G.Qx j t k
def Ts (n:Nat) (G:Gh ρ) (t:Int) (l:Lg ρ) (a:Nat):Prop:=a<=l.length/\(a=0\/∃u k,QA n G u k/\u<=t/\a<=k/\l.take a=(G.L u).take a)
structure GI (n:Nat) (G:Gh ρ):Prop where
 O7:∀t i,G.O7 t=some i->i<n/\1<=t
 quo:∀t i,G.O7 t=some i->∃q,RO n q/\∀j,j<n->q j=true->∃l,G.V j t=some (i,l,false)/\jL (G.C t) l
 self:∀t i,G.O7 t=some i->G.Qx i t (G.L t).length/\∃b,G.V i t=some (i,G.C t,b)
 pre:∀t,G.O7 t≠none->G.C t <+: G.L t/\bC (G.C t) (G.C t).length<t
 top:∀t,bC (G.L t) (G.L t).length<=t\/G.L t=[]
 none_:∀t,G.O7 t=none->G.L t=[]
 ok:∀t,SF G.L (G.L t)
 V:∀j t c l b,G.V j t=some (c,l,b)->c<n/\SF G.L l/\bC l l.length<=t/\(c=j->bC l l.length<t)
 utd:∀j t c l b,G.V j t=some (c,l,b)->∃l0 b0,G.V c t=some (c,l0,b0)/\jL l0 l
 late:∀j t c l b,G.O7 t=none->G.V j t=some (c,l,b)->b=false
 Qx:∀j t k,G.Qx j t k->j<n/\G.O7 t≠none/\k<=(G.L t).length
 dn:∀j t k k',G.Qx j t k'->k<=k'->G.Qx j t k
 Zc:∀j t k t' c l,G.Qx j t k->G.V j t'=some (c,l,false)->t<t'->(G.L t).take k <+: l\/∃u,t<u/\u<t'/\G.O7 u≠none/\¬(G.L t).take k <+: G.C u
structure Le (G G':Gh ρ):Prop where
 O7:∀t i,G.O7 t=some i->G'.O7 t=some i/\G'.C t=G.C t
 L:∀t,G.L t <+: G'.L t
 Qx:∀j t k,G.Qx j t k->G'.Qx j t k
 V:∀j t x,G.V j t=some x->G'.V j t=some x
structure By (i:Nat) (G G':Gh ρ):Prop where
 le:Le G G'
 O7:∀t j,j≠i->G'.O7 t=some j->G.O7 t=some j/\G'.L t=G.L t
 V:∀j t,j≠i->G'.V j t=G.V j t
 Qx:∀j t k,j≠i->G'.Qx j t k->G.Qx j t k
variable {n i:Nat} {G G' G'':Gh ρ} {t t':Int} {l l':Lg ρ} {a a' k:Nat}
theorem Le.refl (G:Gh ρ):Le G G:=⟨λ_ _ h=>⟨h,rfl⟩,λ_=>gk _,λ_ _ _ h=>h,λ_ _ _ h=>h⟩
theorem Le.trans (h:Le G G') (h':Le G' G''):Le G G'' :=
 ⟨λt i e=>⟨(h'.O7 t i (h.O7 t i e).1).1,(h'.O7 t i (h.O7 t i e).1).2.trans (h.O7 t i e).2⟩,λt=>(h.L t).trans (h'.L t),λj t k e=>h'.Qx j t k (h.Qx j t k e),λj t x e=>h'.V j t x (h.V j t x e)⟩
theorem By.refl (i:Nat) (G:Gh ρ):By i G G:=⟨Le.refl G,λ_ _ _ h=>⟨h,rfl⟩,λ_ _ _=>rfl,λ_ _ _ _ h=>h⟩
theorem By.trans (h:By i G G') (h':By i G' G''):By i G G'' :=
 ⟨h.le.trans h'.le,λt j hj e=>by
  obtain ⟨e1,e2⟩:=h'.O7 t j hj e;obtain ⟨e3,e4⟩:=h.O7 t j hj e1;exact ⟨e3,e2.trans e4⟩,λj t hj=>(h'.V j t hj).trans (h.V j t hj),λj t k hj e=>h.Qx j t k hj (h'.Qx j t k hj e)⟩
theorem Le.ledN (h:Le G G') (e:G.O7 t≠none):G'.O7 t≠none/\G'.C t=G.C t:=by
 cases h1:G.O7 t with
 | none=>exact absurd h1 e
 | some i =>
  have:=h.O7 t i h1;exact ⟨by rw [this.1];simp,this.2⟩
theorem QA.mono (h:QA n G t k) (hl:Le G G'):QA n G' t k:=by
 obtain ⟨q,h1,h2⟩:=h.q;exact ⟨h.k1,aF h.kl (hl.L t).length_le,by rw [<-fR (hl.L t) h.kl];exact h.tm,(hl.ledN h.O7).1,q,h1,λj hj e=>hl.Qx j t k (h2 j hj e)⟩
theorem Ts.mono (h:Ts n G t l a) (hl:Le G G') (ht:t<=t'):Ts n G' t' l a:=by
 refine ⟨h.1,?_⟩;rcases h.2 with h1 | ⟨u,k,h1,h2,h3,h4⟩
 ·exact .inl h1
 ·exact .inr ⟨u,k,h1.mono hl,cK h2 ht,h3,by rw [h4];exact jb (hl.L u) (aF h3 h1.kl)⟩
theorem Ts.Oz (h:Ts n G t l a) (ha:a<=l'.length) (e:l'.take a=l.take a):Ts n G t l' a:=by
 refine ⟨ha,?_⟩;rcases h.2 with h1 | ⟨u,k,h1,h2,h3,h4⟩
 ·exact .inl h1
 ·grind
theorem Ts.less (h:Ts n G t l a) (ha:a'<=a):Ts n G t l a':=by
 refine ⟨aF ha h.1,?_⟩;rcases h.2 with h1 | ⟨u,k,h1,h2,h3,h4⟩
 ·exact .inl az
 ·grind [aF,iz]
theorem SF.whole {L:Int->Lg ρ} (h:SF L l):l=(L (bC l l.length)).take l.length:=by
 cases e:l.length with
 | zero=>simp [bP.1 e]
 | succ k =>
  have h1:=h.at_ k az;rw [bE az] at h1;exact h1
theorem GI.lc (h:GI n G) (hq:QA n G t k):∀(m:Nat) (t':Int),(t' - t).toNat<=m->t<t'->G.O7 t'≠none->(G.L t).take k <+: G.C t':=by
 intro m;induction m with
 | zero=>intro t' h1 h2;omega
 | succ m ih =>
  intro t' hm htt hl;obtain ⟨i,hi⟩:=Option.ne_none_iff_exists'.1 hl;obtain ⟨q',hq1,hq2⟩:=h.quo t' i hi;obtain ⟨q,hq3,hq4⟩:=hq.q;obtain ⟨j,hj,j1,j2⟩:=hq1.meet hq3;obtain ⟨l,hV,hU⟩:=hq2 j hj j1;have hp:(G.L t).take k <+: l:=by
   grind [h.Zc]
  have hlen:((G.L t).take k).length=k:=by rw [aQ];have:=hq.kl;omega
  have hkl:k<=l.length:=by have:=hp.length_le;omega
  have hlok:=(h.V j t' i l false hV).2.1;have hlk:bC l k=t:=by rw [<-fR hp az,eH (ah _) hq.kl];exact hq.tm
  have hlt:t<=bC l l.length:=by rw [<-hlk];exact hlok.up k _ hkl (ah _)
  obtain ⟨_,b,hVi⟩:=h.self t' i hi;have hcok:=(h.V i t' i _ b hVi).2.1;have hct:=(h.pre t' hl).2;have hc:=hcok.whole;rcases hU with hU | ⟨hU1,hU2⟩
  ·have T6:G.O7 (bC (G.C t') (G.C t').length)≠none:=by
    intro hn;rw [h.none_ _ hn] at hc;simp at hc;rw [hc] at hU;have:bC ([]:Lg ρ) ([]:Lg ρ).length=0:=rfl;have h2:=hlok.up 0 l.length (aH _) (ah _);have h3:bC l 0=0:=rfl;omega
   have hP:=(ih _ az az T6).trans (h.pre _ T6).1;have hkc:k<=(G.C t').length:=by
    apply bz;intro hn;have e1:bC (G.C t') (G.C t').length=bC ((G.L t).take k) (G.C t').length:=by
     rw [fR hP az]
     conv=>lhs;rw [hc]
     rw [aQ];have Sw:(G.C t').length<=(G.L (bC (G.C t') (G.C t').length)).length:=by
      grind
     rw [bT Sw,eH (ah _) Sw]
    rw [eH az hq.kl] at e1;have:=(h.ok t).up (G.C t').length k az hq.kl;rw [hq.tm] at this;omega
   have e2:(G.L (bC (G.C t') (G.C t').length)).take k=(G.L t).take k:=by
    grind [pI,tv]
   rw [<-e2];have e3:(G.L (bC (G.C t') (G.C t').length)).take k=(G.C t').take k:=by
    grind
   rw [e3];exact kh _ _
  ·grind [hlok.whole]
theorem GI.later (h:GI n G) (hq:QA n G t k) (htt:t<=t') (hl:G.O7 t'≠none):(G.L t').take k=(G.L t).take k:=by
 by_cases e:t=t'
 ·rw [e]
 ·have h1:=(h.lc hq _ t' (ah _) az hl).trans (h.pre t' hl).1;exact pI h1 hq.kl
theorem GI.cmp (h:GI n G) (h1:Ts n G t l a) (h2:Ts n G t' l' a') (ha:a<=a'):l.take a=l'.take a:=by
 rcases h1.2 with e | ⟨u,k,p1,p2,p3,p4⟩
 ·subst e;simp
 rcases h2.2 with e | ⟨u',k',q1,q2,q3,q4⟩
 ·obtain rfl:a=0:=by omega
  simp
 rw [p4,iz q4 ha];by_cases hu:u<=u'
 ·exact (iz (h.later p1 hu q1.O7) p3).symm
 ·exact iz (h.later q1 az p1.O7) az
theorem nL (l:Lg ρ):jL l l:=.inr ⟨rfl,ah _⟩
end
section
variable {ρ:Type} (z:ρ->Bool)
structure NI (n:Nat) (G:Gh ρ) (i:Nat) (s:Nd ρ):Prop where
 ib:i<n
 own:s.own=i
 nn:s.n=n
 vl:s.OB.length=n
 ml:s.OE.length=n
 t0:0<=s.Ow
 ok:SF G.L s.Oz
 top:bC s.Oz s.Oz.length<=s.Ow
 Vf:∀t,s.Ow<t->G.V i t=none
 ch:(s.OC = -1/\G.V i s.Ow=none)\/∃c l b,s.OC=((c:Nat):Int)/\G.V i s.Ow=some (c,l,b)
 RB:∀t,G.O7 t=some i->t<=s.Ow
 UC:s.Oy=true->G.O7 s.Ow=some i/\s.Oz=G.L s.Ow
 S8:∀l b,G.V i s.Ow=some (i,l,b)->(G.O7 s.Ow=none->s.Oz=l)/\(G.O7 s.Ow=some i->s.Oz=G.L s.Ow)
 Xp:s.OC=(i:Int)->∀j,j<n->s.OB.getD j false=true->∃l b l0 b0,G.V j s.Ow=some (i,l,b)/\G.V i s.Ow=some (i,l0,b0)/\jL l0 l
 OE:s.Oy=true->∀j,j<n->j≠i->s.OE.getD j 0≠0->G.Qx j s.Ow (s.OE.getD j 0)
 next:s.Oy=true->∀j,s.next.getD j 0<=s.Oz.length
 ag:Ts n G s.Ow s.Oz s.agreed
 Rt:∀t k,G.Qx i t k->t<=s.Ow/\((G.L t).take k <+: s.Oz\/∃u,t<u/\u<=s.Ow/\G.O7 u≠none/\¬(G.L t).take k <+: G.C u)
 many:s.many=(recs z (s.Oz.take s.agreed)).length
 bad:s.bad=false
structure MI (n:Nat) (G:Gh ρ) (m:Ms ρ):Prop where
 f:∃f:Nat,f<n/\m.OD=(f:Int) /\
  (m.kind=1->m.N.length=3->∃l b,G.V f (m.N.getD 0 0)=some (f,l,b)/\m.N.getD 1 0=(l.length:Int)/\m.N.getD 2 0=bC l l.length) /\
  (m.kind=2->m.N.getD 1 0=1->∃d:Nat,∃l b l0 b0,m.dst=(d:Int)/\G.V f (m.N.getD 0 0)=some (d,l,b)/\G.V d (m.N.getD 0 0)=some (d,l0,b0)/\jL l0 l) /\
  (m.kind=3->G.O7 (m.N.getD 0 0)=some f/\∃p a:Nat,m.N.getD 1 0=(p:Int)/\m.N.getD 2 0=bC (G.L (m.N.getD 0 0)) p/\m.N.getD 3 0=(a:Int)/\p+m.B.length<=(G.L (m.N.getD 0 0)).length/\m.N.length=4+m.B.length/\(m.N.drop 4).zip m.B=((G.L (m.N.getD 0 0)).drop p).take m.B.length/\Ts n G (m.N.getD 0 0) (G.L (m.N.getD 0 0)) a) /\
  (m.kind=4->m.N.length=3->m.N.getD 1 0≠0->0<=m.N.getD 2 0->G.Qx f (m.N.getD 0 0) (m.N.getD 2 0).toNat)
variable {z}
variable {n i:Nat} {G G' G'':Gh ρ} {t t':Int} {l l':Lg ρ} {a a' k:Nat} {s s':Nd ρ} {m:Ms ρ}
theorem MI.mono (h:MI n G m) (hl:Le G G'):MI n G' m:=by
 obtain ⟨f,hf,e,h1,h2,h3,h4⟩:=h.f;refine ⟨f,hf,e,λk1 k2=>?_,λk1 k2=>?_,λk1=>?_,λk1 k2 k3 k4=>hl.Qx _ _ _ (h4 k1 k2 k3 k4)⟩
 ·grind [hl.V]
 ·grind [hl.V]
 ·obtain ⟨e1,p,a,e2,e3,e4,e5,e6,e7,e8⟩:=h3 k1;refine ⟨(hl.O7 _ _ e1).1,p,a,e2,?_,e4,aF e5 (hl.L _).length_le,e6,?_,?_⟩
  ·grind [fR,hl.L]
  ·rw [e7];obtain ⟨c,hc⟩:=hl.L (m.N.getD 0 0);rw [<-hc,qo az,cS Es]
  ·exact (e8.mono hl (aP _)).Oz (aF e8.1 (hl.L _).length_le) (jb (hl.L _) e8.1).symm
theorem NI.other {j:Nat} (hg:GI n G) (h:NI z n G j s) (hb:By i G G') (hj:j≠i):NI z n G' j s:=by
 have hV:∀t,G'.V j t=G.V j t:=λt=>hb.V j t hj;refine ⟨h.ib,h.own,h.nn,h.vl,h.ml,h.t0,h.ok.mono hb.le.L,h.top,λt ht=>by rw [hV];exact h.Vf t ht,by rw [hV];exact h.ch,λt e=>h.RB t (hb.O7 t j hj e).1,λe=>?_,λl b e=>?_,λe j2 Tv hv=>?_,λe j2 h1 h2 h3=>hb.le.Qx _ _ _ (h.OE e j2 h1 h2 h3),h.next,h.ag.mono hb.le (aP _),λt k e=>?_,h.many,h.bad⟩
 ·have h1:=h.UC e;have h2:=(hb.le.O7 _ _ h1.1).1;exact ⟨h2,by rw [(hb.O7 _ j hj h2).2];exact h1.2⟩
 ·rw [hV] at e;have h1:=h.S8 l b e;refine ⟨λe1=>h1.1 ?_,λe1=>?_⟩
  ·cases e2:G.O7 s.Ow with
   | none=>rfl
   | some x=>rw [(hb.le.O7 _ _ e2).1] at e1;cases e1
  ·grind [hb.O7]
 ·obtain ⟨l,b,l0,b0,e1,e2,e3⟩:=h.Xp e j2 Tv hv;exact ⟨l,b,l0,b0,hb.le.V _ _ _ e1,hb.le.V _ _ _ e2,e3⟩
 ·have e2:=hb.Qx j t k hj e;have hk:=(hg.Qx j t k e2).2.2;have hT:(G'.L t).take k=(G.L t).take k:=(jb (hb.le.L t) hk).symm;obtain ⟨h1,h2⟩:=h.Rt t k e2;refine ⟨h1,?_⟩;rw [hT];rcases h2 with h2 | ⟨u,u1,u2,u3,u4⟩
  ·exact .inl h2
  ·exact .inr ⟨u,u1,u2,(hb.le.ledN u3).1,by rw [(hb.le.ledN u3).2];exact u4⟩
theorem NI.ledch (hg:GI n G) (h:NI z n G i s) (e:G.O7 s.Ow=some i):s.OC=(i:Int):=by
 obtain ⟨b,hv⟩:=(hg.self _ _ e).2;rcases h.ch with ⟨_,h1⟩ | ⟨c,l,b2,h1,h2⟩
 ·rw [h1] at hv;cases hv
 ·grind
theorem NI.enter (h:NI z n G i s) (ht:s.Ow<t):NI z n G i (enter s t (-1)):=by
 have e0:(s.Oy && !decide (s.Ow<t))=false:=by simp [ht]
 refine ⟨h.ib,h.own,h.nn,h.vl,h.ml,?_,h.ok,?_,λt2 h2=>h.Vf t2 ?_,.inl ⟨rfl,h.Vf t ht⟩,λt2 e=>?_,λe=>?_,λl b e=>?_,λe=>?_,λe=>?_,λe=>?_,?_,λt2 k e=>?_,h.many,h.bad⟩
 ·show 0<=t;have:=h.t0;omega
 ·show bC s.Oz s.Oz.length<=t;have:=h.top;omega
 ·have h2:t<t2:=h2;omega
 ·show t2<=t;have:=h.RB t2 e;omega
 ·exact Ks
 ·have e:G.V i t=some (i,l,b):=e;rw [h.Vf t ht] at e;cases e
 ·have e:(-1:Int)=(i:Int):=e;omega
 ·exact Ks
 ·exact Ks
 ·exact h.ag.mono (Le.refl G) (Int.le_of_lt ht)
 ·obtain ⟨h1,h2⟩:=h.Rt t2 k e;refine ⟨by show t2<=t;omega,?_⟩;rcases h2 with h2 | ⟨u,u1,u2,u3⟩
  ·exact .inl h2
  ·exact .inr ⟨u,u1,by show u<=t;omega,u3⟩
def Gh.Q7 (G:Gh ρ) (i:Nat) (t:Int) (c:Nat) (l:Lg ρ):Gh ρ:={ G with V:=λj u=>if j=i/\u=t then some (c,l,(G.O7 t).isSome) else G.V j u }
theorem ux {c:Nat} (h:G.V i t=none):By i G (G.Q7 i t c l):=by
 refine ⟨⟨λt j e=>⟨e,rfl⟩,λ_=>gk _,λ_ _ _ e=>e,λj u x e=>?_⟩,λ_ _ _ e=>⟨e,rfl⟩,λj u hj=>?_,λ_ _ _ _ e=>e⟩
 ·show (if j=i/\u=t then _ else _)=_;rw [am]
  ·exact e
  ·rintro ⟨rfl,rfl⟩;rw [h] at e;cases e
 ·show (if j=i/\u=t then _ else _)=_;rw [am (λe=>hj e.1)]
theorem eN {c:Nat}:(G.Q7 i t c l).V i t=some (c,l,(G.O7 t).isSome):=by
 show (if i=i/\t=t then _ else _)=_;rw [ay ⟨rfl,rfl⟩]
theorem lH {c j:Nat} {u:Int} (h:¬(j=i/\u=t)):(G.Q7 i t c l).V j u=G.V j u:=by
 show (if j=i/\u=t then _ else _)=_;rw [am h]
theorem GI.Q7 {c:Nat} (hg:GI n G) (h:NI z n G i s) (hv:G.V i t=none) (ht:s.Ow<=t) (hc:c<n) (VX:c=i->s.Ow<t) (hu:c=i\/∃l0 b0,G.V c t=some (c,l0,b0)/\jL l0 s.Oz):GI n (G.Q7 i t c s.Oz):=by
 have hle:=(ux (c:=c) (l:=s.Oz) hv).le;refine ⟨hg.O7,λu j e=>?_,λu j e=>?_,hg.pre,hg.top,hg.none_,hg.ok,λj u c2 l2 b2 e=>?_,λj u c2 l2 b2 e=>?_,λj u c2 l2 b2 e1 e=>?_,hg.Qx,hg.dn,λj u k u2 c2 l2 e1 e2 hu=>?_⟩
 ·obtain ⟨q,q1,q2⟩:=hg.quo u j e;refine ⟨q,q1,λj2 h1 h2=>?_⟩;obtain ⟨l,e1,e2⟩:=q2 j2 h1 h2;exact ⟨l,hle.V _ _ _ e1,e2⟩
 ·obtain ⟨e1,b,e2⟩:=hg.self u j e;exact ⟨e1,b,hle.V _ _ _ e2⟩
 ·by_cases PU:j=i/\u=t
  ·obtain ⟨rfl,rfl⟩:=PU;rw [eN] at e;obtain ⟨rfl,rfl,rfl⟩:=e;have:=h.top;exact ⟨hc,h.ok,by omega,λe=>by have:=VX e;omega⟩
  ·rw [lH PU] at e;exact hg.V j u c2 l2 b2 e
 ·by_cases PU:j=i/\u=t
  ·obtain ⟨rfl,rfl⟩:=PU;rw [eN] at e;obtain ⟨rfl,rfl,rfl⟩:=e;rcases hu with rfl | ⟨l0,b0,e1,e2⟩
   ·exact ⟨s.Oz,_,eN,.inr ⟨rfl,ah _⟩⟩
   ·exact ⟨l0,b0,hle.V _ _ _ e1,e2⟩
  ·grind [lH,hg.utd,hle.V]
 ·by_cases PU:j=i/\u=t
  ·obtain ⟨rfl,rfl⟩:=PU;rw [eN] at e;simp only [cV,ig] at e;rw [<-e.2.2];have e1:G.O7 u=none:=e1;rw [e1];rfl
  ·rw [lH PU] at e;exact hg.late j u c2 l2 b2 e1 e
 ·by_cases PU:j=i/\u2=t
  ·obtain ⟨rfl,rfl⟩:=PU;rw [eN] at e2;simp only [cV,ig] at e2;obtain ⟨rfl,rfl,e3⟩:=e2;obtain ⟨h1,h2⟩:=h.Rt u k e1;rcases h2 with h2 | ⟨v,v1,v2,v3,v4⟩
   ·exact .inl h2
   ·refine .inr ⟨v,v1,?_,v3,v4⟩;have:v≠u2:=by
     intro e;subst e;cases e5:G.O7 v with
     | none=>exact v3 e5
     | some x=>rw [e5] at e3;cases e3
    omega
  ·rw [lH PU] at e2;exact hg.Zc j u k u2 c2 l2 e1 e2 hu
theorem NI.Q7 {c:Nat} (hg:GI n G) (h:NI z n G i s) (hch:s.OC = -1) (hc:c<n) (VX:c≠i) (hu:∃l0 b0,G.V c s.Ow=some (c,l0,b0)/\jL l0 s.Oz):By i G (G.Q7 i s.Ow c s.Oz)/\GI n (G.Q7 i s.Ow c s.Oz)/\NI z n (G.Q7 i s.Ow c s.Oz) i (X.enter s s.Ow (c:Int))/\(G.Q7 i s.Ow c s.Oz).V i s.Ow=some (c,s.Oz,(G.O7 s.Ow).isSome):=by
 have hv:G.V i s.Ow=none:=by
  grind [h.ch]
 have hby:=ux (c:=c) (l:=s.Oz) hv;refine ⟨hby,hg.Q7 h hv (aP _) hc (λe=>absurd e VX) (.inr hu),?_,eN⟩;have hle:=hby.le;have PD:G.O7 s.Ow≠some i:=λe=>by
  grind [h.ledch]
 have hnld:s.Oy=false:=by
  cases e:s.Oy with
  | false=>rfl
  | true=>exact absurd (h.UC e).1 PD
 have e0:(s.Oy && !decide (s.Ow<s.Ow))=false:=by rw [hnld];rfl
 refine ⟨h.ib,h.own,h.nn,h.vl,h.ml,h.t0,h.ok,h.top,λt2 h2=>?_,.inr ⟨c,s.Oz,_,rfl,eN⟩,h.RB,λe=>?_,λl b e=>?_,λe=>?_,λe=>?_,λe=>?_,h.ag.mono hle (aP _),λt2 k e=>h.Rt t2 k e,h.many,h.bad⟩
 ·have h2:s.Ow<t2:=h2;rw [lH az];exact h.Vf t2 h2
 ·exact Kw
 ·have e:(G.Q7 i s.Ow c s.Oz).V i s.Ow=some (i,l,b):=e;rw [eN] at e;simp only [cV,ig] at e;exact absurd e.1 VX
 ·have e:((c:Nat):Int)=(i:Int):=e;omega
 ·exact Kw
 ·exact Kw
theorem NI.stand (hg:GI n G) (h:NI z n G i s):∃G',By i G G'/\GI n G'/\NI z n G' i { X.enter s (s.Ow+1) (i:Int) with Ox:=0,OB:=(List.replicate n false).set i true }/\∃b,G'.V i (s.Ow+1)=some (i,s.Oz,b):=by
 have hv:G.V i (s.Ow+1)=none:=h.Vf _ az;have hby:=ux (c:=i) (l:=s.Oz) hv;refine ⟨G.Q7 i (s.Ow+1) i s.Oz,hby,hg.Q7 h hv az h.ib (λ_=>by omega) (.inl rfl),?_,_,eN⟩;have hle:=hby.le;have e0:(s.Oy && !decide (s.Ow<s.Ow+1))=false:=by simp;intro;omega
 have PD:G.O7 (s.Ow+1)≠some i:=λe=>by have:=h.RB _ e;omega
 refine ⟨h.ib,h.own,h.nn,by simp,h.ml,?_,h.ok,?_,λt2 h2=>?_,.inr ⟨i,s.Oz,_,rfl,eN⟩,λt2 e=>?_,λe=>?_,λl b e=>?_,λ_ j hj hv=>?_,λe=>?_,λe=>?_,h.ag.mono hle ?_,λt2 k e=>?_,h.many,h.bad⟩
 ·show 0<=s.Ow+1;have:=h.t0;omega
 ·show bC s.Oz s.Oz.length<=s.Ow+1;have:=h.top;omega
 ·have h2:s.Ow+1<t2:=h2;rw [lH az];exact h.Vf t2 az
 ·show t2<=s.Ow+1;have:=h.RB t2 e;omega
 ·exact Kx
 ·have e:(G.Q7 i (s.Ow+1) i s.Oz).V i (s.Ow+1)=some (i,l,b):=e;rw [eN] at e;simp only [cV,ig] at e;exact ⟨λ_=>e.2.1,λe=>absurd e PD⟩
 ·have e:j=i:=by
   grind
  subst e;exact ⟨s.Oz,_,s.Oz,_,eN,eN,nL _⟩
 ·exact Kx
 ·exact Kx
 ·show s.Ow<=s.Ow+1;omega
 ·obtain ⟨h1,h2⟩:=h.Rt t2 k e;refine ⟨by show t2<=s.Ow+1;omega,?_⟩;rcases h2 with h2 | ⟨u,u1,u2,u3⟩
  ·exact .inl h2
  ·exact .inr ⟨u,u1,by show u<=s.Ow+1;omega,u3⟩
end
section
variable {ρ:Type} {z:ρ->Bool}
variable {n i:Nat} {G G' G'':Gh ρ} {t t':Int} {l l':Lg ρ} {a a' k:Nat} {s s':Nd ρ} {m:Ms ρ}
def Gh.QB (G:Gh ρ) (i:Nat) (t:Int) (l:Lg ρ):Gh ρ :=
  { O7:=λu=>if u=t then some i else G.O7 u,C:=λu=>if u=t then l else G.C u,L:=λu=>if u=t then l else G.L u,
    Qx:=λj u k=>G.Qx j u k\/(j=i/\u=t/\k<=l.length),V:=G.V }
theorem Fv (hg:GI n G) (hl:G.O7 t=none):By i G (G.QB i t l):=by
 have hne:∀u j,G.O7 u=some j->u≠t:=λu j e h=>by rw [h,hl] at e;cases e
 refine ⟨⟨λu j e=>?_,λu=>?_,λ_ _ _ e=>.inl e,λ_ _ _ e=>e⟩,λu j hj e=>?_,λ_ _ _=>rfl,λj u k hj e=>?_⟩
 ·have:=hne u j e;exact ⟨by show (if u=t then _ else _)=_;rw [am this];exact e,by show (if u=t then _ else _)=_;rw [am this]⟩
 ·show _ <+: (if u=t then l else G.L u)
  by_cases e:u=t
  ·grind [hg.none_]
  ·rw [am e];exact gk _
 ·have e:(if u=t then some i else G.O7 u)=some j:=e;by_cases h:u=t
  ·grind
  ·rw [am h] at e;exact ⟨e,by show (if u=t then l else G.L u)=_;rw [am h]⟩
 ·rcases e with e | e
  ·exact e
  ·exact absurd e.1 hj
theorem NI.QB (hg:GI n G) (h:NI z n G i s) (hl:G.O7 s.Ow=none) (hch:s.OC=(i:Int)) (hq:∃q,RO n q/\∀j,j<n->q j=true->s.OB.getD j false=true) :
  By i G (G.QB i s.Ow s.Oz)/\GI n (G.QB i s.Ow s.Oz)/\NI z n (G.QB i s.Ow s.Oz) i s/\(G.QB i s.Ow s.Oz).O7 s.Ow=some i/\(G.QB i s.Ow s.Oz).L s.Ow=s.Oz:=by
 have hby:=Fv (i:=i) (l:=s.Oz) hg hl;have hle:=hby.le;have Wd:(G.QB i s.Ow s.Oz).L s.Ow=s.Oz:=ay rfl;have hC1:(G.QB i s.Ow s.Oz).C s.Ow=s.Oz:=ay rfl;have PH:(G.QB i s.Ow s.Oz).O7 s.Ow=some i:=ay rfl;have hL2:∀u,u≠s.Ow->(G.QB i s.Ow s.Oz).L u=G.L u:=λu e=>am e;have hC2:∀u,u≠s.Ow->(G.QB i s.Ow s.Oz).C u=G.C u:=λu e=>am e;have hl2:∀u,u≠s.Ow->(G.QB i s.Ow s.Oz).O7 u=G.O7 u:=λu e=>am e;obtain ⟨c,l0,b0,hc0,hv0⟩:∃(c:Nat) (l0:Lg ρ) (b0:Bool),s.OC=((c:Nat):Int)/\G.V i s.Ow=some (c,l0,b0):=by
  grind [h.ch]
 obtain rfl:c=i:=by rw [hch] at hc0;omega
 have Pz:s.Oz=l0:=(h.S8 l0 b0 hv0).1 hl;have hlt:bC s.Oz s.Oz.length<s.Ow:=by rw [Pz];exact (hg.V _ _ _ _ _ hv0).2.2.2 rfl
 have h1t:1<=s.Ow:=by
  have:=h.ok.up 0 s.Oz.length (aH _) (ah _);have h3:bC s.Oz 0=0:=rfl;omega
 have hne:∀j u k,G.Qx j u k->u≠s.Ow:=λj u k e h2=>(hg.Qx j u k e).2.1 (by rw [h2];exact hl);refine ⟨hby,⟨λu j e=>?_,λu j e=>?_,λu j e=>?_,λu e=>?_,λu=>?_,λu e=>?_,λu=>?_,λj u c2 l2 b2 e=>?_,hg.utd,λj u c2 l2 b2 e1 e=>?_,λj u k e=>?_,λj u k k' e hk=>?_,λj u k u2 c2 l2 e1 e2 hu=>?_⟩,⟨h.ib,h.own,h.nn,h.vl,h.ml,h.t0,h.ok.mono hle.L,h.top,h.Vf,h.ch,λu e=>?_,λe=>?_,λl b e=>?_,h.Xp,λe j h1 h2 h3=>.inl (h.OE e j h1 h2 h3),h.next,h.ag.mono hle (aP _),λu k e=>?_,h.many,h.bad⟩,PH,Wd⟩
 ·by_cases h2:u=s.Ow
  ·grind [h.ib]
  ·rw [hl2 u h2] at e;exact hg.O7 u j e
 ·by_cases h2:u=s.Ow
  ·subst h2;rw [PH] at e;simp only [cV] at e;subst e;obtain ⟨q,q1,q2⟩:=hq;refine ⟨q,q1,λj hj hqj=>?_⟩;obtain ⟨l,b,l1,b1,e1,e2,e3⟩:=h.Xp hch j hj (q2 j hj hqj);have hb:=hg.late _ _ _ _ _ hl e1;subst hb;rw [hv0] at e2;simp only [cV,ig] at e2;rw [hC1,Pz,e2.2.1];exact ⟨l,e1,e3⟩
  ·rw [hl2 u h2] at e;rw [hC2 u h2];exact hg.quo u j e
 ·by_cases h2:u=s.Ow
  ·subst h2;rw [PH] at e;simp only [cV] at e;subst e;rw [Wd,hC1];exact ⟨.inr ⟨rfl,rfl,ah _⟩,b0,by rw [Pz];exact hv0⟩
  ·rw [hl2 u h2] at e;rw [hL2 u h2,hC2 u h2];obtain ⟨e1,e2⟩:=hg.self u j e;exact ⟨.inl e1,e2⟩
 ·by_cases h2:u=s.Ow
  ·grind
  ·grind [hg.pre]
 ·by_cases h2:u=s.Ow
  ·subst h2;rw [Wd];exact .inl az
  ·rw [hL2 u h2];exact hg.top u
 ·by_cases h2:u=s.Ow
  ·subst h2;rw [PH] at e;cases e
  ·grind [hg.none_]
 ·by_cases h2:u=s.Ow
  ·subst h2;rw [Wd];exact h.ok.mono hle.L
  ·rw [hL2 u h2];exact (hg.ok u).mono hle.L
 ·exact Jk
 ·by_cases h2:u=s.Ow
  ·subst h2;rw [PH] at e1;cases e1
  ·rw [hl2 u h2] at e1;exact hg.late j u c2 l2 b2 e1 e
 ·rcases e with e | ⟨rfl,rfl,e⟩
  ·have h2:=hne j u k e;rw [hl2 u h2,hL2 u h2];exact hg.Qx j u k e
  ·grind [h.ib]
 ·exact KB
 ·rcases e1 with e | ⟨rfl,rfl,e⟩
  ·have h2:=hne j u k e;rw [hL2 u h2];rcases hg.Zc j u k u2 c2 l2 e e2 hu with h3 | ⟨v,v1,v2,v3,v4⟩
   ·exact .inl h3
   ·grind
  ·exact Ku
 ·by_cases h2:u=s.Ow
  ·omega
  ·rw [hl2 u h2] at e;exact h.RB u e
 ·grind
 ·grind
 ·rcases e with e | ⟨_,rfl,e⟩
  ·have h2:=hne _ u k e;rw [hL2 u h2];obtain ⟨h3,h4⟩:=h.Rt u k e;refine ⟨h3,?_⟩;rcases h4 with h4 | ⟨v,v1,v2,v3,v4⟩
   ·exact .inl h4
   ·grind
  ·grind
def Gh.grow (G:Gh ρ) (i:Nat) (t:Int) (x:ρ):Gh ρ :=
 { G with L:=λu=>if u=t then G.L t++[(t,x)] else G.L u,Qx:=λj u k=>G.Qx j u k\/(j=i/\u=t/\k<=(G.L t).length+1)}
theorem Hy {x:ρ} (hl:G.O7 t=some i):By i G (G.grow i t x):=by
 refine ⟨⟨λu j e=>⟨e,rfl⟩,λu=>?_,λ_ _ _ e=>.inl e,λ_ _ _ e=>e⟩,λu j hj e=>⟨e,?_⟩,λ_ _ _=>rfl,λj u k hj e=>?_⟩
 ·show _ <+: (if u=t then _ else G.L u)
  by_cases e:u=t
  ·grind
  ·rw [am e];exact gk _
 ·show (if u=t then _ else G.L u)=_;rw [am];intro h;have e:G.O7 u=some j:=e;rw [h,hl] at e;simp only [cV] at e;exact hj e.symm
 ·rcases e with e | e
  ·exact e
  ·exact absurd e.1 hj
theorem NI.grow {x:ρ} (hg:GI n G) (h:NI z n G i s) (hl:G.O7 s.Ow=some i) (Pz:s.Oz=G.L s.Ow) :
  By i G (G.grow i s.Ow x)/\GI n (G.grow i s.Ow x)/\NI z n (G.grow i s.Ow x) i (place s s.Oz.length (s.Ow,x)):=by
 have hby:=Hy (x:=x) hl;have hle:=hby.le;have Wd:(G.grow i s.Ow x).L s.Ow=s.Oz++[(s.Ow,x)]:=by show (if s.Ow=s.Ow then _ else _)=_;rw [ay rfl,Pz]
 have hL2:∀u,u≠s.Ow->(G.grow i s.Ow x).L u=G.L u:=λu e=>am e;have hlen:(s.Oz++[(s.Ow,x)]).length=s.Oz.length+1:=bL;have h1t:=(hg.O7 _ _ hl).2;have Qo:SF (G.grow i s.Ow x).L (s.Oz++[(s.Ow,x)]):=(h.ok.mono hle.L).snoc h1t h.top Wd;have hlast:bC (s.Oz++[(s.Ow,x)]) (s.Oz++[(s.Ow,x)]).length=s.Ow:=by rw [hlen,kH];simp
 have hpl:(place s s.Oz.length (s.Ow,x)).Oz=s.Oz++[(s.Ow,x)]:=by show s.Oz.take s.Oz.length++_=_;rw [bW]
 have hT:∀j u k,G.Qx j u k->((G.grow i s.Ow x).L u).take k=(G.L u).take k:=λj u k e=>(jb (hle.L u) (hg.Qx j u k e).2.2).symm;refine ⟨hby,⟨hg.O7,hg.quo,λu j e=>?_,λu e=>?_,λu=>?_,λu e=>?_,λu=>?_,λj u c2 l2 b2 e=>?_,hg.utd,hg.late,λj u k e=>?_,λj u k k' e hk=>?_,λj u k u2 c2 l2 e1 e2 hu=>?_⟩,⟨h.ib,h.own,h.nn,h.vl,h.ml,h.t0,by rw [hpl];exact Qo,by rw [hpl,hlast];exact aP _,h.Vf,h.ch,h.RB,λe=>⟨hl,by rw [hpl];exact Wd.symm⟩,λl b e=>⟨λe1=>?_,λ_=>by rw [hpl];exact Wd.symm⟩,h.Xp,λe j h1 h2 h3=>.inl (h.OE e j h1 h2 h3),λe j=>?_,?_,λu k e=>?_,?_,h.bad⟩⟩
 ·by_cases h2:u=s.Ow
  ·subst h2;have e:G.O7 s.Ow=some j:=e;rw [hl] at e;simp only [cV] at e;subst e;rw [Wd,hlen];exact ⟨.inr ⟨rfl,rfl,by rw [Pz];exact ah _⟩,(hg.self _ _ hl).2⟩
  ·rw [hL2 u h2];exact ⟨.inl (hg.self u j e).1,(hg.self u j e).2⟩
 ·exact ⟨(hg.pre u e).1.trans (hle.L u),(hg.pre u e).2⟩
 ·by_cases h2:u=s.Ow
  ·grind
  ·rw [hL2 u h2];exact hg.top u
 ·have h2:u≠s.Ow:=λh2=>by
   have e:G.O7 u=none:=e;rw [h2,hl] at e;cases e
  rw [hL2 u h2];exact hg.none_ u e
 ·by_cases h2:u=s.Ow
  ·subst h2;rw [Wd];exact Qo
  ·rw [hL2 u h2];exact (hg.ok u).mono hle.L
 ·exact Jk
 ·rcases e with e | ⟨rfl,rfl,e⟩
  ·obtain ⟨e1,e2,e3⟩:=hg.Qx j u k e;exact ⟨e1,e2,aF e3 (hle.L u).length_le⟩
  ·exact ⟨h.ib,by show G.O7 s.Ow≠none;rw [hl];simp,by rw [Wd,hlen,Pz];exact e⟩
 ·exact KB
 ·rcases e1 with e | ⟨rfl,rfl,e⟩
  ·rw [hT j u k e];exact hg.Zc j u k u2 c2 l2 e e2 hu
  ·exact Ku
 ·have e1:G.O7 s.Ow=none:=e1;rw [hl] at e1;cases e1
 ·rw [hpl,hlen];have:=h.next e j;show s.next.getD j 0<=_;omega
 ·have h1:=h.ag.mono hle (aP _);rw [hpl];exact h1.Oz (by rw [hlen];have:=h.ag.1;show s.agreed<=_;omega) (by rw [cS h.ag.1])
 ·rcases e with e | ⟨_,rfl,e⟩
  ·rw [hT _ u k e,hpl];obtain ⟨h3,h4⟩:=h.Rt u k e;refine ⟨h3,?_⟩;rcases h4 with h4 | h4
   ·grind
   ·exact .inr h4
  ·rw [Wd,hpl];exact ⟨aP _,.inl (kh _ _)⟩
 ·rw [hpl];show s.many=(recs z ((s.Oz++[(s.Ow,x)]).take s.agreed)).length;rw [cS h.ag.1];exact h.many
theorem NI.agree (h:NI z n G i s) (hk:Ts n G s.Ow s.Oz k):NI z n G i (X.agree z s k):=by
 unfold X.agree;split
 ·refine ⟨h.ib,h.own,h.nn,h.vl,h.ml,h.t0,h.ok,h.top,h.Vf,h.ch,h.RB,h.UC,h.S8,h.Xp,h.OE,h.next,hk,h.Rt,?_,h.bad⟩;have e:s.Oz.take k=s.Oz.take s.agreed++(s.Oz.take k).drop s.agreed:=by
   grind [eI,bT]
  rw [h.many];exact Jz
 ·exact h
theorem jr (k:Nat):(X.agree z s k).Oz=s.Oz/\(X.agree z s k).Ow=s.Ow/\(X.agree z s k).Oy=s.Oy/\(X.agree z s k).own=s.own/\(X.agree z s k).n=s.n/\(X.agree z s k).next=s.next/\(X.agree z s k).OE=s.OE:=by
 unfold X.agree;split<;>exact ⟨rfl,rfl,rfl,rfl,rfl,rfl,rfl⟩
theorem iW (s:Nd ρ):∀k r,OQ s k=some r->r<=k/\s.agreed<r/\bC s.Oz r=s.Ow/\dF s (fI s.OE r)=true:=by
 intro k;induction k with
 | zero=>intro r e;simp [OQ] at e
 | succ k ih =>
  intro r e;unfold OQ at e;split at e
  ·grind
  ·cases e
theorem NI.matown (h:NI z n G i s):NI z n G i { s with OE:=s.OE.set s.own s.Oz.length }:=by
 refine ⟨h.ib,h.own,h.nn,h.vl,by show (s.OE.set _ _).length=n;rw [cY];exact h.ml,h.t0,h.ok,h.top,h.Vf,h.ch,h.RB,h.UC,h.S8,h.Xp,λe j h1 h2 h3=>?_,h.next,h.ag,h.Rt,h.many,h.bad⟩;have e1:(s.OE.set s.own s.Oz.length).getD j 0=s.OE.getD j 0:=by
  grind [h.own]
 rw [e1] at h3 ⊢;exact h.OE e j h1 h2 h3
theorem NI.settle (hg:GI n G) (h:NI z n G i s) (hl:s.Oy=true):NI z n G i (X.settle z s).2:=by
 unfold X.settle;have h1:=h.matown;split
 ·rename_i k hk;obtain ⟨k1,k2,k3,k4⟩:=iW _ _ _ hk;obtain ⟨d1,d2⟩:=h.UC hl;refine h1.agree ⟨k1,.inr ⟨s.Ow,k,⟨by omega,by rw [<-d2];exact k1,by rw [<-d2];exact k3,by rw [d1];simp,?_⟩,aP _,ah _,by show s.Oz.take k=_;rw [<-d2]⟩⟩;have hm:(s.OE.set s.own s.Oz.length).length=n:=h1.ml;refine ⟨λj=>decide (k<=(s.OE.set s.own s.Oz.length).getD j 0),?_,λj hj hq=>?_⟩
  ·unfold RO;have e:=ka (s.OE.set s.own s.Oz.length) (λm=>decide (k<=m)) 0;rw [hm] at e;rw [<-e];rw [h.nn] at k4;exact gT k4
  ·have hq:=gT hq;by_cases e:j=i
   ·subst e;have e1:=(hg.self _ _ d1).1;exact hg.dn _ _ _ _ e1 (by rw [<-d2];exact k1)
   ·exact hg.dn _ _ _ _ (h1.OE hl j hj e (by show (s.OE.set s.own s.Oz.length).getD j 0≠0;omega)) hq
 ·exact h1
theorem kZ:(X.settle z s).2.Oz=s.Oz/\(X.settle z s).2.Ow=s.Ow/\(X.settle z s).2.Oy=s.Oy/\(X.settle z s).2.own=s.own/\(X.settle z s).2.n=s.n/\(X.settle z s).2.next=s.next:=by
 unfold X.settle;split
 ·grind [jr]
 ·exact ⟨rfl,rfl,rfl,rfl,rfl,rfl⟩
theorem NI.back (h:NI z n G i s):NI z n G i (X.back s):=by
 refine ⟨h.ib,h.own,h.nn,by show (List.replicate s.n false).length=n;rw [jw];exact h.nn,by show (List.replicate s.n 0).length=n;rw [jw];exact h.nn,h.t0,h.ok,h.top,h.Vf,h.ch,h.RB,λe=>(by cases e),h.S8,λ_ j hj hv=>?_,λe=>(by cases e),λe=>(by cases e),⟨aH _,.inl rfl⟩,h.Rt,rfl,h.bad⟩;have hv:(List.replicate s.n false).getD j false=true:=hv;simp [aL,Cl] at hv;split at hv<;>simp at hv
end
section
variable {ρ:Type} {z:ρ->Bool} {e:ρ}
variable {n i:Nat} {G G' G'':Gh ρ} {t t':Int} {l l':Lg ρ} {a a' k:Nat} {s s':Nd ρ} {m:Ms ρ}
def Sy (z:ρ->Bool) (n i:Nat) (G:Gh ρ) (r:List (Ms ρ)×Nd ρ):Prop:=∃G',By i G G'/\GI n G'/\NI z n G' i r.2/\∀m∈r.1,MI n G' m
theorem Sy.of (hg:GI n G) (h:NI z n G i s) {ms:List (Ms ρ)} (hm:∀m∈ms,MI n G m):Sy z n i G (ms,s):=⟨G,By.refl i G,hg,h,hm⟩
theorem Sy.step {r:List (Ms ρ)×Nd ρ} (hb:By i G G') (h:Sy z n i G' r):Sy z n i G r:=by
 obtain ⟨G2,h1,h2⟩:=h;exact ⟨G2,hb.trans h1,h2⟩
theorem NI.tc (h:NI z n G i s) (a b c:Nat) (hh:List (Int×Int×Int)):NI z n G i { s with Ox:=a,OA:=b,heard:=hh,cnt:=c } :=
 ⟨h.ib,h.own,h.nn,h.vl,h.ml,h.t0,h.ok,h.top,h.Vf,h.ch,h.RB,h.UC,h.S8,h.Xp,h.OE,h.next,h.ag,h.Rt,h.many,h.bad⟩
theorem cT (s:Nd ρ) (f:Nat->Ms ρ) (m:Ms ρ) (h:m∈cP s f):∃d,d<s.n/\d≠s.own/\m=f d:=by
 grind [cP,d7.1,rY.1,eJ.1]
theorem JZ (l:Lg ρ):(l.map Prod.fst).zip (l.map Prod.snd)=l:=by
 induction l with
 | nil=>rfl
 | cons x l ih=>simp [ih]
theorem pk (h:NI z n G i s) (hl:s.Oy=true) (d:Nat):MI n G (bI s d):=by
 obtain ⟨h1,h2⟩:=h.UC hl;have hn:=h.next hl d;refine ⟨i,h.ib,by show ((s.own:Nat):Int)=_;rw [h.own],λk=>mT,λk=>mT,λ_=>⟨h1,s.next.getD d 0,s.agreed,rfl,?_,rfl,?_,?_,?_,?_⟩,λk=>mT⟩
 ·show bC s.Oz (s.next.getD d 0)=bC (G.L s.Ow) _;rw [<-h2]
 ·show s.next.getD d 0+(((s.Oz.drop (s.next.getD d 0)).take 20).map Prod.snd).length<=(G.L s.Ow).length;rw [<-h2,aW,aQ,cH];omega
 ·show ([s.Ow,((s.next.getD d 0:Nat):Int),bC s.Oz (s.next.getD d 0),(s.agreed:Int)]++((s.Oz.drop (s.next.getD d 0)).take 20).map Prod.fst).length=4+(((s.Oz.drop (s.next.getD d 0)).take 20).map Prod.snd).length;simp;omega
 ·show (((s.Oz.drop (s.next.getD d 0)).take 20).map Prod.fst).zip (((s.Oz.drop (s.next.getD d 0)).take 20).map Prod.snd)=((G.L s.Ow).drop (s.next.getD d 0)).take (((s.Oz.drop (s.next.getD d 0)).take 20).map Prod.snd).length;rw [JZ,<-h2,aW,aQ,List.take_eq_take_iff];omega
 ·show Ts n G s.Ow (G.L s.Ow) s.agreed;rw [<-h2];exact h.ag
theorem kG (h:NI z n G i s) (hl:s.Oy=true):∀m∈cP s (bI s),MI n G m:=λm hm=>by
 obtain ⟨d,_,_,rfl⟩:=cT _ _ _ hm;exact pk h hl d
theorem tR (h:NI z n G i s) (d kd:Int) (N:List Int) (h1:kd≠1) (h2:kd≠2\/N.getD 1 0≠1) (h3:kd≠3) (h4:kd≠4\/N.getD 1 0=0):MI n G (say s d kd N):=by
 refine ⟨i,h.ib,by show ((s.own:Nat):Int)=_;rw [h.own],λk=>absurd k h1,λk k2=>?_,λk=>absurd k h3,λk _ k2=>?_⟩
 ·rcases h2 with h2 | h2
  ·exact absurd k h2
  ·exact absurd k2 h2
 ·rcases h4 with h4 | h4
  ·exact absurd k h4
  ·exact absurd h4 k2
theorem NI.relead (h:NI z n G i s) (hl:G.O7 s.Ow=some i) (Pz:s.Oz=G.L s.Ow):NI z n G i { s with Oy:=true,next:=List.replicate s.n s.Oz.length,OE:=List.replicate s.n 0 }:=by
 refine ⟨h.ib,h.own,h.nn,h.vl,by show (List.replicate s.n 0).length=n;rw [jw];exact h.nn,h.t0,h.ok,h.top,h.Vf,h.ch,h.RB,λ_=>⟨hl,Pz⟩,h.S8,h.Xp,λ_ j hj _ h3=>?_,λ_ j=>?_,h.ag,h.Rt,h.many,h.bad⟩
 ·grind
 ·grind
theorem zF (hg:GI n G) (h:NI z n G i s) (hch:s.OC=(i:Int)) (hc:jp s=true):Sy z n i G (lead z e s):=by
 have hq:RO n λj=>s.OB.getD j false:=by
  unfold jp dF at hc;rw [h.nn] at hc;have e:=ka s.OB id false;rw [h.vl] at e;have hc:=gT hc;rw [e] at hc;exact hc
 obtain ⟨l0,b0,hv0⟩:∃(l0:Lg ρ) (b0:Bool),G.V i s.Ow=some (i,l0,b0):=by
  grind [h.ch]
 have key:∃G1,By i G G1/\GI n G1/\NI z n G1 i s/\G1.O7 s.Ow=some i/\G1.L s.Ow=s.Oz:=by
  cases hl:G.O7 s.Ow with
  | none=>exact ⟨_,h.QB hg hl hch ⟨_,hq,λj _ hj=>hj⟩⟩
  | some c =>
   by_cases VX:c=i
   ·grind [By.refl,h.S8]
   ·obtain ⟨q,q1,q2⟩:=hg.quo _ _ hl;obtain ⟨j,hj,j1,j2⟩:=q1.meet hq;obtain ⟨l,e1,_⟩:=q2 j hj j1;obtain ⟨l2,b2,_,_,e2,_⟩:=h.Xp hch j hj j2;rw [e1] at e2;simp only [cV,ig] at e2;exact absurd e2.1 VX
 obtain ⟨G1,hb,hg1,h1,PH,Wd⟩:=key;obtain ⟨hb2,hg2,h2⟩:=(h1.relead PH Wd.symm).grow (x:=e) hg1 PH Wd.symm;have h3:=h2.settle hg2 rfl;obtain ⟨s1,s2,s3,_⟩:=kZ (z:=z) (s:=place { s with Oy:=true,next:=List.replicate s.n s.Oz.length,OE:=List.replicate s.n 0 } s.Oz.length (s.Ow,e));exact ⟨_,hb.trans hb2,hg2,h3,kG h3 s3⟩
theorem Dd (hg:GI n G) (h:NI z n G i s):Sy z n i G (stand z e s):=by
 unfold stand;split
 ·exact pZ
 ·obtain ⟨G1,hb,hg1,h1,b,hv⟩:=h.stand hg;have e1:({ enter s (s.Ow+1) (s.own:Int) with Ox:=0,OB:=(List.replicate s.n false).set s.own true }:Nd ρ)={ enter s (s.Ow+1) (i:Int) with Ox:=0,OB:=(List.replicate n false).set i true }:=by rw [h.own,h.nn]
  simp only;rw [e1];split
  ·rename_i hc;exact (zF hg1 h1 rfl hc).step hb
  ·refine ⟨G1,hb,hg1,h1,λm hm=>?_⟩;obtain ⟨d,_,_,rfl⟩:=cT _ _ _ hm;exact ⟨i,h.ib,by show ((s.own:Nat):Int)=_;rw [h.own],λ_ _=>⟨s.Oz,b,hv,rfl,rfl⟩,λk=>mT,λk=>mT,λk=>mT⟩
theorem tH (hg:GI n G) (h:NI z n G i s):Sy z n i G (tick z e s):=by
 unfold tick;have h1:NI z n G i { s with OA:=s.OA+1 }:=h.tc s.Ox (s.OA+1) s.cnt s.heard;have h2:NI z n G i { s with OA:=s.OA+1,Ox:=s.Ox+1 }:=h.tc (s.Ox+1) (s.OA+1) s.cnt s.heard;simp only;split
 ·grind [Sy.of,kG]
 ·split
  ·exact Dd hg h2
  ·split
   ·refine Sy.of hg h2 (λm hm=>?_);obtain ⟨d,_,_,rfl⟩:=cT _ _ _ hm;exact tR h2 _ _ _ dZ (.inl dZ) dZ (.inl dZ)
   ·grind [Sy.of]
theorem oW (hg:GI n G) (h:NI z n G i s) (x:ρ):Sy z n i G ((OH z s x).1,(OH z s x).2.2):=by
 unfold OH;split
 ·exact pZ
 ·rename_i hl;split
  ·exact pZ
  ·have hl:s.Oy=true:=by simpa using hl
   obtain ⟨d1,d2⟩:=h.UC hl;obtain ⟨hb2,hg2,h2⟩:=h.grow (x:=x) hg d1 d2;have h3:=h2.settle hg2 hl;obtain ⟨s1,s2,s3,_⟩:=kZ (z:=z) (s:=place s s.Oz.length (s.Ow,x));exact ⟨_,hb2,hg2,h3,kG h3 (s3.trans hl)⟩
theorem FM (hg:GI n G) (h:NI z n G i s) (hm:MI n G m) (hk:m.kind=1) (hf:m.OD≠(i:Int)):Sy z n i G (asked s m):=by
 unfold asked;split
 ·rename_i hN;obtain ⟨f,hfn,Vw,h1,_⟩:=hm.f;obtain ⟨l0,b0,e1,e2,e3⟩:=h1 hk hN;have Yb:f≠i:=λe=>hf (by rw [Vw,e]);simp only;split
  ·rename_i hy;simp only [bu,cE,bi,aZ] at hy;obtain ⟨⟨TE,UD⟩,U9⟩:=hy;rw [TE] at e1;have hu:jL l0 s.Oz:=by
    rw [e2,e3] at UD;rcases UD with UD | ⟨UD,TZ⟩
    ·exact .inl UD
    ·exact .inr ⟨UD.symm,by omega⟩
   split
   ·rename_i hc;rw [cE] at hc;obtain ⟨g1,g2,g3,g4⟩:=h.Q7 hg hc hfn Yb ⟨l0,b0,e1,hu⟩;refine ⟨_,g1,g2,?_,λx hx=>?_⟩
    ·rw [Vw];exact g3.tc 0 s.OA (s.cnt+1) s.heard
    ·rw [aj.1 hx];refine ⟨i,h.ib,by show ((s.own:Nat):Int)=_;rw [h.own],λk=>mT,λ_ _=>⟨f,s.Oz,_,l0,b0,Vw,g4,g1.le.V _ _ _ e1,hu⟩,λk=>mT,λk=>mT⟩
   ·rename_i hc;have hc:¬s.OC = -1:=by simpa using hc
    obtain ⟨l,b,hv⟩:∃(l:Lg ρ) (b:Bool),G.V i s.Ow=some (f,l,b):=by
     grind [h.ch]
    obtain ⟨l1,b1,e4,e5⟩:=hg.utd _ _ _ _ _ hv;refine Sy.of hg (h.tc 0 s.OA s.cnt s.heard) (λx hx=>?_);rw [aj.1 hx];exact ⟨i,h.ib,by show ((s.own:Nat):Int)=_;rw [h.own],λk=>mT,λ_ _=>⟨f,l,b,l1,b1,Vw,hv,e4,e5⟩,λk=>mT,λk=>mT⟩
  ·grind [Sy.of,aj.1,tR]
 ·exact pZ
theorem CW (hg:GI n G) (h:NI z n G i s) (hm:MI n G m) (hk:m.kind=2) (hd:m.dst=(i:Int)):Sy z n i G (O4 z e s m):=by
 unfold O4;split
 ·exact pZ
 ·rename_i hy;simp only [bi,bb,bq,not_or,ne_eq,dJ,gp] at hy;obtain ⟨⟨⟨TE,UD⟩,U9⟩,TZ⟩:=hy;obtain ⟨f,hfn,Vw,_,h1,_⟩:=hm.f;obtain ⟨d,l,b,l0,b0,e1,e2,e3,e4⟩:=h1 hk TZ;obtain rfl:d=i:=az;rw [UD] at e2 e3;rw [h.own] at U9;have h2:NI z n G d { s with OB:=s.OB.set m.OD.toNat true }:=by
   refine ⟨h.ib,h.own,h.nn,by show (s.OB.set _ _).length=n;rw [cY];exact h.vl,h.ml,h.t0,h.ok,h.top,h.Vf,h.ch,h.RB,h.UC,h.S8,λhc j hj hv=>?_,h.OE,h.next,h.ag,h.Rt,h.many,h.bad⟩;by_cases hjf:j=f
   ·grind
   ·grind [h.Xp]
  simp only;split
  ·rename_i hc;exact zF hg h2 U9 hc
  ·grind [Sy.of]
theorem xf (hg:GI n G) (h:NI z n G i s) (hm:MI n G m) (hk:m.kind=4) (hf:m.OD≠(i:Int)):Sy z n i G (answered z s m):=by
 unfold answered;split
 ·exact pZ
 ·rename_i hy;simp only [bi,bb,bq,not_or,ne_eq,dJ,dy,aZ,Og] at hy;obtain ⟨⟨⟨⟨hl,UD⟩,U9⟩,TZ⟩,hy5⟩:=hy;obtain ⟨f,hfn,Vw,_,_,_,h1⟩:=hm.f;have hw:m.OD.toNat=f:=az;have Yb:f≠i:=λe=>hf (by rw [Vw,e]);obtain ⟨d1,d2⟩:=h.UC hl;have Ve:∀j,j<n->j≠i->s.OE.getD j 0<=s.Oz.length:=λj hj SX=>by
   by_cases h0:s.OE.getD j 0=0
   ·omega
   ·have:=(hg.Qx _ _ _ (h.OE hl j hj SX h0)).2.2;rw [d2];exact this
  simp only;rw [hw];split
  ·split
   ·exact pZ
   ·have h2:NI z n G i { s with next:=s.next.set f (max (m.N.getD 2 0).toNat (s.OE.getD f 0))}:=by
     refine ⟨h.ib,h.own,h.nn,h.vl,h.ml,h.t0,h.ok,h.top,h.Vf,h.ch,h.RB,h.UC,h.S8,h.Xp,h.OE,λ_ j=>?_,h.ag,h.Rt,h.many,h.bad⟩;by_cases hjf:j=f
     ·grind
     ·exact JR
    refine Sy.of hg h2 (λx hx=>?_);rw [aj.1 hx];exact pk h2 hl f
  ·rename_i Sk;split
   ·exact pZ
   ·have UI:=h1 hk U9 Sk TZ;rw [UD] at UI;have h2:NI z n G i { s with OE:=s.OE.set f (m.N.getD 2 0).toNat,next:=s.next.set f (max (m.N.getD 2 0).toNat (s.next.getD f 0))}:=by
     refine ⟨h.ib,h.own,h.nn,h.vl,by show (s.OE.set _ _).length=n;rw [cY];exact h.ml,h.t0,h.ok,h.top,h.Vf,h.ch,h.RB,h.UC,h.S8,h.Xp,λ_ j hj SX h3=>?_,λ_ j=>?_,h.ag,h.Rt,h.many,h.bad⟩
     ·by_cases hjf:j=f
      ·grind
      ·grind [h.OE]
     ·show (s.next.set f _).getD j 0<=s.Oz.length;by_cases hjf:j=f
      ·subst hjf;rw [aL];by_cases hlt:j<s.next.length
       ·rw [List.getElem?_set_self hlt];have:=h.next hl j;show max _ _<=_;omega
       ·grind
      ·exact JR
    have h3:=h2.settle hg hl;obtain ⟨_,_,s3,_⟩:=kZ (z:=z) (s:={ s with OE:=s.OE.set f (m.N.getD 2 0).toNat,next:=s.next.set f (max (m.N.getD 2 0).toNat (s.next.getD f 0))});have Vh:=s3.trans hl;split
    ·exact Sy.of hg h3 (kG h3 Vh)
    ·grind [Sy.of,aj.1,pk]
end
section
variable {ρ:Type} {z:ρ->Bool} {e:ρ}
variable {n i:Nat} {G G' G'':Gh ρ} {t t':Int} {l l' Lt:Lg ρ} {a a' k p q r:Nat} {s s':Nd ρ} {m:Ms ρ}
theorem pA (h:q<Lt.length) (r:Nat):(Lt.drop q).take (r+1)=Lt[q]::(Lt.drop (q+1)).take r:=by
 rw [dP h,List.take_succ_cons]
theorem oQ (h:q<Lt.length):Lt.take q++[Lt[q]]=Lt.take (q+1):=by
 simp_all
theorem iK (h:q<Lt.length):bC Lt (q+1)=Lt[q].1:=mW Lt q h
theorem Hn (hp:∀k,k<Lt.length->1<=bC Lt (k+1)/\bC Lt (k+1)<=t) (p:Nat):∀(r j:Nat) (s:Nd ρ),s.Ow=t->s.Oz=Lt.take (p+j)->s.agreed<=p+j->p+j+r<=Lt.length ->
  ∃c,bH p ((Lt.drop (p+j)).take r) j s=(true,{ s with Oz:=Lt.take (p+j+r),cnt:=c }):=by
 intro r;induction r with
 | zero =>
  intro j s ht hl ha hr;exact ⟨s.cnt,by rw [List.take_zero,eK,<-hl];rfl⟩
 | succ r ih =>
  intro j s ht hl ha hr;have hq:p+j<Lt.length:=az;have h1:=hp _ hq;rw [iK hq] at h1;have hlen:s.Oz.length=p+j:=by rw [hl,aQ];omega
  rw [pA hq];have e0:Lt[p+j]=(Lt[p+j].1,Lt[p+j].2):=rfl;rw [e0];unfold bH;rw [am az,am az];have hs:place s (p+j) (Lt[p+j].1,Lt[p+j].2)={ s with Oz:=Lt.take (p+(j+1)),cnt:=s.cnt+1 }:=by
   grind [place,tv,oQ]
  rw [hs];obtain ⟨c,hc⟩:=ih (j+1) { s with Oz:=Lt.take (p+(j+1)),cnt:=s.cnt+1 } ht rfl (by show s.agreed<=_;omega) az;exact ⟨c,by rw [show p+j+1=p+(j+1) from rfl,hc,show p+j+(r+1)=p+(j+1)+r by omega]⟩
theorem ug {L:Int->Lg ρ} (Qo:SF L Lt) (hp:∀k,k<Lt.length->bC Lt (k+1)<=t) (p:Nat):∀(r j:Nat) (s:Nd ρ),s.Ow=t->SF L s.Oz->s.Oz.take (p+j)=Lt.take (p+j)->p+j<=s.Oz.length->s.agreed<=s.Oz.length->s.Oz.take s.agreed=Lt.take s.agreed->p+j+r<=Lt.length ->
  ∃c lg,bH p ((Lt.drop (p+j)).take r) j s=(true,{ s with Oz:=lg,cnt:=c }) /\
   ((lg=s.Oz/\s.Oz.take (p+j+r)=Lt.take (p+j+r)/\p+j+r<=s.Oz.length) \/
    (lg=Lt.take (p+j+r)/\∃c,c<p+j+r/\s.agreed<=c/\(s.Oz.length<=c\/bC s.Oz (c+1)≠bC Lt (c+1)))):=by
 intro r;induction r with
 | zero =>
  intro j s ht hs hl hj ha XF hr;exact ⟨s.cnt,s.Oz,rfl,.inl ⟨rfl,hl,hj⟩⟩
 | succ r ih =>
  intro j s ht hs hl hj ha XF hr;have hq:p+j<Lt.length:=az;have h1:Lt[p+j].1<=t:=by have:=hp _ hq;rw [iK hq] at this;exact this
  have h0:1<=Lt[p+j].1:=by have:=Qo.pos _ hq;rw [iK hq] at this;exact this
  rw [pA hq];have e0:Lt[p+j]=(Lt[p+j].1,Lt[p+j].2):=rfl;rw [e0];unfold bH;by_cases hc:p+j<s.Oz.length/\bC s.Oz (p+j+1)=Lt[p+j].1
  ·rw [ay hc];have Q3:=hs.same Qo (k:=p+j+1) az az (by rw [hc.2,iK hq]);obtain ⟨c,lg,h2,h3⟩:=ih (j+1) s ht hs Q3 az ha XF az;refine ⟨c,lg,h2,?_⟩;rw [show p+j+(r+1)=p+(j+1)+r by omega];exact h3
  ·rw [am hc];have QJ:s.agreed<=p+j:=by
     grind [ws,iK]
   rw [am az];have hpl:place s (p+j) (Lt[p+j].1,Lt[p+j].2)={ s with Oz:=Lt.take (p+(j+1)),cnt:=s.cnt+1 }:=by
     unfold place;rw [hl,oQ hq];rfl
   rw [hpl];obtain ⟨c,h2⟩:=Hn (t:=t) (λk hk=>⟨Qo.pos k hk,hp k hk⟩) p r (j+1) { s with Oz:=Lt.take (p+(j+1)),cnt:=s.cnt+1 } ht rfl (by show s.agreed<=_;omega) az;refine ⟨c,Lt.take (p+(j+1)+r),h2,.inr ⟨by rw [show p+(j+1)+r=p+j+(r+1) by omega],p+j,by omega,QJ,?_⟩⟩;by_cases h3:p+j<s.Oz.length
   · grind [iK]
   · exact .inl az
def Gh.got (G:Gh ρ) (i:Nat) (t:Int) (r:Nat):Gh ρ:={ G with Qx:=λj u k=>G.Qx j u k\/(j=i/\u=t/\k<=r)}
theorem Lh:By i G (G.got i t r) :=
 ⟨⟨λ_ _ e=>⟨e,rfl⟩,λ_=>gk _,λ_ _ _ e=>.inl e,λ_ _ _ e=>e⟩,λ_ _ _ e=>⟨e,rfl⟩,λ_ _ _=>rfl,λj u k hj e=>by
  rcases e with e | e
  ·exact e
  ·exact absurd e.1 hj⟩
theorem NI.got {f:Nat} {lg:Lg ρ} (hg:GI n G) (h:NI z n G i s) (hl:G.O7 s.Ow=some f) (hf:f≠i) (hr:r<=(G.L s.Ow).length) (c:Nat)
  (YM:(lg=s.Oz/\s.Oz.take r=(G.L s.Ow).take r/\r<=s.Oz.length)\/(lg=(G.L s.Ow).take r/\∃c,c<r/\s.agreed<=c/\(s.Oz.length<=c\/bC s.Oz (c+1)≠bC (G.L s.Ow) (c+1))))
  (XF:s.Oz.take s.agreed=(G.L s.Ow).take s.agreed):By i G (G.got i s.Ow r)/\GI n (G.got i s.Ow r)/\NI z n (G.got i s.Ow r) i { s with Oz:=lg,cnt:=c }/\r<=lg.length/\lg.take r=(G.L s.Ow).take r:=by
 have hby:=Lh (G:=G) (i:=i) (t:=s.Ow) (r:=r);have hle:=hby.le;have Pr:G.O7 s.Ow≠none:=by rw [hl];simp
 have QR:r<=lg.length/\lg.take r=(G.L s.Ow).take r:=by
  grind
 have PD:s.Oy=false:=by
  cases e:s.Oy with
  | false=>rfl
  | true =>
   have:=(h.UC e).1;rw [hl] at this;simp only [cV] at this;exact absurd this hf
 have hall:s.agreed<=lg.length/\lg.take s.agreed=s.Oz.take s.agreed:=by
  rcases YM with ⟨rfl,h1,h2⟩ | ⟨rfl,c,c1,c2,_⟩
  ·exact ⟨h.ag.1,rfl⟩
  ·grind
 have TI:∀(P:Lg ρ),P <+: s.Oz->P <+: G.L s.Ow->P <+: lg:=λP h1 h2=>by
  rcases YM with ⟨rfl,_⟩ | ⟨rfl,c,c1,c2,c3⟩
  ·exact h1
  ·have hP:P.length<=r:=by
    apply bz;intro hn;have PH:=h1.length_le;rcases c3 with c3 | c3
    ·omega
    ·exact c3 (by rw [<-fR h1 az,<-fR h2 az])
   rw [List.prefix_iff_eq_take] at h2 ⊢;rw [dv,bT hP];exact h2
 refine ⟨hby,⟨hg.O7,hg.quo,λu j e=>⟨.inl (hg.self u j e).1,(hg.self u j e).2⟩,hg.pre,hg.top,hg.none_,hg.ok,hg.V,hg.utd,hg.late,λj u k e=>?_,λj u k k' e hk=>?_,λj u k u2 c2 l2 e1 e2 hu=>?_⟩,⟨h.ib,h.own,h.nn,h.vl,h.ml,h.t0,?_,?_,h.Vf,h.ch,h.RB,λe=>?_,λl b e=>⟨λe1=>absurd e1 Pr,λe1=>?_⟩,h.Xp,λe=>?_,λe=>?_,?_,λu k e=>?_,?_,h.bad⟩,QR⟩
 ·rcases e with e | ⟨rfl,rfl,e⟩
  ·exact hg.Qx j u k e
  ·exact ⟨h.ib,Pr,by show k<=(G.L s.Ow).length;omega⟩
 ·exact KB
 ·rcases e1 with e | ⟨rfl,rfl,e⟩
  ·exact hg.Zc j u k u2 c2 l2 e e2 hu
  ·exact Ku
 ·rcases YM with ⟨rfl,_⟩ | ⟨rfl,_⟩
  ·exact h.ok
  ·exact (hg.ok _).take _
 ·rcases YM with ⟨rfl,_⟩ | ⟨rfl,c,c1,_⟩
  ·exact h.top
  ·rw [eH yd hr];rcases hg.top s.Ow with h1 | h1
   ·exact cK ((hg.ok s.Ow).up _ _ yd (ah _)) h1
   ·rw [h1] at hr;simp at hr;omega
 ·grind
 ·have e1:G.O7 s.Ow=some i:=e1;rw [hl] at e1;simp only [cV] at e1;exact absurd e1 hf
 ·grind
 ·grind
 ·exact (h.ag.mono hle (aP _)).Oz hall.1 hall.2
 ·rcases e with e | ⟨_,rfl,e⟩
  ·obtain ⟨h1,h2⟩:=h.Rt u k e;refine ⟨h1,?_⟩;show (G.L u).take k <+: lg\/∃v,u<v/\v<=s.Ow/\G.O7 v≠none/\¬(G.L u).take k <+: G.C v;rcases h2 with h2 | h2
   ·by_cases hut:u=s.Ow
    ·grind
    ·by_cases hc:(G.L u).take k <+: G.C s.Ow
     ·exact .inl (TI _ h2 (hc.trans (hg.pre _ Pr).1))
     ·grind
   ·exact .inr h2
  ·refine ⟨aP _,.inl ?_⟩;show (G.L s.Ow).take k <+: lg;rw [<-iz QR.2 e];exact kh _ _
 ·rw [hall.2];exact h.many
theorem Hl (hg:GI n G) (h:NI z n G i s) (hm:MI n G m) (hk:m.kind=3) (hf:m.OD≠(i:Int)) (ht:m.N.getD 0 0<=s.Ow):Sy z n i G (lays z s m):=by
 unfold lays;split
 ·exact pZ
 ·split
  ·grind [Sy.of,aj.1,tR]
  ·rename_i hlt;obtain ⟨f,hfn,Vw,_,_,h1,_⟩:=hm.f;obtain ⟨e1,p,a,e2,e3,e4,e5,e6,e7,e8⟩:=h1 hk;have Yb:f≠i:=λe=>hf (by rw [Vw,e]);have hT:m.N.getD 0 0=s.Ow:=az;rw [hT] at e1 e3 e5 e7 e8;have hs1:NI z n G i { s with Ox:=0 }:=h.tc 0 s.OA s.cnt s.heard;simp only;split
   ·rename_i O0;unfold nf at O0;simp only [bu,aZ,cE] at O0;rw [e2] at O0 ⊢;obtain ⟨f1,f2⟩:=O0;have f1:p<=s.Oz.length:=KY;have f2:bC s.Oz p=bC (G.L s.Ow) p:=G3;have hpp:=h.ok.same (hg.ok s.Ow) f1 az f2;have XF:s.Oz.take s.agreed=(G.L s.Ow).take s.agreed:=Mh;have YE:∀k,k<(G.L s.Ow).length->bC (G.L s.Ow) (k+1)<=s.Ow:=λk hk=>Me;have hpn:((p:Int)).toNat=p:=az;rw [hpn,e7];obtain ⟨c,lg,c1,c2⟩:=ug (hg.ok s.Ow) YE p m.B.length 0 { s with Ox:=0 } rfl h.ok hpp f1 h.ag.1 XF e5;rw [eK] at c1 c2;rw [c1];simp only [if_true];obtain ⟨g1,g2,g3,g4,g5⟩:=hs1.got (r:=p+m.B.length) hg e1 Yb e5 c c2 XF;have UF:(min (m.N.getD 3 0) ((p+m.B.length:Nat):Int)).toNat=min a (p+m.B.length):=by rw [e4];omega
    rw [UF];have hagd:Ts n (G.got i s.Ow (p+m.B.length)) s.Ow lg (min a (p+m.B.length)):=by
     refine ((e8.mono g1.le (aP _)).less (Nat.min_le_left _ _)).Oz (aF (Nat.min_le_right _ _) g4) ?_;exact iz g5 (Nat.min_le_right _ _)
    have g6:=g3.agree hagd;obtain ⟨a1,a2,_⟩:=jr (z:=z) (s:={ s with Ox:=0,Oz:=lg,cnt:=c }) (min a (p+m.B.length));refine ⟨_,g1,g2,g6,λx hx=>?_⟩;rw [aj.1 hx];refine ⟨i,h.ib,?_,λk=>mT,λk=>mT,λk=>mT,λ_ _ _ _=>?_⟩
    ·show (((X.agree z { s with Ox:=0,Oz:=lg,cnt:=c } (min a (p+m.B.length))).own:Nat):Int)=_;rw [g6.own]
    ·show (G.got i s.Ow (p+m.B.length)).Qx i (X.agree z { s with Ox:=0,Oz:=lg,cnt:=c } (min a (p+m.B.length))).Ow _;rw [a2];refine .inr ⟨rfl,rfl,?_⟩;show (((p+m.B.length:Nat):Int)).toNat<=_;omega
   ·refine Sy.of hg hs1 (λx hx=>?_);rw [aj.1 hx];exact tR hs1 _ _ _ dZ (.inl dZ) dZ (.inr rfl)
theorem wI (hg:GI n G) (h:NI z n G i s) (hm:MI n G m) (hd:m.dst=(i:Int)) (hf:m.OD≠(i:Int)) (ht:m.N.getD 0 0<=s.Ow):Sy z n i G (OJ z e s m):=by
 unfold OJ;split
 ·rename_i hk;exact FM hg h hm hk hf
 ·split
  ·rename_i hk;exact CW hg h hm hk hd
  ·split
   ·rename_i hk;exact Hl hg h hm hk hf ht
   ·split
    ·rename_i hk;exact xf hg h hm hk hf
    ·split
     ·split
      ·exact Sy.of hg (h.tc s.Ox s.OA s.cnt _) (λm hm=>by cases hm)
      ·exact pZ
     ·exact pZ
theorem yC (hg:GI n G) (h:NI z n G i s) (hm:MI n G m):Sy z n i G (get z e s m):=by
 unfold get;split
 ·exact pZ
 ·rename_i hb;unfold kQ at hb;simp only [bi,bb,bq,cE,not_or,ne_eq,dJ,aZ] at hb;obtain ⟨⟨⟨⟨⟨⟨b1,b2⟩,b3⟩,b4⟩,b5⟩,b6⟩,b7⟩:=hb;rw [h.own] at b1 b2;split
  ·rename_i ht;exact wI hg (h.enter ht) hm b1 b2 (aP _)
  ·exact wI hg h hm b1 b2 az
end
section
variable {ρ:Type} {z:ρ->Bool} {e:ρ}
variable {n i:Nat} {s s':Nd ρ} {m:Ms ρ}
theorem qP (s:Nd ρ) (f:Nat->Ms ρ):(cP s f).length<=s.n:=by
 grind [cP,aW,aF,cX]
theorem gd (s:Nd ρ) (f:Nat->Ms ρ) (h:s.own<s.n):(cP s f).length+1<=s.n:=by
 unfold cP;rw [aW];have h1:∀k,s.own<k->((List.range k).filter λi=>i != s.own).length+1<=k:=by
  intro k;induction k with
  | zero=>intro h;omega
  | succ k ih =>
   intro hk;rw [dp,cz,aE];by_cases e:k=s.own
   ·grind
   ·grind
 exact h1 _ h
theorem fX (s:Nd ρ) (f:Nat->Ms ρ) (d:Nat) (h1:d<s.n) (h2:d≠s.own):f d∈cP s f:=by
 grind [cP,d7.2,rY.2,eJ.2]
theorem df:(X.settle z s).2.own=s.own/\(X.settle z s).2.n=s.n/\(X.settle z s).2.OA=s.OA/\(X.settle z s).2.Ox=s.Ox/\(X.settle z s).2.Oy=s.Oy/\(X.settle z s).2.Ow=s.Ow/\(X.settle z s).2.OC=s.OC/\(X.settle z s).2.Oz=s.Oz/\(X.settle z s).2.next=s.next/\(X.settle z s).2.heard=s.heard/\(X.settle z s).2.OB=s.OB/\(X.settle z s).2.cnt=s.cnt/\(X.settle z s).2.OE=s.OE.set s.own s.Oz.length:=by
 unfold X.settle X.agree;split
 ·grind
 ·grind
structure Leads (s:Nd ρ) (r:List (Ms ρ)×Nd ρ):Prop where
 own:r.2.own=s.own
 n:r.2.n=s.n
 OA:r.2.OA=s.OA
 Ow:r.2.Ow=s.Ow
 Ox:r.2.Ox=s.Ox
 Oy:r.2.Oy=true
 heard:r.2.heard=s.heard
 len:r.2.Oz.length=s.Oz.length+1
 cnt:r.2.cnt=s.cnt+1
 ms:r.1=cP r.2 (bI r.2)
theorem ee (s:Nd ρ):Leads s (lead z e s):=by
 obtain ⟨h1,h2,h3,h4,h5,h6,h7,h8,h9,h10,h11,Y9,h13⟩:=df (z:=z) (s:=place { s with Oy:=true,next:=List.replicate s.n s.Oz.length,OE:=List.replicate s.n 0 } s.Oz.length (s.Ow,e));refine ⟨h1,h2,h3,h6,h4,h5,h10,?_,Y9,rfl⟩;show (X.settle z _).2.Oz.length=_;rw [h8];show (s.Oz.take s.Oz.length++[(s.Ow,e)]).length=_;simp
structure QM (s:Nd ρ) (m:Ms ρ) (r:List (Ms ρ)×Nd ρ):Prop where
 own:r.2.own=s.own
 n:r.2.n=s.n
 OA:r.2.OA=s.OA
 up:s.Ow<=r.2.Ow
 top:r.2.Ow<=max s.Ow (m.N.getD 0 0)
 reach:m.N.getD 0 0<=r.2.Ow
 Oy:r.2.Oy=true->(s.Oy=true/\r.2.Ow=s.Ow)\/(m.kind=2/\m.N.getD 0 0=s.Ow/\r.2.Ow=s.Ow/\m.N.getD 1 0=1/\s.Oy=false)
 keeps:s.Oy=true->r.2.Ow=s.Ow->r.2.Oy=true
 out:∀x∈r.1,x.OD=(s.own:Int)/\x.N.getD 0 0=r.2.Ow/\2<=x.N.length /\
  ((m.kind=1/\x.kind=2/\x.dst=m.OD)\/(m.kind=2/\x.kind=3)\/(m.kind=3/\x.kind=4/\x.dst=m.OD)\/(m.kind=4/\x.kind=3))/\(x.kind=3->r.2.Oy=true)
 num:r.1.length<=1\/((m.kind=2\/m.kind=4)/\r.1.length+1<=s.n)
 Ox:r.2.Ox=s.Ox\/r.2.Ox=0
theorem fO (t:Int) (h:s.Ow<t):(enter s t (-1)).Oy=false:=by
 show (s.Oy && !decide (s.Ow<t))=false;simp [h]
theorem QM.of {ms:List (Ms ρ)} {s1:Nd ρ} (hN:m.N.getD 0 0<=s.Ow) (h1:s1.own=s.own) (h2:s1.n=s.n) (h3:s1.OA=s.OA) (h4:s1.Ow=s.Ow) (h5:s1.Oy=true->s.Oy=true\/(m.kind=2/\m.N.getD 0 0=s.Ow/\m.N.getD 1 0=1/\s.Oy=false)) (h6:s.Oy=true->s1.Oy=true)
  (h7:∀x∈ms,x.OD=(s.own:Int)/\x.N.getD 0 0=s1.Ow/\2<=x.N.length/\((m.kind=1/\x.kind=2/\x.dst=m.OD)\/(m.kind=2/\x.kind=3)\/(m.kind=3/\x.kind=4/\x.dst=m.OD)\/(m.kind=4/\x.kind=3))/\(x.kind=3->s1.Oy=true))
  (h8:ms.length<=1\/((m.kind=2\/m.kind=4)/\ms.length+1<=s.n)) (h9:s1.Ox=s.Ox\/s1.Ox=0):QM s m (ms,s1) :=
 ⟨h1,h2,h3,by show s.Ow<=s1.Ow;omega,by show s1.Ow<=_;omega,by show _<=s1.Ow;omega,λh=>by
  rcases h5 h with g | ⟨g1,g2,g3,g4⟩
  ·exact .inl ⟨g,h4⟩
  ·exact .inr ⟨g1,g2,h4,g3,g4⟩,λh _=>h6 h,h7,h8,h9⟩
theorem Ca (hN:m.N.getD 0 0<=s.Ow) (hk:m.kind=1):QM s m (asked s m):=by
 have hnil:QM s m ([],s):=QM.of hN rfl rfl rfl rfl .inl id (λx hx=>by cases hx) (.inl bL) (.inl rfl);have TI:∀(s1:Nd ρ) (v:Int),s1.own=s.own->s1.n=s.n->s1.OA=s.OA->s1.Ow=s.Ow->(s1.Oy=s.Oy)->(s1.Ox=s.Ox\/s1.Ox=0)->QM s m ([say s1 m.OD 2 [s1.Ow,v]],s1):=λs1 v h1 h2 h3 h4 h5 h6=>by
  refine QM.of hN h1 h2 h3 h4 (λh=>.inl (h5 ▸ h)) (λh=>h5 ▸ h) (λx hx=>?_) (.inl bL) h6;rw [aj.1 hx];exact ⟨by show ((s1.own:Nat):Int)=_;rw [h1],rfl,by show 2<=2;omega,.inl ⟨hk,rfl,rfl⟩,λe=>(by cases e)⟩
 unfold asked;split
 ·simp only;split
  ·split
   ·exact TI _ _ rfl rfl rfl rfl (by show (s.Oy && !decide (s.Ow<s.Ow))=_;simp) (.inr rfl)
   ·simp_all
  ·grind
 ·exact hnil
theorem Ag (ho:s.own<s.n) (hN:m.N.getD 0 0<=s.Ow) (hk:m.kind=2):QM s m (O4 z e s m):=by
 unfold O4;split
 ·exact QM.of hN rfl rfl rfl rfl .inl id (λx hx=>by cases hx) (.inl bL) (.inl rfl)
 ·rename_i hy;simp only [bi,bb,bq,not_or,ne_eq,dJ,gp] at hy;obtain ⟨⟨⟨TE,UD⟩,U9⟩,TZ⟩:=hy;simp only;split
  ·have h:=ee (z:=z) (e:=e) { s with OB:=s.OB.set m.OD.toNat true };refine QM.of (s1:=(lead z e { s with OB:=s.OB.set m.OD.toNat true }).2) (ms:=(lead z e { s with OB:=s.OB.set m.OD.toNat true }).1) hN h.own h.n h.OA h.Ow (λ_=>.inr ⟨hk,UD,TZ,TE⟩) (λ_=>h.Oy) (λx hx=>?_) (.inr ⟨.inl hk,?_⟩) (.inl h.Ox)
   ·grind [cT,lead,bI,h.ms,h.own,h.Oy]
   ·rw [h.ms];have:=gd (lead z e { s with OB:=s.OB.set m.OD.toNat true }).2 (bI (lead z e { s with OB:=s.OB.set m.OD.toNat true }).2) (by rw [h.own,h.n];exact ho);rw [h.n] at this;exact this
  ·grind [QM.of]
theorem iJ (p:Nat) (l:List (Int×ρ)):∀(j:Nat) (s:Nd ρ),(bH p l j s).2.own=s.own/\(bH p l j s).2.n=s.n/\(bH p l j s).2.OA=s.OA/\(bH p l j s).2.Ow=s.Ow/\(bH p l j s).2.Oy=s.Oy/\(bH p l j s).2.Ox=s.Ox/\(bH p l j s).2.cnt<=s.cnt+l.length/\(bH p l j s).2.heard=s.heard:=by
 induction l with
 | nil=>intro j s;exact ⟨rfl,rfl,rfl,rfl,rfl,rfl,ah _,rfl⟩
 | cons x l ih =>
  intro j s;unfold bH;split
  ·grind
  ·grind [place,aX]
theorem gE (s:Nd ρ) (k:Nat):(X.agree z s k).own=s.own/\(X.agree z s k).n=s.n/\(X.agree z s k).OA=s.OA/\(X.agree z s k).Ow=s.Ow/\(X.agree z s k).Oy=s.Oy/\(X.agree z s k).Ox=s.Ox/\(X.agree z s k).cnt=s.cnt/\(X.agree z s k).heard=s.heard:=by
 unfold X.agree;split<;>exact ⟨rfl,rfl,rfl,rfl,rfl,rfl,rfl,rfl⟩
theorem EF (hN:m.N.getD 0 0<=s.Ow) (hk:m.kind=3):QM s m (lays z s m):=by
 have TI:∀(s1:Nd ρ) (a b:Int),s1.own=s.own->s1.n=s.n->s1.OA=s.OA->s1.Ow=s.Ow->(s1.Oy=s.Oy)->(s1.Ox=s.Ox\/s1.Ox=0)->QM s m ([say s1 m.OD 4 [s1.Ow,a,b]],s1):=λs1 a b h1 h2 h3 h4 h5 h6=>by
  refine QM.of hN h1 h2 h3 h4 (λh=>.inl (h5 ▸ h)) (λh=>h5 ▸ h) (λx hx=>?_) (.inl bL) h6;rw [aj.1 hx];exact ⟨by show ((s1.own:Nat):Int)=_;rw [h1],rfl,by show 2<=3;omega,.inr (.inr (.inl ⟨hk,rfl,rfl⟩)),λe=>(by cases e)⟩
 have hnil:∀(s1:Nd ρ),s1.own=s.own->s1.n=s.n->s1.OA=s.OA->s1.Ow=s.Ow->(s1.Oy=s.Oy)->(s1.Ox=s.Ox\/s1.Ox=0)->QM s m ([],s1):=λs1 h1 h2 h3 h4 h5 h6=>QM.of hN h1 h2 h3 h4 (λh=>.inl (h5 ▸ h)) (λh=>h5 ▸ h) (λx hx=>by cases hx) (.inl bL) h6;unfold lays;split
 ·exact hnil s rfl rfl rfl rfl rfl (.inl rfl)
 ·split
  ·grind
  ·simp only;split
   ·grind [iJ,bH,gE]
   ·simp_all
theorem uC (ho:s.own<s.n) (hN:m.N.getD 0 0<=s.Ow) (hk:m.kind=4):QM s m (answered z s m):=by
 have hnil:QM s m ([],s):=QM.of hN rfl rfl rfl rfl .inl id (λx hx=>by cases hx) (.inl bL) (.inl rfl);unfold answered;split
 ·exact hnil
 ·rename_i hy;simp only [bi,bb,bq,not_or,ne_eq,dJ,dy,aZ,Og] at hy;have PL:∀(s1:Nd ρ) (ms:List (Ms ρ)),s1.own=s.own->s1.n=s.n->s1.OA=s.OA->s1.Ow=s.Ow->s1.Oy=true->s1.Ox=s.Ox->(ms.length<=1\/ms.length+1<=s.n)->(∀x∈ms,∃d,x=bI s1 d)->QM s m (ms,s1):=λs1 ms h1 h2 h3 h4 h5 h6 h7 h8=>by
   grind [QM.of,bI]
  split
  ·grind
  ·grind [df,gd,bI,cT,aj.1]
theorem sZ (ho:s.own<s.n) (hN:m.N.getD 0 0<=s.Ow):QM s m (OJ z e s m):=by
 have hnil:∀(hh:List (Int×Int×Int)),QM s m ([],{ s with heard:=hh }):=λhh=>QM.of hN rfl rfl rfl rfl .inl id (λx hx=>by cases hx) (.inl bL) (.inl rfl);unfold OJ;split
 ·rename_i hk;exact Ca hN hk
 ·split
  ·rename_i hk;exact Ag ho hN hk
  ·split
   ·rename_i hk;exact EF hN hk
   ·split
    ·rename_i hk;exact uC ho hN hk
    ·split
     ·split
      ·exact hnil _
      ·exact hnil s.heard
     ·exact hnil s.heard
structure Fit (i n:Nat) (m:Ms ρ):Prop where
 dst:m.dst=(i:Int)
 f:∃f:Nat,f<n/\m.OD=(f:Int)/\f≠i
 len:2<=m.N.length
 t1:1<=m.N.getD 0 0
 t2:m.N.getD 0 0<=1099511627776
theorem Fit.ok (h:Fit i n m) (ho:s.own=i) (hn:s.n=n):kQ s m=false:=by
 grind [kQ,dw,gA,h.f,h.len,h.t1,h.t2,h.dst]
theorem Ib (hi:s.own=i) (hn:s.n=n) (O9:i<n) (hf:Fit i n m):QM s m (get z e s m):=by
 unfold get;rw [hf.ok hi hn];simp only [bk,if_false];split
 ·rename_i ht;have h:QM (enter s (m.N.getD 0 0) (-1)) m (OJ z e (enter s (m.N.getD 0 0) (-1)) m):=sZ (by show s.own<s.n;omega) (aP _);have e1:(enter s (m.N.getD 0 0) (-1)).Ow=m.N.getD 0 0:=rfl;have h1:=h.up;have h2:=h.top;refine ⟨h.own,h.n,h.OA,by omega,by omega,h.reach,λhl=>?_,λ_ hl=>by omega,h.out,h.num,h.Ox⟩;rcases h.Oy hl with ⟨h3,_⟩ | ⟨h3,h4,h5,h6,h7⟩
  ·rw [fO _ ht] at h3;cases h3
  ·exfalso;have hc:(enter s (m.N.getD 0 0) (-1)).OC = -1:=rfl;have hv:(OJ z e (enter s (m.N.getD 0 0) (-1)) m)=O4 z e (enter s (m.N.getD 0 0) (-1)) m:=by
    grind [OJ]
   rw [hv] at hl;unfold O4 at hl;rw [ay (by
    rw [hc];simp only [bi,bb,bq];exact .inl (.inr az))] at hl
   rw [fO _ ht] at hl;cases hl
 ·exact sZ az az
end
section
variable {ρ:Type} {z:ρ->Bool} {e:ρ}
variable {n i:Nat} {s s':Nd ρ} {m:Ms ρ}
structure LN (s:Nd ρ):Prop where
 nl:s.next.length=s.n
 hl:s.heard.length=s.n
 ml:s.OE.length=s.n
 vl:s.OB.length=s.n
 mn:s.Oy=true->∀j,j≠s.own->s.OE.getD j 0<=s.next.getD j 0
 ha:∀j,0<=(s.heard.getD j (0,0,0)).1/\(s.heard.getD j (0,0,0)).1<=(s.OA:Int)
 lt:s.Oy=true->1<=s.Oz.length/\bC s.Oz s.Oz.length=s.Ow
 qs:s.Oy=true->OQ s s.Oz.length=none/\s.OE.getD s.own 0=s.Oz.length
theorem kw (s s':Nd ρ) (h1:s'.Oz=s.Oz) (h2:s'.Ow=s.Ow) (h3:s'.OE=s.OE) (h4:s'.n=s.n) (h5:s'.agreed=s.agreed):∀k,OQ s' k=OQ s k:=by
 intro k;induction k with
 | zero=>rfl
 | succ k ih =>
  unfold OQ dF;rw [h1,h2,h3,h4,h5,ih]
theorem tM (s s':Nd ρ) (h1:s'.Oz=s.Oz) (h2:s'.Ow=s.Ow) (h3:s'.OE=s.OE) (h4:s'.n=s.n):∀k r,OQ s k=some r->s'.agreed=r->OQ s' k=none:=by
 intro k;induction k with
 | zero=>intro r e;simp [OQ] at e
 | succ k ih =>
  intro r e h5;unfold OQ at e ⊢;split at e
  ·grind [cV,dF,fI]
  ·cases e
theorem tL (s:Nd ρ):OQ (X.settle z s).2 s.Oz.length=none:=by
 unfold X.settle;split
 ·rename_i k hk;obtain ⟨k1,k2,k3,k4⟩:=iW _ _ _ hk;obtain ⟨a1,a2,a3,a4,a5,a6,a7⟩:=jr (z:=z) (s:={ s with OE:=s.OE.set s.own s.Oz.length }) k;refine tM _ _ a1 a2 a7 a5 _ k hk ?_;unfold X.agree;rw [ay k2]
 ·rename_i hk;exact hk
theorem eE (l:List Nat) (a b v:Nat) (h:a<l.length):(l.set a v).getD b 0=if b=a then v else l.getD b 0:=by
 grind
theorem qH {α:Type} (k j:Nat) (a d:α):(List.replicate k a).getD j d=if j<k then a else d:=by
 grind
theorem sC:s.agreed<=(X.settle z s).2.agreed:=by
 unfold X.settle X.agree;split
 ·grind
 ·exact ah _
theorem LN.settle (ho:s.own<s.n) (h1:s.next.length=s.n) (h2:s.heard.length=s.n) (h3:s.OE.length=s.n) (h4:s.OB.length=s.n) (h5:∀j,j≠s.own->s.OE.getD j 0<=s.next.getD j 0) (h6:∀j,0<=(s.heard.getD j (0,0,0)).1/\(s.heard.getD j (0,0,0)).1<=(s.OA:Int)) (h7:1<=s.Oz.length/\bC s.Oz s.Oz.length=s.Ow):LN (X.settle z s).2:=by
 obtain ⟨g1,g2,g3,g4,g5,g6,g7,g8,g9,ZU,g11,g12,g13⟩:=df (z:=z) (s:=s);refine ⟨by rw [g9,g2];exact h1,by rw [ZU,g2];exact h2,by rw [g13,g2,cY];exact h3,by rw [g11,g2];exact h4,λ_ j hj=>?_,λj=>by rw [ZU,g3];exact h6 j,λ_=>by rw [g8,g6];exact h7,λ_=>⟨by rw [g8];exact tL s,?_⟩⟩
 ·grind
 ·grind
theorem LN.quiet (h:LN s) (h1:s'.n=s.n) (h2:s'.own=s.own) (h3:s'.next=s.next) (h4:s'.OE=s.OE) (h5:s'.OB.length=s.OB.length) (h6:s'.heard=s.heard) (h7:s.OA<=s'.OA) (h8:s'.Oy=true->s.Oy=true/\s'.Oz=s.Oz/\s'.Ow=s.Ow/\s'.agreed=s.agreed):LN s':=by
 refine ⟨by rw [h3,h1];exact h.nl,by rw [h6,h1];exact h.hl,by rw [h4,h1];exact h.ml,by rw [h5,h1];exact h.vl,λe j hj=>?_,λj=>?_,λe=>?_,λe=>?_⟩
 ·rw [h4,h3];exact h.mn (h8 e).1 j (by rw [<-h2];exact hj)
 ·rw [h6];have:=h.ha j;exact ⟨this.1,by omega⟩
 ·obtain ⟨a,b,c,_⟩:=h8 e;rw [b,c];exact h.lt a
 ·obtain ⟨a,b,c,d⟩:=h8 e;rw [b,h4,h2,kw s s' b c h4 h1 d];exact h.qs a
theorem LN.lead (h:LN s) (ho:s.own<s.n):LN (lead z e s).2:=by
 refine LN.settle ho (by show (List.replicate s.n s.Oz.length).length=s.n;simp) h.hl (by show (List.replicate s.n 0).length=s.n;simp) h.vl (λj _=>?_) h.ha ?_
 ·show (List.replicate s.n 0).getD j 0<=_;rw [qH];split<;>exact aH _
 ·show 1<=(s.Oz.take s.Oz.length++[(s.Ow,e)]).length/\bC (s.Oz.take s.Oz.length++[(s.Ow,e)]) (s.Oz.take s.Oz.length++[(s.Ow,e)]).length=s.Ow;rw [bW];refine ⟨by simp,?_⟩;have e1:(s.Oz++[(s.Ow,e)]).length=s.Oz.length+1:=bL;rw [e1,kH];simp
theorem LN.stand (h:LN s) (ho:s.own<s.n):LN (stand z e s).2:=by
 unfold X.stand;split
 ·exact h
 ·have h1:LN { enter s (s.Ow+1) (s.own:Int) with Ox:=0,OB:=(List.replicate s.n false).set s.own true }:=by
   refine h.quiet rfl rfl rfl rfl (by show ((List.replicate s.n false).set s.own true).length=_;rw [h.vl];simp) rfl (ah _) (λhl=>?_);have hl:(s.Oy && !decide (s.Ow<s.Ow+1))=true:=hl;simp at hl;omega
  simp only;split
  ·exact h1.lead ho
  ·exact h1
theorem LN.tick (h:LN s) (ho:s.own<s.n):LN (tick z e s).2:=by
 have h1:LN { s with OA:=s.OA+1 }:=h.quiet rfl rfl rfl rfl rfl rfl (cZ _) (λhl=>⟨hl,rfl,rfl,rfl⟩);have h2:LN { s with OA:=s.OA+1,Ox:=s.Ox+1 }:=h.quiet rfl rfl rfl rfl rfl rfl (cZ _) (λhl=>⟨hl,rfl,rfl,rfl⟩);unfold X.tick;simp only;split
 ·exact h1
 ·grind [h2.stand]
theorem LN.OH (h:LN s) (ho:s.own<s.n) (x:ρ):LN (OH z s x).2.2:=by
 unfold X.OH;split
 ·exact h
 ·rename_i hl;have hl:s.Oy=true:=by simpa using hl
  split
  ·exact h
  ·refine LN.settle ho h.nl h.hl h.ml h.vl (λj hj=>h.mn hl j hj) h.ha ?_;show 1<=(s.Oz.take s.Oz.length++[(s.Ow,x)]).length/\bC (s.Oz.take s.Oz.length++[(s.Ow,x)]) (s.Oz.take s.Oz.length++[(s.Ow,x)]).length=s.Ow;rw [bW];refine ⟨by simp,?_⟩;have e1:(s.Oz++[(s.Ow,x)]).length=s.Oz.length+1:=bL;rw [e1,kH];simp
theorem LN.back:LN (X.back s):=by
 refine ⟨by show (List.replicate s.n 0).length=s.n;simp,by show (List.replicate s.n (0,0,0)).length=s.n;simp,by show (List.replicate s.n 0).length=s.n;simp,by show (List.replicate s.n false).length=s.n;simp,λh=>kD,λj=>?_,λh=>kD,λh=>kD⟩;show 0<=((List.replicate s.n (0,0,0)).getD j (0,0,0)).1/\((List.replicate s.n (0,0,0)).getD j (0,0,0)).1<=((0:Nat):Int);rw [qH];split<;>simp
theorem LN.new (i n:Nat):LN (X.new i n:Nd ρ):=by
 refine ⟨by show (List.replicate n 0).length=n;simp,by show (List.replicate n (0,0,0)).length=n;simp,by show (List.replicate n 0).length=n;simp,by show (List.replicate n false).length=n;simp,λh=>kD,λj=>?_,λh=>kD,λh=>kD⟩;show 0<=((List.replicate n (0,0,0)).getD j (0,0,0)).1/\((List.replicate n (0,0,0)).getD j (0,0,0)).1<=((0:Nat):Int);rw [qH];split<;>simp
theorem LN.enter (h:LN s) (t w:Int) (ht:s.Ow<t):LN (X.enter s t w):=by
 refine h.quiet rfl rfl rfl rfl rfl rfl (ah _) (λhl=>?_);have hl:(s.Oy && !decide (s.Ow<t))=true:=hl;simp [ht] at hl
theorem LN.asked (h:LN s):LN (asked s m).2:=by
 unfold X.asked;split
 ·simp only;split
  ·split
   ·refine h.quiet rfl rfl rfl rfl rfl rfl (ah _) (λhl=>⟨?_,rfl,rfl,rfl⟩);have hl:(s.Oy && !decide (s.Ow<s.Ow))=true:=hl;simpa using hl
   ·grind [h.quiet]
  ·exact h
 ·exact h
theorem LN.O4 (h:LN s) (ho:s.own<s.n):LN (O4 z e s m).2:=by
 unfold X.O4;split
 ·exact h
 ·have h1:LN { s with OB:=s.OB.set m.OD.toNat true }:=h.quiet rfl rfl rfl rfl (by show (s.OB.set _ _).length=_;rw [cY]) rfl (ah _) (λhl=>⟨hl,rfl,rfl,rfl⟩);simp only;split
  ·exact h1.lead ho
  ·exact h1
theorem wi (p:Nat) (l:List (Int×ρ)):∀(j:Nat) (s:Nd ρ),(bH p l j s).2.next=s.next/\(bH p l j s).2.OE=s.OE/\(bH p l j s).2.OB=s.OB:=by
 induction l with
 | nil=>intro j s;exact ⟨rfl,rfl,rfl⟩
 | cons x l ih =>
  exact I5
theorem LN.lays (h:LN s) (hN:m.N.getD 0 0<=s.Ow):LN (lays z s m).2:=by
 unfold X.lays;split
 ·exact h
 ·split
  ·exact h
  ·have hl:s.Oy=false:=by
    grind
   simp only;split
   ·obtain ⟨h1,h2,h3,h4,h5,h6,_,h8⟩:=iJ (m.N.getD 1 0).toNat ((m.N.drop 4).zip m.B) 0 { s with Ox:=0 };obtain ⟨k1,k2,k3⟩:=wi (m.N.getD 1 0).toNat ((m.N.drop 4).zip m.B) 0 { s with Ox:=0 };generalize bH (m.N.getD 1 0).toNat ((m.N.drop 4).zip m.B) 0 { s with Ox:=0 }=p at *;have hp:p.2.Oy=false:=h5.trans hl;split
    ·obtain ⟨g1,g2,g3,g4,g5,g6,_,g8⟩:=gE (z:=z) p.2 (min (m.N.getD 3 0) (((m.N.getD 1 0).toNat+m.B.length:Nat):Int)).toNat;obtain ⟨_,_,_,_,_,a6,a7⟩:=jr (z:=z) (s:=p.2) (min (m.N.getD 3 0) (((m.N.getD 1 0).toNat+m.B.length:Nat):Int)).toNat;have a8:(X.agree z p.2 (min (m.N.getD 3 0) (((m.N.getD 1 0).toNat+m.B.length:Nat):Int)).toNat).OB=p.2.OB:=Hb;refine h.quiet (g2.trans h2) (g1.trans h1) (a6.trans k1) (a7.trans k2) (by rw [a8,k3]) (g8.trans h8) (by rw [g3,h3];exact ah _) (λhl=>?_);rw [g5,hp] at hl;cases hl
    ·refine h.quiet h2 h1 k1 k2 (by show p.2.OB.length=_;rw [k3]) h8 (by show s.OA<=p.2.OA;rw [h3];exact ah _) (λhl=>?_);rw [hp] at hl;cases hl
   ·grind [h.quiet]
theorem LN.answered (h:LN s) (ho:s.own<s.n) (hf:m.OD.toNat<s.n/\m.OD.toNat≠s.own):LN (answered z s m).2:=by
 unfold X.answered;split
 ·exact h
 ·rename_i hy;simp only [bi,bb,bq,not_or,ne_eq,dJ,dy,aZ,Og] at hy;obtain ⟨⟨⟨⟨hl,UD⟩,U9⟩,TZ⟩,hy5⟩:=hy;simp only;split
  ·split
   ·exact h
   ·refine ⟨by show (s.next.set _ _).length=s.n;rw [cY];exact h.nl,h.hl,h.ml,h.vl,λ_ j hj=>?_,h.ha,λ_=>h.lt hl,λ_=>?_⟩
    ·show s.OE.getD j 0<=(s.next.set _ _).getD j 0;rw [eE _ _ _ _ (by rw [h.nl];exact hf.1)];have:=h.mn hl j hj;split
     ·rename_i e;subst e;omega
     ·exact this
    ·have e1:∀nx,OQ { s with next:=nx } s.Oz.length=none:=λnx=>(kw s { s with next:=nx } rfl rfl rfl rfl rfl _).trans (h.qs hl).1;exact ⟨e1 _,(h.qs hl).2⟩
  ·split
   ·exact h
   ·have h1:LN (X.settle z { s with OE:=s.OE.set m.OD.toNat (m.N.getD 2 0).toNat,next:=s.next.set m.OD.toNat (max (m.N.getD 2 0).toNat (s.next.getD m.OD.toNat 0))}).2:=by
     refine LN.settle ho (by show (s.next.set _ _).length=s.n;rw [cY];exact h.nl) h.hl (by show (s.OE.set _ _).length=s.n;rw [cY];exact h.ml) h.vl (λj hj=>?_) h.ha (h.lt hl);rw [eE _ _ _ _ (by rw [h.ml];exact hf.1),eE _ _ _ _ (by rw [h.nl];exact hf.1)];split
     ·omega
     ·exact h.mn hl j hj
    split
    ·exact h1
    ·split<;>exact h1
theorem LN.OJ (h:LN s) (ho:s.own<s.n) (hN:m.N.getD 0 0<=s.Ow) (hf:m.OD.toNat<s.n/\m.OD.toNat≠s.own):LN (OJ z e s m).2:=by
 unfold X.OJ;split
 ·exact h.asked
 ·split
  ·exact h.O4 ho
  ·split
   ·exact h.lays hN
   ·split
    ·exact h.answered ho hf
    ·split
     ·split
      ·refine ⟨h.nl,by show (s.heard.set _ _).length=s.n;rw [cY];exact h.hl,h.ml,h.vl,h.mn,λj=>?_,h.lt,λhl=>?_⟩
       ·rw [aL,jA];have h3:=h.ha j;rw [aL] at h3;split
        ·grind
        ·exact h3
       ·have e1:∀hh,OQ { s with heard:=hh } s.Oz.length=none:=λhh=>(kw s { s with heard:=hh } rfl rfl rfl rfl rfl _).trans (h.qs hl).1;exact ⟨e1 _,(h.qs hl).2⟩
      ·exact h
     ·exact h
theorem LN.get (h:LN s) (hi:s.own=i) (hn:s.n=n) (O9:i<n):LN (get z e s m).2:=by
 unfold X.get;split
 ·exact h
 ·rename_i hb;unfold kQ at hb;simp only [bi,bb,bq,cE,not_or,ne_eq,dJ,aZ] at hb;split
  ·rename_i ht;exact (h.enter _ _ ht).OJ (by show s.own<s.n;omega) (aP _) (by show m.OD.toNat<s.n/\m.OD.toNat≠s.own;omega)
  ·grind [h.OJ]
end
structure Cs (ρ:Type) where
 nd:Nat->Nd ρ
 up:Nat->Bool
 q:List (Ms ρ)
 lo:Lg ρ
section
variable {ρ:Type} (z:ρ->Bool) (e:ρ)
def Cs.call (S:Cs ρ) (i:Nat) (r:List (Ms ρ)×Nd ρ):Cs ρ:=⟨λj=>if j=i then r.2 else S.nd j,S.up,S.q++r.1,S.lo⟩
def Cs.bring (S:Cs ρ) (m:Ms ρ):Cs ρ:=if S.up m.dst.toNat then S.call m.dst.toNat (X.get z e (S.nd m.dst.toNat) m) else S
def Cs.tick (S:Cs ρ) (i:Nat):Cs ρ:=if S.up i then S.call i (X.tick z e (S.nd i)) else S
def Cs.Ox (S:Cs ρ) (n:Nat):Cs ρ:=(List.range n).foldl (Cs.tick z e) S
def Cs.Pc {ρ:Type} (S:Cs ρ):Cs ρ:=⟨S.nd,S.up,[],S.lo⟩
def Cs.dl (S:Cs ρ) (ms:List (Ms ρ)):Cs ρ:=ms.foldl (Cs.bring z e) S
def Cs.drain:Nat->Cs ρ->Cs ρ
 | 0,S=>S
 | f+1,S=>match S.q with
  | []=>S
  | m::q=>Cs.drain f (Cs.bring z e { S with q:=q } m)
structure Fm (n:Nat) (b:Int) (m:Ms ρ):Prop where
 f:∃i f:Nat,i<n/\f<n/\f≠i/\m.dst=(i:Int)/\m.OD=(f:Int)
 len:2<=m.N.length
 t0:0<=m.N.getD 0 0
 tb:m.N.getD 0 0<=b
structure QS (n:Nat) (b:Int) (G:Gh ρ) (S:Cs ρ):Prop where
 gi:GI n G
 ni:∀i,i<n->NI z n G i (S.nd i)
 ln:∀i,i<n->LN (S.nd i)
 mi:∀m∈S.q,MI n G m/\Fm n b m
 up:∀i,S.up i=true->i<n
 tb:∀i,i<n->(S.nd i).Ow<=b
 lo:∃t,Ts n G t S.lo S.lo.length
def Wk (n:Nat) (b:Int) (S:Cs ρ):Prop:=∃G,QS z n b G S
variable {z e}
variable {n i:Nat} {b b':Int} {S S':Cs ρ} {G:Gh ρ} {m:Ms ρ} {s:Nd ρ} {r:List (Ms ρ)×Nd ρ}
theorem Fm.mono (h:Fm n b m) (hb:b<=b'):Fm n b' m:=⟨h.f,h.len,h.t0,cK h.tb hb⟩
theorem Wk.mono (h:Wk z n b S) (hb:b<=b'):Wk z n b' S:=by
 obtain ⟨G,h⟩:=h;exact ⟨G,h.gi,h.ni,h.ln,λm hm=>⟨(h.mi m hm).1,(h.mi m hm).2.mono hb⟩,h.up,λi hi=>cK (h.tb i hi) hb,h.lo⟩
theorem QS.call (h:QS z n b G S) (hi:i<n) (hs:Sy z n i G r) (hl:LN r.2) (ht:r.2.Ow<=b) (hm:∀m∈r.1,Fm n b m):∃G',By i G G'/\QS z n b G' (S.call i r):=by
 obtain ⟨G',h1,h2,h3,h4⟩:=hs;refine ⟨G',h1,h2,λj hj=>?_,λj hj=>?_,λm hx=>?_,h.up,λj hj=>?_,h.lo.elim λt g=>⟨t,g.mono h1.le (aP _)⟩⟩
 ·show NI z n G' j (if j=i then r.2 else S.nd j);by_cases e:j=i
  ·subst e;rw [ay rfl];exact h3
  ·rw [am e];exact (h.ni j hj).other h.gi h1 e
 ·show LN (if j=i then r.2 else S.nd j);by_cases e:j=i
  ·rw [ay e];exact hl
  ·rw [am e];exact h.ln j hj
 ·rcases aA.1 hx with hx | hx
  ·exact ⟨(h.mi m hx).1.mono h1.le,(h.mi m hx).2⟩
  ·exact ⟨h4 m hx,hm m hx⟩
 ·show (if j=i then r.2 else S.nd j).Ow<=b;by_cases e:j=i
  ·rw [ay e];exact ht
  ·rw [am e];exact h.tb j hj
theorem bf (S:Cs ρ) (i j:Nat) (r:List (Ms ρ)×Nd ρ):(S.call i r).nd j=if j=i then r.2 else S.nd j:=rfl
theorem Fm.fit (h:Fm n b m) (hb:b<=1099511627776) (h1:1<=m.N.getD 0 0):∃i,i<n/\m.dst=(i:Int)/\m.dst.toNat=i/\Fit i n m:=by
 obtain ⟨i,f,h2,h3,h4,h5,h6⟩:=h.f;exact ⟨i,h2,h5,by omega,h5,⟨f,h3,h6,h4⟩,h.len,h1,cK h.tb hb⟩
theorem ox (h:m.N.getD 0 0<1):X.get z e s m=([],s):=by
 unfold get kQ;rw [ay];simp only [bi,aZ];exact .inl (.inr h)
theorem Hz (h:m.N.getD 0 0<=s.Ow):QM s m ([],s):=QM.of h rfl rfl rfl rfl .inl id (λx hx=>by cases hx) (.inl bL) (.inl rfl)
theorem Wk.got (h:Wk z n b S) (hb:b<=1099511627776) (hf:Fm n b m):∃i,i<n/\m.dst=(i:Int)/\m.dst.toNat=i/\QM (S.nd i) m (X.get z e (S.nd i) m):=by
 obtain ⟨G,h⟩:=h;by_cases h1:1<=m.N.getD 0 0
 ·obtain ⟨i,h2,h3,h4,h5⟩:=hf.fit hb h1;exact ⟨i,h2,h3,h4,Ib (h.ni i h2).own (h.ni i h2).nn h2 h5⟩
 ·obtain ⟨i,f,h2,h3,h4,h5,h6⟩:=hf.f;have:=(h.ni i h2).t0;exact ⟨i,h2,h5,by omega,by rw [ox az];exact Hz az⟩
theorem Ff (h:Fm n b m):∃f:Nat,f<n/\m.OD=(f:Int):=by
 grind [h.f]
theorem ut (hi:s.own=i) (hn:s.n=n) (x:Ms ρ) (hx:x∈(X.get z e s m).1) (hf:Fm n b m) (hd:m.dst=(i:Int)):∃j:Nat,j<n/\j≠i/\x.dst=(j:Int):=by
 obtain ⟨i2,f,h2,h3,h4,h5,h6⟩:=hf.f;have hoth:∀(s1:Nd ρ) (g:Nat->Ms ρ),s1.own=i->s1.n=n->(∀d,(g d).dst=(d:Int))->∀y∈cP s1 g,∃j:Nat,j<n/\j≠i/\y.dst=(j:Int):=λs1 g o1 o2 o3 y hy=>by
  grind [cT]
 have hrep:∀(s1:Nd ρ) (k:Int) (N:List Int),∃j:Nat,j<n/\j≠i/\(say s1 m.OD k N).dst=(j:Int):=λs1 k N=>⟨f,h3,by omega,h6⟩
 have hlead:∀s1:Nd ρ,s1.own=i->s1.n=n->∀y∈(lead z e s1).1,∃j:Nat,j<n/\j≠i/\y.dst=(j:Int):=λs1 o1 o2 y hy=>by
  have hl:=ee (z:=z) (e:=e) s1;rw [hl.ms] at hy;exact hoth _ _ (hl.own.trans o1) (hl.n.trans o2) (λd=>rfl) y hy
 have O9:∀s1:Nd ρ,s1.own=i->s1.n=n->∀y∈(OJ z e s1 m).1,∃j:Nat,j<n/\j≠i/\y.dst=(j:Int):=λs1 o1 o2 y hy=>by
  unfold OJ at hy;split at hy
  ·unfold asked at hy;split at hy
   ·simp only at hy;split at hy
    ·split at hy
     ·simp_all
     ·simp_all
    ·simp_all
   ·cases hy
  ·split at hy
   ·grind [O4]
   ·split at hy
    ·unfold lays at hy;split at hy
     ·cases hy
     ·split at hy
      ·simp_all
      ·simp only at hy;split at hy
       ·split at hy
        ·simp_all
        ·cases hy
       ·simp_all
    ·split at hy
     ·unfold answered at hy;split at hy
      ·cases hy
      ·simp only at hy;split at hy
       ·split at hy
        ·cases hy
        ·exact JL
       ·split at hy
        ·cases hy
        ·obtain ⟨g1,g2,_⟩:=df (z:=z) (s:={ s1 with OE:=s1.OE.set m.OD.toNat (m.N.getD 2 0).toNat,next:=s1.next.set m.OD.toNat (max (m.N.getD 2 0).toNat (s1.next.getD m.OD.toNat 0))});split at hy
         ·exact hoth _ _ (g1.trans o1) (g2.trans o2) (λd=>rfl) y hy
         ·split at hy
          ·exact JL
          ·cases hy
     ·grind
 unfold X.get at hx;split at hx
 ·cases hx
 ·grind [enter]
theorem jq (S:Cs ρ) (m:Ms ρ):(S.bring z e m).up=S.up:=by unfold Cs.bring;split<;>rfl
theorem uy (S:Cs ρ) (m:Ms ρ):∃o,(S.bring z e m).q=S.q++o/\∀q,({ S with q:=q }:Cs ρ).bring z e m={ S.bring z e m with q:=q++o }:=by
 by_cases hu:S.up m.dst.toNat=true
 ·refine ⟨(X.get z e (S.nd m.dst.toNat) m).1,?_,λq=>?_⟩
  ·unfold Cs.bring;rw [ay hu];rfl
  ·unfold Cs.bring;rw [ay hu,ay hu];rfl
 ·refine ⟨[],?_,λq=>?_⟩
  ·unfold Cs.bring;rw [am hu];simp
  ·grind [Cs.bring]
theorem wQ (ms:List (Ms ρ)):∀(k:Nat) (S:Cs ρ) (r:List (Ms ρ)),S.q=ms++r->Cs.drain z e (ms.length+k) S=Cs.drain z e k (({ S with q:=r }:Cs ρ).dl z e ms):=by
 induction ms with
 | nil =>
  intro k S r h;obtain ⟨a,b,q,y⟩:=S;subst h;show Cs.drain z e (0+k) _=_;rw [cB];rfl
 | cons m ms ih =>
  intro k S r h;obtain ⟨a,b,q,y⟩:=S;subst h;show Cs.drain z e (ms.length+1+k) _=_;rw [show ms.length+1+k=(ms.length+k)+1 by omega];obtain ⟨o,h1,h2⟩:=uy (z:=z) (e:=e) ⟨a,b,[],y⟩ m;have e1:=h2 (ms++r);have e2:=h2 r;show Cs.drain z e (ms.length+k) (Cs.bring z e ⟨a,b,ms++r,y⟩ m)=Cs.drain z e k (Cs.dl z e (Cs.bring z e ⟨a,b,r,y⟩ m) ms);rw [ih k _ (r++o) (by rw [show (⟨a,b,ms++r,y⟩:Cs ρ)={ (⟨a,b,[],y⟩:Cs ρ) with q:=ms++r } from rfl,e1];simp)];rw [show (⟨a,b,ms++r,y⟩:Cs ρ)={ (⟨a,b,[],y⟩:Cs ρ) with q:=ms++r } from rfl,e1,show (⟨a,b,r,y⟩:Cs ρ)={ (⟨a,b,[],y⟩:Cs ρ) with q:=r } from rfl,e2]
end
section
variable {ρ:Type} {z:ρ->Bool} {e:ρ}
variable {n i:Nat} {b b':Int} {S S':Cs ρ} {G:Gh ρ} {m:Ms ρ} {s:Nd ρ} {r:List (Ms ρ)×Nd ρ} {ms:List (Ms ρ)}
def UL (z:ρ->Bool) (ms:List (Ms ρ)) (n:Nat) (b:Int) (S:Cs ρ):Prop:=∃G,QS z n b G S/\∀m∈ms,MI n G m/\Fm n b m
theorem UL.wk (h:UL z ms n b S):Wk z n b S:=h.elim λG h=>⟨G,h.1⟩
theorem Wk.Ys (h:Wk z n b S):UL z S.q n b S.Pc:=by
 obtain ⟨G,h⟩:=h;exact ⟨G,⟨h.gi,h.ni,h.ln,λm hm=>(by cases hm),h.up,h.tb,h.lo⟩,h.mi⟩
theorem UL.take (h:UL z ms n b S) (hb:b<=1099511627776) (hm:m∈ms):UL z ms n b (S.bring z e m)/\∃i,i<n/\m.dst=(i:Int)/\QM (S.nd i) m (X.get z e (S.nd i) m)/\(S.up i=true->S.bring z e m=S.call i (X.get z e (S.nd i) m))/\(S.up i=false->S.bring z e m=S):=by
 obtain ⟨G,h,Rn⟩:=h;have TS:=Rn m hm;obtain ⟨i,h1,h2,h3,h4⟩:=Wk.got (e:=e) ⟨G,h⟩ hb TS.2;have e1:S.up i=true->S.bring z e m=S.call i (X.get z e (S.nd i) m):=λhu=>by unfold Cs.bring;rw [h3,ay hu]
 have e2:S.up i=false->S.bring z e m=S:=λhu=>by unfold Cs.bring;rw [h3,am (by rw [hu];simp)]
 refine ⟨?_,i,h1,h2,h4,e1,e2⟩;cases hu:S.up i with
 | false=>rw [e2 hu];exact ⟨G,h,Rn⟩
 | true =>
  rw [e1 hu];have OP:=h.ni i h1;have SV:=h.tb i h1;have WU:=TS.2.tb;have ht:(X.get z e (S.nd i) m).2.Ow<=b:=by have:=h4.top;omega
  obtain ⟨G',g1,g2⟩:=h.call (i:=i) h1 (yC (e:=e) h.gi OP TS.1) ((h.ln i h1).get OP.own OP.nn h1) ht (λx hx=>by
   obtain ⟨o1,o2,o3,_⟩:=h4.out x hx;obtain ⟨j,d1,d2,d3⟩:=ut OP.own OP.nn x hx TS.2 h2;have QW:=h4.up;have UX:=OP.t0;exact ⟨⟨j,i,d1,h1,by omega,d3,by rw [o1,OP.own]⟩,o3,by rw [o2];omega,by rw [o2];exact ht⟩)
  exact ⟨G',g2,λx hx=>⟨(Rn x hx).1.mono g1.le,(Rn x hx).2⟩⟩
theorem fH {Inv:Cs ρ->Prop} (hs:∀S m,Inv S->m∈ms->Inv (S.bring z e m)) (h0:Inv S):Inv (S.dl z e ms):=by
 induction ms generalizing S with
 | nil=>exact h0
 | cons m ms ih=>exact ih (λS x h hx=>hs S x h (aM _ hx)) (hs S m h0 bd)
theorem rB {Inv P:Cs ρ->Prop} (hm:m∈ms) (hs:∀S x,Inv S->x∈ms->Inv (S.bring z e x)) (he:∀S,Inv S->P (S.bring z e m)) (hp:∀S x,Inv S->x∈ms->P S->P (S.bring z e x)) (h0:Inv S):P (S.dl z e ms):=by
 induction ms generalizing S with
 | nil=>cases hm
 | cons x ms ih =>
  by_cases e1:m=x
  ·subst e1;have h1:=he S h0;have h2:=hs S m h0 bd;exact (fH (Inv:=λS=>Inv S/\P S) (λS y h hy=>⟨hs S y h.1 (aM _ hy),hp S y h.1 (aM _ hy) h.2⟩) ⟨h2,h1⟩).2
  ·have Qb:m∈ms:=by
    grind
   exact ih Qb (λS y h hy=>hs S y h (aM _ hy)) (λS y h hy=>hp S y h (aM _ hy)) (hs S x h0 bd)
theorem UL.mono (h:UL z ms n b S) (hb:b<=1099511627776) (i:Nat):(S.nd i).Ow<=((S.dl z e ms).nd i).Ow/\((S.dl z e ms).nd i).OA=(S.nd i).OA/\(S.up i=false->(S.dl z e ms).nd i=S.nd i)/\(((S.dl z e ms).nd i).Ox=(S.nd i).Ox\/((S.dl z e ms).nd i).Ox=0):=by
 refine (fH (Inv:=λS'=>UL z ms n b S'/\S'.up=S.up/\((S.nd i).Ow<=(S'.nd i).Ow/\(S'.nd i).OA=(S.nd i).OA/\(S.up i=false->S'.nd i=S.nd i)/\((S'.nd i).Ox=(S.nd i).Ox\/(S'.nd i).Ox=0))) (λS' m h' hm=>?_) ⟨h,rfl,aP _,rfl,λ_=>rfl,.inl rfl⟩).2.2;obtain ⟨h1,h2,h3,h4,h5,h6⟩:=h';obtain ⟨g1,j,g2,g3,g4,g5,g6⟩:=h1.take (e:=e) hb hm;refine ⟨g1,(jq _ _).trans h2,?_⟩;cases hu:S'.up j with
 | false=>rw [g6 hu];exact ⟨h3,h4,h5,h6⟩
 | true =>
  rw [g5 hu,bf];split
  ·rename_i e1;subst e1;refine ⟨cK h3 g4.up,g4.OA.trans h4,λh=>(by rw [<-h2,hu] at h;cases h),?_⟩;rcases g4.Ox with h7 | h7
   ·rw [h7];exact h6
   ·exact .inr h7
  ·exact ⟨h3,h4,h5,h6⟩
theorem dL (n:Nat) (S:Cs ρ):(∀i,((S.Ox z e n).nd i)=if i<n/\S.up i=true then (X.tick z e (S.nd i)).2 else S.nd i)/\(S.Ox z e n).up=S.up/\(∀x,x∈(S.Ox z e n).q↔x∈S.q\/∃i,i<n/\S.up i=true/\x∈(X.tick z e (S.nd i)).1):=by
 induction n with
 | zero =>
  refine ⟨λi=>by rw [am az];rfl,rfl,λx=>⟨λh=>.inl h,λh=>?_⟩⟩;rcases h with h | ⟨i,h,_⟩
  ·exact h
  ·omega
 | succ n ih =>
  obtain ⟨h1,h2,h3⟩:=ih;have e0:S.Ox z e (n+1)=(S.Ox z e n).tick z e n:=Et;have hn:(S.Ox z e n).nd n=S.nd n:=by rw [h1,am az]
  rw [e0];unfold Cs.tick;rw [h2,hn];by_cases hu:S.up n=true
  ·rw [ay hu];refine ⟨λi=>?_,h2,λx=>?_⟩
   ·grind [bf]
   ·show x∈(S.Ox z e n).q++_↔_;rw [aA,h3];constructor
    ·grind
    ·grind
  ·grind
theorem dT (s:Nd ρ) :
  (s.Oy=true/\X.tick z e s=(cP { s with OA:=s.OA+1 } (bI { s with OA:=s.OA+1 }),{ s with OA:=s.OA+1 })) \/
  (s.Oy=false/\8<=s.Ox+1/\np { s with OA:=s.OA+1,Ox:=s.Ox+1 }=true/\X.tick z e s=X.stand z e { s with OA:=s.OA+1,Ox:=s.Ox+1 }) \/
  (s.Oy=false/\¬(8<=s.Ox+1/\np { s with OA:=s.OA+1,Ox:=s.Ox+1 }=true)/\4<=s.Ox+1/\X.tick z e s=(cP { s with OA:=s.OA+1,Ox:=s.Ox+1 } (br { s with OA:=s.OA+1,Ox:=s.Ox+1 } 5),{ s with OA:=s.OA+1,Ox:=s.Ox+1 })) \/
  (s.Oy=false/\¬(8<=s.Ox+1/\np { s with OA:=s.OA+1,Ox:=s.Ox+1 }=true)/\s.Ox+1<4/\X.tick z e s=([],{ s with OA:=s.OA+1,Ox:=s.Ox+1 })):=by
 unfold X.tick;cases hl:s.Oy with
 | true=>exact .inl ⟨rfl,by rw [ay rfl]⟩
 | false =>
  right;rw [am bL];by_cases h1:8<=s.Ox+1/\np { s with OA:=s.OA+1,Ox:=s.Ox+1 }=true
  ·grind
  ·grind
def dc (s:Nd ρ):Nd ρ:={ enter { s with OA:=s.OA+1,Ox:=s.Ox+1 } (s.Ow+1) (s.own:Int) with Ox:=0,OB:=(List.replicate s.n false).set s.own true }
theorem qC (k o:Nat) (h:o<k):(((List.replicate k false).set o true).filter id).length=1:=by
 have e:=ka ((List.replicate k false).set o true) id false;rw [e];have e4:(List.range ((List.replicate k false).set o true).length).filter (λj=>id (((List.replicate k false).set o true).getD j false))=(List.range k).filter λj=>j==o:=by
  grind
 rw [e4];have e5:∀k,o<k->((List.range k).filter λj=>j==o).length=1:=by
  intro k;induction k with
  | zero=>intro h;omega
  | succ k ih =>
   intro h;rw [dp,cz,aE];by_cases e6:k=o
   ·grind [List.range,List.filter_eq_nil_iff,eJ.1]
   ·grind
 exact e5 k h
theorem fu (ho:s.own<s.n) (ht:s.Ow<1099511627776):X.stand z e { s with OA:=s.OA+1,Ox:=s.Ox+1 }=if s.n=1 then lead z e (dc s) else (cP (dc s) (br (dc s) 1),dc s):=by
 unfold X.stand;rw [am (by show ¬(1099511627776<=s.Ow);omega)];have hc:jp (dc s)=decide (s.n=1):=by
  show decide (s.n<2*(((List.replicate s.n false).set s.own true).filter id).length)=_;rw [qC s.n s.own ho];by_cases h:s.n=1
  ·rw [h];rfl
  ·grind
 show (if jp (dc s) then lead z e (dc s) else (cP (dc s) (br (dc s) 1),dc s))=_;rw [hc];by_cases h:s.n=1
 ·rw [ay h,ay (by simp [h])]
 ·rw [am h,am (by simp [h])]
end
section
variable {ρ:Type} {z:ρ->Bool} {e:ρ}
variable {n i:Nat} {b b' M:Int} {S S':Cs ρ} {G:Gh ρ} {m:Ms ρ} {s:Nd ρ} {r:List (Ms ρ)×Nd ρ} {ms:List (Ms ρ)}
structure Tk (s:Nd ρ) (r:List (Ms ρ)×Nd ρ):Prop where
 own:r.2.own=s.own
 n:r.2.n=s.n
 OA:r.2.OA=s.OA+1
 Ow:r.2.Ow=s.Ow\/r.2.Ow=s.Ow+1
 out:∀x∈r.1,x.OD=(s.own:Int)/\x.N.getD 0 0=r.2.Ow/\2<=x.N.length/\(∃d:Nat,d<s.n/\d≠s.own/\x.dst=(d:Int)) /\
  ((x.kind=1/\x.N.length=3/\r.2.Ow=s.Ow+1/\r.2.Oy=false)\/(x.kind=3/\r.2.Oy=true)\/(x.kind=5/\r.2.Oy=false))
 lead:r.2.Oy=true->∀d,d<s.n->d≠s.own->∃x∈r.1,x.dst=(d:Int)/\x.kind=3
 OV:r.2.Ow=s.Ow+1->∀d,d<s.n->d≠s.own->∃x∈r.1,x.dst=(d:Int)/\x.kind=1/\x.N.length=3
 num:r.1.length+1<=s.n
 cnt:r.2.cnt<=s.cnt+2
 len:r.2.Oz.length<=s.Oz.length+1
theorem io {s1:Nd ρ} {f:Nat->Ms ρ} {P:Ms ρ->Prop} (h:∀d,d<s1.n->d≠s1.own->P (f d)):∀x∈cP s1 f,P x:=λx hx=>by
 obtain ⟨d,h1,h2,rfl⟩:=cT _ _ _ hx;exact h d h1 h2
theorem tG (ho:s.own<s.n) (ht:s.Ow<1099511627776):Tk s (X.tick z e s):=by
 rcases dT (z:=z) (e:=e) s with ⟨h1,h2⟩ | ⟨h1,h2,h3,h4⟩ | ⟨h1,h2,h3,h4⟩ | ⟨h1,h2,h3,h4⟩
 ·rw [h2];refine ⟨rfl,rfl,rfl,.inl rfl,io λd d1 d2=>⟨rfl,rfl,by unfold bI;simp,⟨d,d1,d2,rfl⟩,.inr (.inl ⟨rfl,h1⟩)⟩,λ_ d d1 d2=>⟨_,fX _ _ d d1 d2,rfl,rfl⟩,λh=>by exfalso;have h:s.Ow=s.Ow+1:=h;omega,gd _ _ ho,fy _ _,fy _ _⟩
 ·rw [h4,fu ho ht];have SD:(dc s).Oy=false:=KW;by_cases hn:s.n=1
  ·rw [ay hn];have hl:=ee (z:=z) (e:=e) (dc s);have hno:(lead z e (dc s)).1=[]:=by
    rw [hl.ms,dg];intro x hx;obtain ⟨d,d1,d2,_⟩:=cT _ _ _ hx;rw [hl.n] at d1;rw [hl.own] at d2;have d1:d<s.n:=d1;have d2:d≠s.own:=d2;omega
   refine ⟨hl.own,hl.n,hl.OA,.inr hl.Ow,λx hx=>(by rw [hno] at hx;cases hx),λ_ d d1 d2=>by omega,λ_ d d1 d2=>by omega,by rw [hno];simp;omega,?_,iR hl.len⟩;have:=hl.cnt;have e1:(dc s).cnt=s.cnt+1:=rfl;omega
  ·rw [am hn];refine ⟨rfl,rfl,rfl,.inr rfl,io λd d1 d2=>⟨rfl,rfl,by unfold br say;simp,⟨d,d1,d2,rfl⟩,.inl ⟨rfl,by unfold br say;simp,rfl,SD⟩⟩,λh=>?_,λ_ d d1 d2=>⟨_,fX _ _ d d1 d2,rfl,rfl,by unfold br say;simp⟩,gd _ _ ho,cZ _,cZ _⟩;rw [SD] at h;cases h
 ·rw [h4];refine ⟨rfl,rfl,rfl,.inl rfl,io λd d1 d2=>⟨rfl,rfl,by unfold br say;simp,⟨d,d1,d2,rfl⟩,.inr (.inr ⟨rfl,h1⟩)⟩,λh=>?_,λh=>by exfalso;have h:s.Ow=s.Ow+1:=h;omega,gd _ _ ho,fy _ _,fy _ _⟩;rw [h1] at h;cases h
 ·rw [h4];refine ⟨rfl,rfl,rfl,.inl rfl,λx hx=>(by cases hx),λh=>?_,λh=>by exfalso;have h:s.Ow=s.Ow+1:=h;omega,by show 0+1<=_;omega,fy _ _,fy _ _⟩;rw [h1] at h;cases h
theorem Wk.Ox (h:Wk z n b S) (hb:b+1<=1099511627776):Wk z n (b+1) (S.Ox z e n):=by
 have key:∀k,k<=n->Wk z n (b+1) (S.Ox z e k)/\(∀i,k<=i->i<n->((S.Ox z e k).nd i).Ow<=b):=by
  intro k;induction k with
  | zero =>
   intro _;refine ⟨h.mono az,λi _ hi=>?_⟩;obtain ⟨G,h⟩:=h;exact h.tb i hi
  | succ k ih =>
   intro hk;obtain ⟨h1,h2⟩:=ih az;have e0:S.Ox z e (k+1)=(S.Ox z e k).tick z e k:=Et;rw [e0];have UW:=h2 k (ah _) az;refine ⟨?_,λi hi O9=>?_⟩
   ·unfold Cs.tick;split
    ·obtain ⟨G1,h1⟩:=h1;have OP:=h1.ni k az;have hk2:Tk ((S.Ox z e k).nd k) (X.tick z e ((S.Ox z e k).nd k)):=tG (by rw [OP.own,OP.nn];omega) az;obtain ⟨G',_,h2⟩:=h1.call (i:=k) az (tH (e:=e) h1.gi OP) ((h1.ln k az).tick (by rw [OP.own,OP.nn];omega)) (by rcases hk2.Ow with g | g<;>omega) (λx hx=>by
      obtain ⟨o1,o2,o3,⟨d,d1,d2,d3⟩,_⟩:=hk2.out x hx;have UX:=OP.t0;rw [OP.nn] at d1;rw [OP.own] at d2 o1;exact ⟨⟨d,k,d1,by omega,by omega,d3,o1⟩,o3,by rw [o2];rcases hk2.Ow with g | g<;>omega,by rw [o2];rcases hk2.Ow with g | g<;>omega⟩)
     exact ⟨G',h2⟩
    ·exact h1
   ·grind [Cs.tick,bf]
 exact (key n (ah _)).1
theorem Wk.tk (h:Wk z n b S) (hb:b+1<=1099511627776) (i:Nat) (hi:i<n):Tk (S.nd i) (X.tick z e (S.nd i))/\(S.nd i).own=i/\(S.nd i).n=n:=by
 obtain ⟨G,h⟩:=h;have OP:=h.ni i hi;have:=h.tb i hi;exact ⟨tG p8 az,OP.own,OP.nn⟩
theorem Dr (ho:s.own=i) (hn:s.n=n) (hf:Fit i n m) (hm:MI n G m) (hk:(m.kind=1/\m.N.length=3)\/m.kind=3) (ht:m.N.getD 0 0<s.Ow):∃x∈(X.get z e s m).1,x.dst=m.OD/\x.N.getD 0 0=s.Ow:=by
 unfold X.get;rw [hf.ok ho hn];simp only [bk,if_false];rw [am az];unfold OJ;rcases hk with ⟨hk,hl⟩ | hk
 ·rw [ay hk];unfold asked;rw [ay hl];rw [am (by
   simp only [bu,cE];rintro ⟨⟨h1,_⟩,_⟩;omega)]
  exact ⟨_,eR _,rfl,rfl⟩
 ·rw [am az,am az,ay hk];obtain ⟨f,_,_,_,_,h3,_⟩:=hm.f;obtain ⟨_,p,a,e2,_,_,_,e6,_⟩:=h3 hk;unfold lays;rw [am (by
   simp only [bi,bb,bq,ne_eq,aZ,bu,cE];rintro ((h1 | h1) | ⟨h1,_⟩)
   ·exact h1 e6
   ·omega
   ·omega),ay ht]
  exact ⟨_,eR _,rfl,rfl⟩
theorem FN (x:Ms ρ) (hk:m.kind=1) (hx:x∈(X.get z e s m).1) (h1:x.N.getD 1 0=1):x.N.getD 0 0=m.N.getD 0 0:=by
 have O9:∀s1:Nd ρ,x∈(OJ z e s1 m).1->x.N.getD 0 0=m.N.getD 0 0:=λs1 hx=>by
  unfold OJ at hx;rw [ay hk] at hx;unfold asked at hx;split at hx
  ·simp only at hx;split at hx
   ·rename_i hy;simp only [bu,cE] at hy;split at hx
    ·rw [aj.1 hx];exact hy.1.1.symm
    ·rw [aj.1 hx];exact hy.1.1.symm
   ·rw [aj.1 hx] at h1;have h1:(0:Int)=1:=h1;omega
  ·cases hx
 unfold X.get at hx;split at hx
 ·cases hx
 ·grind
structure UB (M:Int) (S:Cs ρ):Prop where
 nd:∀i,S.up i=true->(S.nd i).Ow<=M
 q:∀m∈S.q,m.N.getD 0 0<=M
theorem UB.take (h:UB M S) {i:Nat} (hm:m.N.getD 0 0<=M) (hu:S.up i=true) (hg:QM (S.nd i) m r):UB M (S.call i r):=by
 have h1:=h.nd i hu;have h2:=hg.top;refine ⟨λj hj=>?_,λx hx=>?_⟩
 ·rw [bf];split
  ·omega
  ·exact h.nd j hj
 ·rcases aA.1 hx with hx | hx
  ·exact h.q x hx
  ·rw [(hg.out x hx).2.1];omega
structure Ph (z:ρ->Bool) (n:Nat) (b M:Int) (ms:List (Ms ρ)) (S0 S:Cs ρ):Prop where
 wk:UL z ms n b S
 up:S.up=S0.up
 ub:UB M S
 Ow:∀i,(S0.nd i).Ow<=(S.nd i).Ow
theorem Ph.start (h:UL z ms n b S) (hu:UB M S):Ph z n b M ms S S:=⟨h,rfl,hu,λ_=>aP _⟩
theorem Ph.take {S0:Cs ρ} (h:Ph z n b M ms S0 S) (hb:b<=1099511627776) (hm:m∈ms) (hM:m.N.getD 0 0<=M):Ph z n b M ms S0 (S.bring z e m)/\∃i,i<n/\m.dst=(i:Int)/\QM (S.nd i) m (X.get z e (S.nd i) m)/\(S.up i=true->S.bring z e m=S.call i (X.get z e (S.nd i) m))/\(S.up i=false->S.bring z e m=S):=by
 obtain ⟨g1,i,g2,g3,g4,g5,g6⟩:=h.wk.take (e:=e) hb hm;refine ⟨⟨g1,(jq _ _).trans h.up,?_,λj=>?_⟩,i,g2,g3,g4,g5,g6⟩
 ·cases hu:S.up i with
  | false=>rw [g6 hu];exact h.ub
  | true=>rw [g5 hu];exact h.ub.take hM hu g4
 ·cases hu:S.up i with
  | false=>rw [g6 hu];exact h.Ow j
  | true =>
   rw [g5 hu,bf];split
   ·rename_i e1;subst e1;exact cK (h.Ow _) g4.up
   ·exact h.Ow j
structure Ra (z:ρ->Bool) (e:ρ) (n:Nat) (b M:Int) (SA S1 S2:Cs ρ):Prop where
 w1:Wk z n b S1
 w2:Wk z n b S2
 u1:S1.up=SA.up
 u2:S2.up=SA.up
 q1:S1.q.length<=SA.q.length
 q2:S2.q.length<=4*S1.q.length
 k1:∀x∈S1.q,x.kind=2\/x.kind=4
 k2:∀x∈S2.q,x.kind=3
 b1:UB M S1
 b2:UB M S2
 lead:∀i,S2.up i=true->(S2.nd i).Oy=true->(S2.nd i).Ow=M
 own:∀i,(S2.nd i).Oy=true->(S2.nd i).Ow=(SA.nd i).Ow
 from_:∀x∈S2.q,∃i:Nat,x.OD=(i:Int)/\x.N.getD 0 0=(SA.nd i).Ow
theorem dS (S:Cs ρ) (i:Nat) (r:List (Ms ρ)×Nd ρ):(S.call i r).q=S.q++r.1:=rfl
theorem LS (h:Wk z n b S) (hn:n<=5) (hb:b+1<=1099511627776) (hq:S.q=[]) (hM:UB M (S.Ox z e n)) {y:Nat} (hy:S.up y=true) (hyM:((S.Ox z e n).nd y).Ow=M) :
  Ra z e n (b+1) M (S.Ox z e n) ((S.Ox z e n).Pc.dl z e (S.Ox z e n).q) (((S.Ox z e n).Pc.dl z e (S.Ox z e n).q).Pc.dl z e ((S.Ox z e n).Pc.dl z e (S.Ox z e n).q).q):=by
 obtain ⟨t1,t2,t3⟩:=dL (z:=z) (e:=e) n S;have hw:=h.Ox (e:=e) hb;have hyn:y<n:=by obtain ⟨G,h⟩:=h;exact h.up y hy
 have hsp:∀x∈(S.Ox z e n).q,∃i,i<n/\S.up i=true/\x∈(X.tick z e (S.nd i)).1:=λx hx=>by
  grind
 have PO:∀i,i<n->S.up i=true->(S.Ox z e n).nd i=(X.tick z e (S.nd i)).2:=λi h1 h2=>by rw [t1,ay ⟨h1,h2⟩]
 have YS:∀x∈(S.Ox z e n).q,(x.kind=1\/x.kind=3\/x.kind=5):=λx hx=>by
  obtain ⟨i,i1,i2,i3⟩:=hsp x hx;exact Mq
 generalize Wb:S.Ox z e n=SA at *;have w0:=hw.Ys;have ub0:UB M SA.Pc:=⟨hM.nd,λm hm=>by cases hm⟩
 have qM:=hM.q;have p0:Ph z n (b+1) M SA.q SA.Pc SA.Pc:=Ph.start w0 ub0;have P1:=fH (z:=z) (e:=e) (ms:=SA.q) (S:=SA.Pc) (Inv:=λS'=>Ph z n (b+1) M SA.q SA.Pc S'/\(∀i,(S'.nd i).Oy=true->(SA.nd i).Oy=true/\(S'.nd i).Ow=(SA.nd i).Ow)/\(∀x∈S'.q,(x.kind=2\/x.kind=4)/\(x.kind=2->∃m∈SA.q,m.kind=1/\x.dst=m.OD/\(x.N.getD 1 0=1->x.N.getD 0 0=m.N.getD 0 0)))) (λS' m hI hm=>by
  obtain ⟨a1,a2,a3⟩:=hI;obtain ⟨g1,i,g2,g3,g4,g5,g6⟩:=a1.take (e:=e) hb hm (qM m hm);refine ⟨g1,?_⟩;cases hu:S'.up i with
  | false=>rw [g6 hu];exact ⟨a2,a3⟩
  | true =>
   rw [g5 hu];refine ⟨λj hj=>?_,λx hx=>?_⟩
   ·grind [bf,g4.Oy]
   ·rw [dS] at hx;rcases aA.1 hx with hx | hx
    ·exact a3 x hx
    ·obtain ⟨o1,o2,o3,o4,o5⟩:=g4.out x hx;rcases o4 with ⟨o6,o7,o8⟩ | ⟨o6,o7⟩ | ⟨o6,o7,o8⟩ | ⟨o6,o7⟩
     ·grind [FN]
     ·rcases YS m hm with k | k | k<;>omega
     ·exact ⟨.inr o7,λk=>by omega⟩
     ·rcases YS m hm with k | k | k<;>omega) ⟨p0,λi hi=>⟨hi,rfl⟩,λx hx=>(by cases hx)⟩
 have L1:∀(l:List (Ms ρ)) (S':Cs ρ),UL z SA.q n (b+1) S'->(∀m∈l,m∈SA.q)->(S'.dl z e l).q.length<=S'.q.length+l.length:=by
  intro l;induction l with
  | nil=>intro S' _ _;exact ah _
  | cons m l ih =>
   intro S' hI hl;have hm:=hl m bd;obtain ⟨g1,i,g2,g3,g4,g5,g6⟩:=hI.take (e:=e) hb hm;have h1:=ih _ g1 (λx hx=>hl x (aM _ hx));have h2:(S'.bring z e m).q.length<=S'.q.length+1:=by
    cases hu:S'.up i with
    | false=>rw [g6 hu];omega
    | true =>
     rw [g5 hu,dS,aE];rcases g4.num with g | ⟨g,_⟩
     ·omega
     ·rcases YS m hm with k | k | k<;>omega
   exact Jf
 have Q1:(SA.Pc.dl z e SA.q).q.length<=SA.q.length:=by
  have:=L1 SA.q SA.Pc w0 (λm hm=>hm);have e1:SA.Pc.q.length=0:=rfl;omega
 obtain ⟨P1a,P1b,P1c⟩:=P1;have EV:∀i,i<n->S.up i=true->(∃x∈SA.q,x.OD=(i:Int)/\x.dst=(y:Int)/\((x.kind=1/\x.N.length=3)\/x.kind=3)/\x.N.getD 0 0<M/\1<=x.N.getD 0 0)->∃x∈(SA.Pc.dl z e SA.q).q,x.dst=(i:Int)/\x.N.getD 0 0=M:=λi i1 i2 hx=>by
  obtain ⟨x,x1,x2,x3,x4,x5,x6⟩:=hx;refine rB (z:=z) (e:=e) (ms:=SA.q) (m:=x) (Inv:=λS'=>Ph z n (b+1) M SA.q SA.Pc S') (P:=λS'=>∃x∈S'.q,x.dst=(i:Int)/\x.N.getD 0 0=M) x1 (λS' m hI hm=>(hI.take hb hm (qM m hm)).1) (λS' hI=>?_) (λS' m hI hm hP=>?_) p0
  ·obtain ⟨g1,j,g2,g3,g4,g5,g6⟩:=hI.take (e:=e) hb x1 (qM x x1);obtain rfl:j=y:=az;have huy:S'.up j=true:=by rw [hI.up];show SA.up j=true;rw [t2];exact hy
   have hty:(S'.nd j).Ow=M:=by
    have:=hI.Ow j;have e1:(SA.Pc.nd j).Ow=M:=hyM;have:=hI.ub.nd j huy;omega
   obtain ⟨G,hG,Rn⟩:=hI.wk;have OP:=hG.ni j g2;obtain ⟨j2,j3,j4,_,j5⟩:=(Rn x x1).2.fit hb x6;obtain rfl:j2=j:=az;obtain ⟨v,v1,v2,v3⟩:=Dr (z:=z) (e:=e) OP.own OP.nn j5 (Rn x x1).1 x4 (by rw [hty];exact x5);rw [g5 huy];exact ⟨v,aR _ v1,v2.trans x2,v3.trans hty⟩
  ·obtain ⟨v,v1,v2⟩:=hP;obtain ⟨o,o1,_⟩:=uy (z:=z) (e:=e) S' m;exact ⟨v,by rw [o1];exact aI _ v1,v2⟩
 generalize hS1:SA.Pc.dl z e SA.q=S1 at *;have w1:=P1a.wk.wk.Ys;have Yt:UB M S1.Pc:=⟨P1a.ub.nd,λm hm=>by cases hm⟩
 have p1:Ph z n (b+1) M S1.q S1.Pc S1.Pc:=Ph.start w1 Yt;have qM1:=P1a.ub.q;have u1:S1.up=SA.up:=P1a.up;have P2:=fH (z:=z) (e:=e) (ms:=S1.q) (S:=S1.Pc) (Inv:=λS'=>Ph z n (b+1) M S1.q S1.Pc S'/\(∀i,(S'.nd i).Oy=true->((SA.nd i).Oy=true\/∃m∈SA.q,m.kind=1/\m.OD=(i:Int))/\(S'.nd i).Ow=(SA.nd i).Ow)/\(∀x∈S'.q,x.kind=3/\∃i:Nat,x.OD=(i:Int)/\x.N.getD 0 0=(SA.nd i).Ow)) (λS' m hI hm=>by
  obtain ⟨a1,a2,a3⟩:=hI;obtain ⟨g1,i,g2,g3,g4,g5,g6⟩:=a1.take (e:=e) hb hm (qM1 m hm);refine ⟨g1,?_⟩;cases hu:S'.up i with
  | false=>rw [g6 hu];exact ⟨a2,a3⟩
  | true =>
   rw [g5 hu];have key:(X.get z e (S'.nd i) m).2.Oy=true->((SA.nd i).Oy=true\/∃m∈SA.q,m.kind=1/\m.OD=(i:Int))/\(X.get z e (S'.nd i) m).2.Ow=(SA.nd i).Ow:=λhj=>by
    rcases g4.Oy hj with g | g
    ·grind
    ·obtain ⟨c,c1,c2,c3,c4⟩:=(P1c m hm).2 g.1;have Yb:c.OD=(i:Int):=az;refine ⟨.inr ⟨c,c1,c2,Yb⟩,?_⟩;have e1:=c4 g.2.2.2.1;obtain ⟨k,k1,k2,k3⟩:=hsp c c1;obtain ⟨h5,h6,_⟩:=h.tk (e:=e) hb k k1;obtain ⟨o1,o2,_⟩:=h5.out c k3;obtain rfl:k=i:=az;rw [PO k k1 k2,<-o2,<-e1,g.2.2.1,g.2.1]
   refine ⟨λj hj=>?_,λx hx=>?_⟩
   ·grind [bf]
   ·rw [dS] at hx;rcases aA.1 hx with hx | hx
    ·exact a3 x hx
    ·obtain ⟨o1,o2,o3,o4,o5⟩:=g4.out x hx;have how:(S'.nd i).own=i:=by obtain ⟨G,hG,_⟩:=a1.wk;exact (hG.ni i g2).own
     rcases o4 with ⟨o6,o7,o8⟩ | ⟨o6,o7⟩ | ⟨o6,o7,o8⟩ | ⟨o6,o7⟩
     ·rcases (P1c m hm).1 with k | k<;>omega
     ·grind
     ·rcases (P1c m hm).1 with k | k<;>omega
     ·exact ⟨o7,i,by rw [o1,how],o2.trans (key (o5 o7)).2⟩) ⟨p1,λi hi=>⟨.inl (P1b i hi).1,(P1b i hi).2⟩,λx hx=>(by cases hx)⟩
 have L2:∀(l:List (Ms ρ)) (S':Cs ρ),UL z S1.q n (b+1) S'->(∀m∈l,m∈S1.q)->(S'.dl z e l).q.length<=S'.q.length+4*l.length:=by
  intro l;induction l with
  | nil=>intro S' _ _;exact ah _
  | cons m l ih =>
   intro S' hI hl;have hm:=hl m bd;obtain ⟨g1,i,g2,g3,g4,g5,g6⟩:=hI.take (e:=e) hb hm;have h1:=ih _ g1 (λx hx=>hl x (aM _ hx));have h2:(S'.bring z e m).q.length<=S'.q.length+4:=by
    cases hu:S'.up i with
    | false=>rw [g6 hu];omega
    | true =>
     rw [g5 hu,dS,aE];obtain ⟨G,hG,_⟩:=hI;have:=(hG.ni i g2).nn;rcases g4.num with g | ⟨_,g⟩<;>omega
   exact Jf
 have Q2:(S1.Pc.dl z e S1.q).q.length<=4*S1.q.length:=by
  have:=L2 S1.q S1.Pc w1 (λm hm=>hm);have e1:S1.Pc.q.length=0:=rfl;omega
 obtain ⟨P2a,P2b,P2c⟩:=P2;have EV2:∀i,S.up i=true->(∃x∈S1.q,x.dst=(i:Int)/\x.N.getD 0 0=M)->M<=((S1.Pc.dl z e S1.q).nd i).Ow:=λi i2 hx=>by
  obtain ⟨x,x1,x2,x3⟩:=hx;refine rB (z:=z) (e:=e) (ms:=S1.q) (m:=x) (Inv:=λS'=>Ph z n (b+1) M S1.q S1.Pc S') (P:=λS'=>M<=(S'.nd i).Ow) x1 (λS' m hI hm=>(hI.take hb hm (qM1 m hm)).1) (λS' hI=>?_) (λS' m hI hm hP=>?_) p1
  ·obtain ⟨g1,j,g2,g3,g4,g5,g6⟩:=hI.take (e:=e) hb x1 (qM1 x x1);obtain rfl:j=i:=az;have huy:S'.up j=true:=by rw [hI.up];show S1.up j=true;rw [u1,t2];exact i2
   rw [g5 huy,bf,ay rfl];have:=g4.reach;omega
  ·obtain ⟨g1,j,g2,g3,g4,g5,g6⟩:=hI.take (e:=e) hb hm (qM1 m hm);cases hu:S'.up j with
   | false=>rw [g6 hu];exact hP
   | true =>
    rw [g5 hu,bf];split
    ·grind [g4.up]
    ·exact hP
 refine ⟨P1a.wk.wk,P2a.wk.wk,u1,P2a.up.trans u1,Q1,Q2,λx hx=>(P1c x hx).1,λx hx=>(P2c x hx).1,P1a.ub,P2a.ub,λi hu hl=>?_,λi hi=>(P2b i hi).2,λx hx=>(P2c x hx).2⟩;have Vs:S.up i=true:=by rw [<-t2,<-u1];rw [P2a.up] at hu;exact hu
 have O9:i<n:=by obtain ⟨G,h⟩:=h;exact h.up i Vs
 obtain ⟨UW,ho,Tb⟩:=h.tk (e:=e) hb i O9;have hle:=P2a.ub.nd i hu;have SU:(SA.nd i).Ow<=((S1.Pc.dl z e S1.q).nd i).Ow:=cK (P1a.Ow i) (P2a.Ow i);have XA:=PO i O9 Vs;by_cases hM2:(SA.nd i).Ow=M
 ·omega
 ·have hiM:(SA.nd i).Ow<M:=by
   omega
  have hyi:y≠i:=λe1=>by subst e1;exact hM2 hyM
  have hpos:1<=(SA.nd i).Ow:=by
   obtain ⟨G,hG,_⟩:=w0;obtain ⟨G0,hG0⟩:=h;have t0:=(hG0.ni i O9).t0;rcases (P2b i hl).1 with g | ⟨m,m1,m2,m3⟩
   ·have g2:(SA.Pc.nd i).Oy=true:=g;exact (hG.gi.O7 _ _ ((hG.ni i O9).UC g2).1).2
   ·obtain ⟨j,j1,j2,j3⟩:=hsp m m1;have hj:j=i:=by
     obtain ⟨o1,_⟩:=(Wk.tk (e:=e) ⟨G0,hG0⟩ hb j j1).1.out m j3;have:=(hG0.ni j j1).own;omega
    subst hj;obtain ⟨_,_,_,_,o⟩:=UW.out m j3;rcases o with o | o | o
    ·rw [XA,o.2.2.1];omega
    ·omega
    ·omega
  have hx:∃x∈SA.q,x.OD=(i:Int)/\x.dst=(y:Int)/\((x.kind=1/\x.N.length=3)\/x.kind=3)/\x.N.getD 0 0<M/\1<=x.N.getD 0 0:=by
   rcases (P2b i hl).1 with g | ⟨m,m1,m2,m3⟩
   ·rw [XA] at g;obtain ⟨x,x1,x2,x3⟩:=UW.lead g y (by rw [Tb];exact hyn) (by rw [ho];exact hyi);obtain ⟨o1,o2,_⟩:=UW.out x x1;exact ⟨x,(t3 x).2 (.inr ⟨i,O9,Vs,x1⟩),by rw [o1,ho],x2,.inr x3,by rw [o2,<-XA];exact hiM,by rw [o2,<-XA];exact hpos⟩
   ·obtain ⟨j,j1,j2,j3⟩:=hsp m m1;have hj:j=i:=by
     obtain ⟨h4,h5,_⟩:=h.tk (e:=e) hb j j1;obtain ⟨o1,_⟩:=h4.out m j3;omega
    subst hj;obtain ⟨_,_,_,_,o⟩:=UW.out m j3;have ht1:(X.tick z e (S.nd j)).2.Ow=(S.nd j).Ow+1:=by
     omega
    obtain ⟨x,x1,x2,x3,x4⟩:=UW.OV ht1 y (by rw [Tb];exact hyn) (by rw [ho];exact hyi);obtain ⟨o1,o2,_⟩:=UW.out x x1;exact ⟨x,(t3 x).2 (.inr ⟨j,O9,Vs,x1⟩),by rw [o1,ho],x2,.inl ⟨x3,x4⟩,by rw [o2,<-XA];exact hiM,by rw [o2,<-XA];exact hpos⟩
  have:=EV2 i Vs (EV i O9 Vs hx);omega
end
def db (n:Nat) (g:Nat->Nat):Nat:=((List.range n).map g).sum
theorem dj (n:Nat) (g:Nat->Nat):db (n+1) g=db n g+g n:=by
 unfold db;rw [dp,cy,IG];simp
theorem jf (n:Nat) (g g':Nat->Nat) (h:∀j,j<n->g' j=g j):db n g'=db n g:=by
 induction n with
 | zero=>rfl
 | succ n ih=>rw [dj,dj,ih λj hj=>h j az,h n az]
theorem gG (n:Nat) (g g':Nat->Nat) (h:∀j,j<n->g' j<=g j):db n g'<=db n g:=by
 induction n with
 | zero=>exact ah _
 | succ n ih=>rw [dj,dj];have:=ih λj hj=>h j az;have:=h n az;omega
theorem kY (n f c:Nat) (g g':Nat->Nat) (hf:f<n) (h1:g' f+c<=g f) (h:∀j,j<n->j≠f->g' j<=g j):db n g'+c<=db n g:=by
 induction n with
 | zero=>omega
 | succ n ih =>
  rw [dj,dj];by_cases e:f=n
  ·subst e;have:=gG f g g' λj hj=>h j az az;omega
  ·have:=ih az λj hj hne=>h j az hne;have:=h n az (F5 e);omega
theorem mw (n c:Nat) (g:Nat->Nat) (h:∀j,j<n->g j<=c):db n g<=n*c:=by
 induction n with
 | zero=>simp [db]
 | succ n ih=>rw [dj,nD];have:=ih λj hj=>h j az;have:=h n az;omega
section
variable {ρ:Type} {z:ρ->Bool} {e:ρ}
variable {n i:Nat} {b b' M:Int} {S S':Cs ρ} {G:Gh ρ} {m:Ms ρ} {s:Nd ρ} {r:List (Ms ρ)×Nd ρ} {ms:List (Ms ρ)}
def wm (m:Ms ρ):Nat:=if m.kind=3 then 2 else 1
def wq (q:List (Ms ρ)):Nat:=(q.map wm).sum
theorem J3 (a b:List (Ms ρ)):wq (a++b)=wq a+wq b:=by unfold wq;rw [cy,IG]
theorem tC (a:Ms ρ) (b:List (Ms ρ)):wq (a::b)=wm a+wq b:=by unfold wq;rw [bJ,fC]
theorem II (m:Ms ρ):wm m<=2/\1<=wm m:=by unfold wm;split<;>omega
theorem CP (q:List (Ms ρ)):wq q<=2*q.length/\q.length<=wq q:=by
 induction q with
 | nil=>exact ⟨ah _,ah _⟩
 | cons a q ih=>rw [tC,aX];have:=II a;omega
def qK (s:Nd ρ) (j:Nat):Nat:=if j=s.own then 0 else 2*(s.next.getD j 0 - s.OE.getD j 0)+2*(s.Oz.length - s.OE.getD j 0)
def RA (s:Nd ρ):Nat:=db s.n (qK s)+6*(s.Oz.length - s.agreed)
theorem Kj (s:Nd ρ) (h:∀j,s.next.getD j 0<=s.Oz.length) (hn:s.n<=5) (ho:s.own<s.n):RA s<=22*s.Oz.length:=by
 have h1:db s.n (qK s)+4*s.Oz.length<=db s.n (λ_=>4*s.Oz.length):=by
  refine kY s.n s.own (4*s.Oz.length) _ _ ho ?_ (λj hj hne=>?_)
  ·unfold qK;rw [ay rfl];omega
  ·unfold qK;rw [am hne];have:=h j;omega
 have h2:=mw s.n (4*s.Oz.length) (λ_=>4*s.Oz.length) (λ_ _=>ah _);have h3:s.n*(4*s.Oz.length)<=5*(4*s.Oz.length):=jM _ hn;unfold RA;omega
structure Ans (s:Nd ρ) (r:List (Ms ρ)×Nd ρ):Prop where
 RA:wq r.1+RA r.2<=RA s
 num:r.1.length+3*(r.2.Oz.length - r.2.agreed)<=3*(s.Oz.length - s.agreed)+1
 Oy:r.2.Oy=true
 Oz:r.2.Oz=s.Oz
 Ow:r.2.Ow=s.Ow
 ag:s.agreed<=r.2.agreed
theorem Ans.of {ms:List (Ms ρ)} {s1:Nd ρ} (h1:wq ms+X.RA s1<=X.RA s) (h2:ms.length+3*(s1.Oz.length - s1.agreed)<=3*(s.Oz.length - s.agreed)+1) (h3:s1.Oy=true) (h4:s1.Oz=s.Oz) (h5:s1.Ow=s.Ow) (h6:s.agreed<=s1.agreed):Ans s (ms,s1):=⟨h1,h2,h3,h4,h5,h6⟩
theorem CQ (s:Nd ρ) (d:Nat):wq [bI s d]=2:=rfl
theorem qq:wq ([]:List (Ms ρ))=0:=rfl
theorem xI (z:ρ->Bool) (s:Nd ρ) (hl:s.Oy=true) (h:s.agreed<=s.Oz.length):(X.settle z s).2.agreed<=s.Oz.length/\s.agreed<=(X.settle z s).2.agreed/\((X.settle z s).1=true->s.agreed<(X.settle z s).2.agreed):=by
 unfold X.settle;split
 ·rename_i k hk;obtain ⟨k1,k2,k3,k4⟩:=iW _ _ _ hk;have e1:(X.agree z { s with OE:=s.OE.set s.own s.Oz.length } k).agreed=k:=by
   unfold X.agree;rw [ay k2]
  rw [e1];exact ⟨k1,gc k2,λ_=>k2⟩
 ·exact ⟨h,ah _,λh=>by cases h⟩
theorem Ad (s:Nd ρ) (f:Nat->Ms ρ) (ho:s.own<s.n) (hn:s.n<=5):wq (cP s f)<=8:=by
 have:=(CP (cP s f)).1;have:=gd s f ho;omega
theorem uF (Pr:LN s) (OP:NI z n G i s) (hl:s.Oy=true) (O8:n<=5) (hf:m.OD.toNat<n/\m.OD.toNat≠i) (Vj:m.N.getD 0 0=s.Ow->m.N.length=3->m.N.getD 1 0=0->0<=m.N.getD 2 0->((s.OE.getD m.OD.toNat 0:Nat):Int)<=m.N.getD 2 0):Ans s (answered z s m):=by
 have Q3:Ans s ([],s):=Ans.of (by rw [qq];omega) (by rw [fp];omega) hl rfl rfl (ah _);have ho:s.own<s.n:=by rw [OP.own,OP.nn];exact OP.ib
 unfold answered;split
 ·exact Q3
 ·rename_i hy;simp only [bi,bb,bq,not_or,ne_eq,dJ,dy,aZ,Og] at hy;obtain ⟨⟨⟨⟨_,UD⟩,U9⟩,TZ⟩,hy5⟩:=hy;have R5:m.OD.toNat≠s.own:=by rw [OP.own];exact hf.2
  have hfn:m.OD.toNat<s.n:=by rw [OP.nn];exact hf.1
  have ZM:=Pr.mn hl m.OD.toNat R5;have Sh:=OP.next hl m.OD.toNat;have UE:s.OE.length=s.n:=Pr.ml;have PD:s.next.length=s.n:=Pr.nl;simp only;split
  ·rename_i Sk;split
   ·exact Q3
   ·have hp:∀s1:Nd ρ,s1={ s with next:=s.next.set m.OD.toNat (max (m.N.getD 2 0).toNat (s.OE.getD m.OD.toNat 0))}->RA s1+2<=RA s:=λs1 e1=>by
     subst e1;unfold RA;have:db s.n (qK { s with next:=s.next.set m.OD.toNat (max (m.N.getD 2 0).toNat (s.OE.getD m.OD.toNat 0))})+2<=db s.n (qK s):=by
      refine kY s.n m.OD.toNat 2 _ _ hfn ?_ (λj hj hne=>?_)
      ·unfold qK;rw [am R5,am R5];rw [eE _ _ _ _ GX,ay rfl];show 2*(max _ _ - s.OE.getD m.OD.toNat 0)+2*(s.Oz.length - s.OE.getD m.OD.toNat 0)+2<=_;omega
      ·show (if j=s.own then 0 else 2*((s.next.set m.OD.toNat _).getD j 0 - s.OE.getD j 0)+2*(s.Oz.length - s.OE.getD j 0))<=_;rw [eE _ _ _ _ GX,am hne];exact ah _
     show db s.n _+6*(s.Oz.length - s.agreed)+2<=_;omega
    have:=hp _ rfl;exact Ans.of (by rw [CQ];omega) (by show 1+3*(s.Oz.length - s.agreed)<=_;omega) hl rfl rfl (ah _)
  ·split
   ·exact Q3
   ·generalize hs1:({ s with OE:=s.OE.set m.OD.toNat (m.N.getD 2 0).toNat,next:=s.next.set m.OD.toNat (max (m.N.getD 2 0).toNat (s.next.getD m.OD.toNat 0))}:Nd ρ)=s1;have e1:s1.own=s.own/\s1.n=s.n/\s1.Oz=s.Oz/\s1.agreed=s.agreed/\s1.Oy=s.Oy/\s1.Ow=s.Ow/\s1.OE=s.OE.set m.OD.toNat (m.N.getD 2 0).toNat/\s1.next=s.next.set m.OD.toNat (max (m.N.getD 2 0).toNat (s.next.getD m.OD.toNat 0)):=by rw [<-hs1];exact ⟨rfl,rfl,rfl,rfl,rfl,rfl,rfl,rfl⟩
    obtain ⟨a1,a2,a3,a4,a5,a6,a7,a8⟩:=e1;obtain ⟨g1,g2,g3,g4,g5,g6,g7,g8,g9,ZU,g11,g12,g13⟩:=df (z:=z) (s:=s1);obtain ⟨c1,c2,c3⟩:=xI z s1 (a5.trans hl) (by rw [a4,a3];exact OP.ag.1);have hpj:db s.n (qK (X.settle z s1).2)+2<=db s.n (qK s):=by
     refine kY s.n m.OD.toNat 2 _ _ hfn ?_ (λj hj hne=>?_)
     ·unfold qK;rw [g1,a1,am R5,am R5,g9,g13,g8,a3,a8,a7,a1,eE _ _ _ _ GX,ay rfl,eE _ _ _ _ (by rw [cY,UE];exact ho),am R5,eE _ _ _ _ (by rw [UE];exact hfn),ay rfl];omega
     ·unfold qK;rw [g1,a1];by_cases Tv:j=s.own
      ·rw [ay Tv,ay Tv];exact ah _
      ·rw [am Tv,am Tv,g9,g13,g8,a3,a8,a7,a1,eE _ _ _ _ GX,am hne,eE _ _ _ _ (by rw [cY,UE];exact ho),am Tv,eE _ _ _ _ (by rw [UE];exact hfn),am hne];exact ah _
    have hP:RA (X.settle z s1).2+2+6*((X.settle z s1).2.agreed - s.agreed)<=RA s:=by
     unfold RA;rw [g2,a2,g8,a3];rw [a3] at c1;rw [a4] at c2;omega
    have Pz:(X.settle z s1).2.Oz=s.Oz:=g8.trans a3;have P9:(X.settle z s1).2.Oy=true:=g5.trans (a5.trans hl);have UU:(X.settle z s1).2.Ow=s.Ow:=g6.trans a6;rw [a3] at c1;rw [a4] at c2 c3;split
    ·rename_i hst;have c4:=c3 hst;have hw:=Ad (X.settle z s1).2 (bI (X.settle z s1).2) (by rw [g1,g2,a1,a2];exact ho) (by rw [g2,a2,OP.nn];exact O8);have hlen:=gd (X.settle z s1).2 (bI (X.settle z s1).2) (by rw [g1,g2,a1,a2];exact ho);rw [g2,a2,OP.nn] at hlen;refine Ans.of az ?_ P9 Pz UU c2;rw [Pz];omega
    ·split
     ·refine Ans.of (by rw [CQ];omega) ?_ P9 Pz UU c2;show 1+3*((X.settle z s1).2.Oz.length - (X.settle z s1).2.agreed)<=_;rw [Pz];omega
     ·refine Ans.of (by rw [qq];omega) ?_ P9 Pz UU c2;show 0+3*((X.settle z s1).2.Oz.length - (X.settle z s1).2.agreed)<=_;rw [Pz];omega
theorem zU (hg:GI n G) (OP:NI z n G i s) (hm:MI n G m) (hf:Fit i n m) (hk:m.kind=3) (hs:s.Oy=false\/s.Ow<m.N.getD 0 0) (ht:s.Ow<=m.N.getD 0 0) (x:Ms ρ) (hx:x∈(X.get z e s m).1) (h0:x.N.getD 1 0=0) (k:Nat) (UI:G.Qx i (m.N.getD 0 0) k):(k:Int)<=x.N.getD 2 0:=by
 obtain ⟨h1,h2⟩:=OP.Rt _ _ UI;have hT:m.N.getD 0 0=s.Ow:=az;have SD:s.Oy=false:=by
  rcases hs with h | h
  ·exact h
  ·omega
 have SI:(G.L s.Ow).take k <+: s.Oz:=by
  rcases h2 with h2 | ⟨u,u1,u2,_⟩
  ·rw [<-hT];exact h2
  ·omega
 have hkl:=(hg.Qx _ _ _ UI).2.2;rw [hT] at hkl;have hplen:((G.L s.Ow).take k).length=k:=yd;have hks:k<=s.Oz.length:=by have:=SI.length_le;omega
 unfold X.get at hx;rw [hf.ok OP.own OP.nn] at hx;simp only [bk,if_false] at hx;rw [am az] at hx;unfold OJ at hx;rw [am az,am az,ay hk] at hx;obtain ⟨f,_,_,_,_,h3,_⟩:=hm.f;obtain ⟨_,p,a,e2,e3,_,_,e6,_⟩:=h3 hk;unfold lays at hx;rw [am (by
  simp only [bi,bb,bq,ne_eq,aZ,bu,cE,SD];rintro ((h1 | h1) | ⟨_,h1⟩)
  ·exact h1 e6
  ·omega
  ·cases h1),am az] at hx
 simp only at hx;split at hx
 ·split at hx
  ·rw [aj.1 hx] at h0;have h0:(1:Int)=0:=h0;omega
  ·cases hx
 ·rename_i O0;rw [aj.1 hx];show (k:Int)<=min (s.Oz.length:Int) (max (m.N.getD 1 0 - 1) 0);have hpk:k<p:=by
   apply bz;intro hn;apply O0;unfold nf;simp only [bu,aZ,cE];rw [e2];refine ⟨by show (p:Int)<=(s.Oz.length:Int);omega,?_⟩;show bC s.Oz ((p:Int)).toNat=m.N.getD 2 0;rw [show ((p:Int)).toNat=p by omega,e3,hT,<-fR SI az,eH az hkl]
  omega
end
section
variable {ρ:Type} {z:ρ->Bool} {e:ρ}
variable {n i:Nat} {b b' M:Int} {S S':Cs ρ} {G:Gh ρ} {m:Ms ρ} {s:Nd ρ} {r:List (Ms ρ)×Nd ρ} {ms q:List (Ms ρ)}
def Rf (i:Nat) (M:Int) (m1 m2:Ms ρ):Prop:=m1.kind=4->m1.dst=(i:Int)->m1.N.getD 0 0=M->m1.N.getD 1 0≠0->m2.kind=4->m2.dst=(i:Int)->m2.N.getD 0 0=M->m2.N.getD 1 0=0->m1.OD=m2.OD->m1.N.getD 2 0<=m2.N.getD 2 0
structure P3 (z:ρ->Bool) (n:Nat) (b M:Int) (S:Cs ρ):Prop where
 wk:Wk z n b S
 ub:UB M S
 kd:∀m∈S.q,m.kind=3\/(m.kind=4/\m.N.length=3/\0<=m.N.getD 2 0)
 ld:∀i,S.up i=true->(S.nd i).Oy=true->(S.nd i).Ow=M
 fr:∀m∈S.q,m.kind=3->∀i:Nat,S.up i=true->(S.nd i).Oy=true->m.OD=(i:Int)->m.N.getD 0 0=M
 fa:∀i,S.up i=true->(S.nd i).Oy=true->S.q.Pairwise (Rf i M)
 fb:∀m∈S.q,m.kind=4->m.N.getD 1 0=0->m.N.getD 0 0=M->∀i f:Nat,S.up i=true->(S.nd i).Oy=true->m.dst=(i:Int)->m.OD=(f:Int)->(((S.nd i).OE.getD f 0:Nat):Int)<=m.N.getD 2 0
structure Kp (S S':Cs ρ):Prop where
 up:S'.up=S.up
 lead:∀i,S.up i=true->(S.nd i).Oy=true->(S'.nd i).Oy=true/\(S'.nd i).Oz=(S.nd i).Oz/\(S'.nd i).Ow=(S.nd i).Ow/\(S.nd i).agreed<=(S'.nd i).agreed
 back:∀i,(S'.nd i).Oy=true->(S.nd i).Oy=true
 Ow:∀i,(S.nd i).Ow<=(S'.nd i).Ow
 Ox:∀i,(S'.nd i).Ox=(S.nd i).Ox\/(S'.nd i).Ox=0
 OA:∀i,(S'.nd i).OA=(S.nd i).OA
 down:∀i,S.up i=false->S'.nd i=S.nd i
theorem Kp.refl (S:Cs ρ):Kp S S:=⟨rfl,λ_ _ h=>⟨h,rfl,rfl,ah _⟩,λ_ h=>h,λ_=>aP _,λ_=>.inl rfl,λ_=>rfl,λ_ _=>rfl⟩
theorem Kp.trans {S2:Cs ρ} (h:Kp S S') (g:Kp S' S2):Kp S S2:=by
 refine ⟨g.up.trans h.up,λi hu hl=>?_,λi hl=>h.back i (g.back i hl),λi=>cK (h.Ow i) (g.Ow i),λi=>?_,λi=>(g.OA i).trans (h.OA i),λi hu=>(g.down i (by rw [h.up];exact hu)).trans (h.down i hu)⟩
 ·grind [h.lead,g.lead,h.up]
 ·grind [g.Ox,h.Ox]
def Ul (n:Nat) (S:Cs ρ):Nat:=wq S.q+db n λi=>if (S.up i&&(S.nd i).Oy)=true then RA (S.nd i) else 0
def WH (n:Nat) (S:Cs ρ):Nat:=S.q.length+db n λi=>if (S.up i&&(S.nd i).Oy)=true then 3*((S.nd i).Oz.length - (S.nd i).agreed) else 0
theorem vY (hk:m.kind=3) (x:Ms ρ) (hx:x∈(X.get z e s m).1):x.N.length=3/\0<=x.N.getD 2 0:=by
 have O9:∀s1:Nd ρ,x∈(OJ z e s1 m).1->x.N.length=3/\0<=x.N.getD 2 0:=λs1 hx=>by
  unfold OJ at hx;rw [am az,am az,ay hk] at hx;unfold lays at hx;split at hx
  ·cases hx
  ·split at hx
   ·rw [aj.1 hx];exact ⟨rfl,aP _⟩
   ·simp only at hx;split at hx
    ·split at hx
     ·rw [aj.1 hx];exact ⟨rfl,by show (0:Int)<=((_:Nat):Int);omega⟩
     ·cases hx
    ·rw [aj.1 hx];exact ⟨rfl,by show (0:Int)<=min _ (max _ 0);omega⟩
 unfold X.get at hx;split at hx
 ·cases hx
 ·grind
theorem qZ (hk:m.kind=3) (hl:s.Oy=true) (hN:m.N.getD 0 0<=s.Ow):(X.get z e s m).2=s:=by
 unfold X.get;split
 ·rfl
 ·rw [am az];unfold OJ;rw [am az,am az,ay hk];unfold lays;split
  ·rfl
  ·grind
theorem oD (UE:s.OE.length=s.n) (hf:m.OD.toNat<s.n) (f:Nat) (R5:f≠s.own) (ho:s.own<s.n):(answered z s m).2.OE.getD f 0=s.OE.getD f 0\/(f=m.OD.toNat/\m.N.getD 1 0≠0/\0<=m.N.getD 2 0/\(answered z s m).2.OE.getD f 0=(m.N.getD 2 0).toNat):=by
 unfold answered;split
 ·exact .inl rfl
 ·rename_i hy;simp only [bi,bb,bq,not_or,ne_eq,dJ,dy,aZ,Og] at hy;simp only;split
  ·split
   ·exact .inl rfl
   ·exact .inl rfl
  ·grind [df,eE,cY]
theorem QS.one (h:QS z n b G S) {i j:Nat} (hi:i<n) (hj:j<n) (h1:(S.nd i).Oy=true) (h2:(S.nd j).Oy=true) (h3:(S.nd i).Ow=(S.nd j).Ow):i=j:=by
 have e1:=((h.ni i hi).UC h1).1;have e2:=((h.ni j hj).UC h2).1;rw [h3,e2] at e1;simp only [cV] at e1;exact e1.symm
theorem qd (n i:Nat) (hi:i<n) (v:Nat) (g:Nat->Nat):db n (λj=>if j=i then v else g j)=db n (λj=>if j=i then 0 else g j)+v:=by
 have:∀k,db k (λj=>if j=i then v else g j)=db k (λj=>if j=i then 0 else g j)+(if i<k then v else 0):=by
  intro k;induction k with
  | zero=>rfl
  | succ k ih =>
   rw [dj,dj,ih];by_cases e1:k=i
   ·subst e1;simp
   ·grind
 rw [this n,ay hi]
theorem DA (S:Cs ρ) (i:Nat) (hi:i<n) (r:List (Ms ρ)×Nd ρ) (hu:S.up i=true) (c:Nat) (h:wq r.1+(if r.2.Oy=true then RA r.2 else 0)+1<=c+(if (S.nd i).Oy=true then RA (S.nd i) else 0)):Ul n (S.call i r)+1<=Ul n S+c:=by
 unfold Ul;rw [dS,J3];have e1:db n (λj=>if ((S.call i r).up j&&((S.call i r).nd j).Oy)=true then RA ((S.call i r).nd j) else 0)=db n (λj=>if j=i then (if r.2.Oy=true then RA r.2 else 0) else if (S.up j&&(S.nd j).Oy)=true then RA (S.nd j) else 0):=Mw;have e2:db n (λj=>if (S.up j&&(S.nd j).Oy)=true then RA (S.nd j) else 0)=db n (λj=>if j=i then (if (S.nd i).Oy=true then RA (S.nd i) else 0) else if (S.up j&&(S.nd j).Oy)=true then RA (S.nd j) else 0):=L9;have k1:=qd n i hi (if r.2.Oy=true then RA r.2 else 0) (λj=>if (S.up j&&(S.nd j).Oy)=true then RA (S.nd j) else 0);have k2:=qd n i hi (if (S.nd i).Oy=true then RA (S.nd i) else 0) (λj=>if (S.up j&&(S.nd j).Oy)=true then RA (S.nd j) else 0);rw [e1,e2,k1,k2];omega
theorem Dx (S:Cs ρ) (i:Nat) (hi:i<n) (r:List (Ms ρ)×Nd ρ) (hu:S.up i=true) (h:r.1.length+(if r.2.Oy=true then 3*(r.2.Oz.length - r.2.agreed) else 0)<=1+(if (S.nd i).Oy=true then 3*((S.nd i).Oz.length - (S.nd i).agreed) else 0)):WH n (S.call i r)<=WH n S+1:=by
 unfold WH;rw [dS,aE];have e1:db n (λj=>if ((S.call i r).up j&&((S.call i r).nd j).Oy)=true then 3*(((S.call i r).nd j).Oz.length - ((S.call i r).nd j).agreed) else 0)=db n (λj=>if j=i then (if r.2.Oy=true then 3*(r.2.Oz.length - r.2.agreed) else 0) else if (S.up j&&(S.nd j).Oy)=true then 3*((S.nd j).Oz.length - (S.nd j).agreed) else 0):=Mw;have e2:db n (λj=>if (S.up j&&(S.nd j).Oy)=true then 3*((S.nd j).Oz.length - (S.nd j).agreed) else 0)=db n (λj=>if j=i then (if (S.nd i).Oy=true then 3*((S.nd i).Oz.length - (S.nd i).agreed) else 0) else if (S.up j&&(S.nd j).Oy)=true then 3*((S.nd j).Oz.length - (S.nd j).agreed) else 0):=L9;have k1:=qd n i hi (if r.2.Oy=true then 3*(r.2.Oz.length - r.2.agreed) else 0) (λj=>if (S.up j&&(S.nd j).Oy)=true then 3*((S.nd j).Oz.length - (S.nd j).agreed) else 0);have k2:=qd n i hi (if (S.nd i).Oy=true then 3*((S.nd i).Oz.length - (S.nd i).agreed) else 0) (λj=>if (S.up j&&(S.nd j).Oy)=true then 3*((S.nd j).Oz.length - (S.nd j).agreed) else 0);rw [e1,e2,k1,k2];omega
end
end Go.Proofs.YtnhefallmioefaaGreat.X
