/-
  What the proof of the law leans on: contracts of the program's functions, one behind another. No condition.
-/
import Derived.Test.YtnicaicjgaoolaaU0
import Derived.Test.YtnicaicjgaoolaaPRepLeadsL4
set_option linter.unusedVariables false
set_option linter.unusedSimpArgs false
namespace Go.Proofs.Ytnicaicjgaoolaa.X
section
variable {ρ:Type} {z:ρ->Bool} {e:ρ}
variable {n i:Nat} {b b' M:Int} {S S':Cs ρ} {G:Gh ρ} {m:Ms ρ} {s:Nd ρ} {r:List (Ms ρ)×Nd ρ} {ms q:List (Ms ρ)}
def Cs.wq (S:Cs ρ) (q:List (Ms ρ)):Cs ρ:=⟨S.nd,S.up,q,S.lo⟩
theorem jn (hk:m.kind=4) (hN:m.N.getD 0 0<=s.term) (hb:nZ s m=false):X.get z e s m=answered z s m:=by
 unfold X.get;rw [hb];simp only [cD,if_false];rw [aw (by omega)];unfold getIn;rw [aw (by omega),aw (by omega),aw (by omega),ax hk]
structure St3 (z:ρ->Bool) (e:ρ) (n:Nat) (b M:Int) (S:Cs ρ) (m:Ms ρ) (q:List (Ms ρ)) (S':Cs ρ):Prop where
 p:P3 z n b M S'
 phi:phi n S'+1<=phi n S
 psi:psi n S'<=psi n S
 kp:Kp S S'
 cut:∃i,i<n/\m.dst=(i:Int)/\Got (S.nd i) m (X.get z e (S.nd i) m)/\(S.up i=true->S'=(S.wq q).call i (X.get z e (S.nd i) m))/\(S.up i=false->S'=S.wq q)
theorem P3.step (h:P3 z n b M S) (hn:n<=5) (hb:b<=1099511627776) (hq:S.q=m::q):St3 z e n b M S m q ((S.wq q).bring z e m):=by
 have hmS:m∈S.q:=by rw [hq];exact aP
 have hsub:∀x∈q,x∈S.q:=λx hx=>by rw [hq];exact aI _ hx
 obtain ⟨G,hG⟩:=h.wk;have hwm:WkM z [m] n b (S.wq q):=⟨G,⟨hG.gi,hG.ni,hG.ln,λx hx=>hG.mi x (hsub x hx),hG.up,hG.tb,hG.lo⟩,λx hx=>by rw [aj.1 hx];exact hG.mi m hmS⟩
 obtain ⟨hwk',i,hi,hdst,hgot,hup,hdn⟩:=hwm.take (e:=e) hb aP;have hgot:Got (S.nd i) m (X.get z e (S.nd i) m):=hgot;have hmM:=h.ub.q m hmS;have hphi0:phi n (S.wq q)+wm m=phi n S:=by unfold phi;rw [hq,mI];show X.wq q+_+wm m=_;unfold Cs.wq;simp only;omega
 have hpsi0:psi n (S.wq q)+1=psi n S:=by unfold psi;rw [hq,aX];unfold Cs.wq;simp only;omega
 obtain ⟨mi,fm⟩:=hG.mi m hmS;obtain ⟨i2,f,_,hf,hfi,hd2,hfrm⟩:=fm.f;obtain rfl:i2=i:=by omega
 have hfn:m.frm.toNat=f:=by omega
 cases hu:S.up i2 with
 | false =>
  have e1:(S.wq q).bring z e m=S.wq q:=hdn hu;rw [e1];refine ⟨⟨by rw [<-e1];exact hwk'.wk,⟨h.ub.nd,λx hx=>h.ub.q x (hsub x hx)⟩,λx hx=>h.kd x (hsub x hx),h.ld,λx hx=>h.fr x (hsub x hx),λj h1 h2=>?_,λx hx=>h.fb x (hsub x hx)⟩,?_,by omega,⟨rfl,λ_ _ g=>⟨g,rfl,rfl,ah _⟩,λ_ g=>g,λ_=>aM _,λ_=>.inl rfl,λ_=>rfl,λ_ _=>rfl⟩,i2,hi,hdst,hgot,λhu2=>(by rw [hu] at hu2;cases hu2),λ_=>rfl⟩
  ·have:=h.fa j h1 h2;rw [hq] at this;exact (List.pairwise_cons.1 this).2
  ·have:=(BW m).2;omega
 | true =>
  have e1:(S.wq q).bring z e m=(S.wq q).call i2 (X.get z e (S.nd i2) m):=hup hu;rw [e1] at hwk' ⊢;have hni:=hG.ni i2 hi;have hln:=hG.ln i2 hi;have hubi:=h.ub.nd i2 hu;generalize hr:X.get z e (S.nd i2) m=r at *;have hk34:=h.kd m hmS;have hnd:∀j,((S.wq q).call i2 r).nd j=if j=i2 then r.2 else S.nd j:=λj=>rfl
  have hqq:((S.wq q).call i2 r).q=q++r.1:=rfl;have hub':UB M ((S.wq q).call i2 r):=UB.take (S:=S.wq q) ⟨h.ub.nd,λx hx=>h.ub.q x (hsub x hx)⟩ hmM hu hgot;have hnl:r.2.leads=true->(S.nd i2).leads=true/\r.2.term=(S.nd i2).term:=λhl=>by
   grind [hgot.leads]
  have fin:∀(hlog:(S.nd i2).leads=true->r.2.leads=true/\r.2.log=(S.nd i2).log/\r.2.term=(S.nd i2).term/\(S.nd i2).agreed<=r.2.agreed)
    (hp:X.wq r.1+(if r.2.leads=true then pot r.2 else 0)+1<=wm m+(if (S.nd i2).leads=true then pot (S.nd i2) else 0))
    (hs:r.1.length+(if r.2.leads=true then 3*(r.2.log.length - r.2.agreed) else 0)<=1+(if (S.nd i2).leads=true then 3*((S.nd i2).log.length - (S.nd i2).agreed) else 0))
    (hkd:∀x∈r.1,x.kind=3\/(x.kind=4/\x.N.length=3/\0<=x.N.getD 2 0))
    (hfr:∀x∈r.1,x.kind=3->∀j:Nat,S.up j=true->(((S.wq q).call i2 r).nd j).leads=true->x.frm=(j:Int)->x.N.getD 0 0=M)
    (hfa:∀j,S.up j=true->(((S.wq q).call i2 r).nd j).leads=true->(q++r.1).Pairwise (Rf j M))
    (hfb:∀x∈q++r.1,x.kind=4->x.N.getD 1 0=0->x.N.getD 0 0=M->∀j f:Nat,S.up j=true->(((S.wq q).call i2 r).nd j).leads=true->x.dst=(j:Int)->x.frm=(f:Int)->(((((S.wq q).call i2 r).nd j).mat.getD f 0:Nat):Int)<=x.N.getD 2 0),
    St3 z e n b M S m q ((S.wq q).call i2 r):=λhlog hp hs hkd hfr hfa hfb=>by
   refine ⟨⟨hwk'.wk,hub',λx hx=>?_,λj h1 h2=>?_,λx hx hk j h1 h2 h3=>?_,hfa,hfb⟩,?_,?_,⟨rfl,λj h1 h2=>?_,λj h1=>?_,λj=>?_,λj=>?_,λj=>?_,λj h1=>?_⟩,i2,hi,hdst,hr ▸ hgot,λ_=>by rw [hr],λhu2=>(by rw [hu] at hu2;cases hu2)⟩
   ·grind [h.kd]
   ·rw [hnd] at h2 ⊢;by_cases e2:j=i2
    ·grind [h.ld]
    ·rw [aw e2] at h2 ⊢;exact h.ld j h1 h2
   ·rw [hqq] at hx;rcases av.1 hx with hx | hx
    ·refine h.fr x (hsub x hx) hk j h1 ?_ h3;rw [hnd] at h2;by_cases e2:j=i2
     ·grind
     ·rw [aw e2] at h2;exact h2
    ·exact hfr x hx hk j h1 h2 h3
   ·have:=yV (S.wq q) i2 hi r hu (wm m) hp;omega
   ·have:=yS (S.wq q) i2 hi r hu hs;omega
   ·grind
   ·grind
   ·grind [hgot.up]
   ·grind [hgot.ticks]
   ·grind [hgot.clock]
   ·grind
  have qfa:∀j,S.up j=true->(((S.wq q).call i2 r).nd j).leads=true->q.Pairwise (Rf j M)/\∀x∈q,Rf j M m x:=λj h1 h2=>by
   have h3:(S.nd j).leads=true:=by
    grind
   have:=h.fa j h1 h3;rw [hq] at this;exact ⟨(List.pairwise_cons.1 this).2,(List.pairwise_cons.1 this).1⟩
  cases hld:(S.nd i2).leads with
  | true =>
   have hMi:=h.ld i2 hu hld;have hone:∀j,S.up j=true->(((S.wq q).call i2 r).nd j).leads=true->j=i2:=λj h1 h2=>by
    by_cases e2:j=i2
    ·exact e2
    ·rw [hnd,aw e2] at h2;exact hG.one (hG.up j h1) hi h2 hld (by rw [h.ld j h1 h2,hMi])
   rcases hk34 with hk | ⟨hk,hN3,hN2⟩
   ·-- another one's: nothing
    have hs:r.2=S.nd i2:=by rw [<-hr];exact rB hk hld (by omega)
    have hone1:r.1.length<=1:=by
     grind [hgot.num]
    have hk4:∀x∈r.1,x.kind=4/\x.dst=m.frm:=λx hx=>by
     obtain ⟨_,_,_,o,_⟩:=hgot.out x hx;rcases o with o | o | o | o
     ·omega
     ·omega
     ·exact ⟨o.2.1,o.2.2⟩
     ·omega
    have hout:∀x∈r.1,x.N.length=3/\0<=x.N.getD 2 0:=λx hx=>rE hk x (by rw [hr];exact hx);have hwq:X.wq r.1<=1:=by
     cases hr1:r.1 with
     | nil=>exact aA _
     | cons a l =>
      rw [hr1] at hone1 hk4;have:l=[]:=by cases l with
       | nil=>rfl
       | cons _ _=>simp at hone1
      subst this;have:=(hk4 a aP).1;rw [mI,lI];unfold wm;rw [aw (by omega)];omega
    have hwm2:wm m=2:=by unfold wm;rw [ax hk]
    refine fin (λg=>⟨by rw [hs];exact g,by rw [hs],by rw [hs],by rw [hs];exact ah _⟩) (by rw [hs];omega) (by rw [hs];omega) (λx hx=>.inr ⟨(hk4 x hx).1,hout x hx⟩) (λx hx hk3=>by have:=(hk4 x hx).1;omega) (λj h1 h2=>?_) (λx hx hk' h1 h2 j f' h3 h4 h5 h6=>?_)
    ·obtain rfl:=hone j h1 h2;refine List.pairwise_append.2 ⟨(qfa j h1 h2).1,?_,λa ha x hx _ _ _ _ _ h5=>?_⟩
     ·cases hr1:r.1 with
      | nil=>exact List.Pairwise.nil
      | cons a l =>
       rw [hr1] at hone1;have:l=[]:=by cases l with
        | nil=>rfl
        | cons _ _=>simp at hone1
       subst this;exact List.pairwise_singleton _ _
     ·have:=(hk4 x hx).2;omega
    ·obtain rfl:=hone j h3 h4;rcases av.1 hx with hx | hx
     ·rw [hnd,ax rfl,hs];exact h.fb x (hsub x hx) hk' h1 h2 j f' hu hld h5 h6
     ·have:=(hk4 x hx).2;omega
   ·-- an answer to it
    by_cases h1t:1<=m.N.getD 0 0
    ·obtain ⟨i3,_,e3,_,hfit⟩:=fm.fit hb h1t;obtain rfl:i3=i2:=by omega
     have hrr:r=answered z (S.nd i3) m:=by rw [<-hr];exact jn hk (by omega) (hfit.ok hni.own hni.nn)
     have hans:=qi (z:=z) (m:=m) hln hni hld hn (by rw [hfn];exact ⟨hf,hfi⟩) (λa1 a2 a3 a4=>by
      have:=h.fb m hmS hk a3 (by rw [a1,hMi]) i3 f hu hld hdst hfrm;rw [hfn];exact this)
     rw [<-hrr] at hans;have hwm1:wm m=1:=by unfold wm;rw [aw (by omega)]
     have hk3:∀x∈r.1,x.kind=3:=λx hx=>by
      obtain ⟨_,_,_,o,_⟩:=hgot.out x hx;rcases o with o | o | o | o
      ·omega
      ·omega
      ·omega
      ·exact o.2
     have hap:=hans.pot;have hanum:=hans.num;refine fin (λ_=>⟨hans.leads,hans.log,hans.term,hans.ag⟩) (by rw [ax hans.leads,ax hld];omega) (by rw [ax hans.leads,ax hld];omega) (λx hx=>.inl (hk3 x hx)) (λx hx _ j h1 h2 h3=>by
      obtain ⟨_,o2,_⟩:=hgot.out x hx;rw [o2,hans.term,hMi]) (λj h1 h2=>?_) (λx hx hk' h1 h2 j f' h3 h4 h5 h6=>?_)
     ·refine List.pairwise_append.2 ⟨(qfa j h1 h2).1,?_,λa ha x hx _ _ _ _ h5=>?_⟩
      ·refine List.Pairwise.imp_of_mem (R:=λ_ _=>True) (λ{a b} ha hb' _ h5=>?_) (List.pairwise_of_forall (λ_ _=>trivial));have:=hk3 a ha;omega
      ·have:=hk3 x hx;omega
     ·rcases av.1 hx with hx | hx
      ·obtain rfl:=hone j h3 h4;rw [hnd,ax rfl];have hold:=h.fb x (hsub x hx) hk' h1 h2 j f' hu hld h5 h6;by_cases hfo:f'=(S.nd j).own
       ·exfalso;obtain ⟨i4,f4,_,_,c3,c4,c5⟩:=(hG.mi x (hsub x hx)).2.f;have:=hni.own;omega
       ·rcases lF (z:=z) (m:=m) (s:=S.nd j) hln.ml (by rw [hfn,hni.nn];exact hf) f' hfo (by rw [hni.own,hni.nn];exact hi) with g | ⟨g1,g2,g3,g4⟩
        ·rw [hrr,g];exact hold
        ·rw [hrr,g4];by_cases hmm:m.N.getD 0 0=M
         ·have:=(qfa j h3 h4).2 x hx hk hdst hmm g2 hk' h5 h2 h1 (by omega);omega
         ·-- it was not heeded
          have:answered z (S.nd j) m=([],S.nd j):=by
           unfold answered;rw [ax];simp only [aW,aV,be,ne_eq];exact .inl (.inl (.inl (.inr (by rw [hMi];exact hmm))))
          rw [this] at g4;rw [<-g4];exact hold
      ·have:=hk3 x hx;omega
    ·-- of no term
     have hrr:r=([],S.nd i2):=by rw [<-hr];exact ly (by omega)
     have hwm1:wm m=1:=by unfold wm;rw [aw (by omega)]
     subst hrr;refine fin (λg=>⟨g,rfl,rfl,ah _⟩) (by rw [lI,hwm1];simp only;omega) (by simp only [dU];omega) (λx hx=>by cases hx) (λx hx=>by cases hx) (λj h1 h2=>by rw [cF];exact (qfa j h1 h2).1) (λx hx hk' h1 h2 j f' h3 h4 h5 h6=>?_);rw [cF] at hx;obtain rfl:=hone j h3 h4;rw [hnd,ax rfl];exact h.fb x (hsub x hx) hk' h1 h2 j f' hu hld h5 h6
  | false =>
   have hnl2:r.2.leads=false:=by
    grind
   have hsame:∀j,(((S.wq q).call i2 r).nd j).leads=true->j≠i2/\((S.wq q).call i2 r).nd j=S.nd j/\(S.nd j).leads=true:=λj h2=>by
    grind
   rcases hk34 with hk | ⟨hk,hN3,hN2⟩
   ·have hone1:r.1.length<=1:=by
     grind [hgot.num]
    have hk4:∀x∈r.1,x.kind=4/\x.dst=m.frm/\x.frm=(i2:Int)/\x.N.getD 0 0=r.2.term:=λx hx=>by
     obtain ⟨o1,o2,_,o,_⟩:=hgot.out x hx;rcases o with o | o | o | o
     ·omega
     ·omega
     ·grind [hni.own]
     ·omega
    have hout:∀x∈r.1,x.N.length=3/\0<=x.N.getD 2 0:=λx hx=>rE hk x (by rw [hr];exact hx);have hwq:X.wq r.1<=1:=by
     cases hr1:r.1 with
     | nil=>exact aA _
     | cons a l =>
      rw [hr1] at hone1 hk4;have:l=[]:=by cases l with
       | nil=>rfl
       | cons _ _=>simp at hone1
      subst this;have:=(hk4 a aP).1;rw [mI,lI];unfold wm;rw [aw (by omega)];omega
    have hwm2:wm m=2:=by unfold wm;rw [ax hk]
    have hge:∀x∈r.1,x.N.getD 1 0=0->∀j:Nat,S.up j=true->(S.nd j).leads=true->x.dst=(j:Int)->∀k,G.ack i2 M k->(k:Int)<=x.N.getD 2 0:=λx hx h0 j h1 h2 h3 k hak=>by
     have hmM2:m.N.getD 0 0=M:=h.fr m hmS hk j h1 h2 (by rw [<-(hk4 x hx).2.1];exact h3);have hMp:1<=M:=by
      have:=(hG.gi.led _ _ ((hG.ni j (hG.up j h1)).lds h2).1).2;rw [h.ld j h1 h2] at this;exact this
     obtain ⟨i3,_,e3,_,hfit⟩:=fm.fit hb (by omega);obtain rfl:i3=i2:=by omega
     exact uR (z:=z) (e:=e) hG.gi hni mi hfit hk (.inl hld) (by omega) x (by rw [hr];exact hx) h0 k (by rw [hmM2];exact hak)
    refine fin (λg=>by rw [hld] at g;cases g) (by rw [hnl2,hld];simp only [cD,if_false];omega) (by rw [hnl2,hld];simp only [cD,if_false];omega) (λx hx=>.inr ⟨(hk4 x hx).1,hout x hx⟩) (λx hx hk3=>by have:=(hk4 x hx).1;omega) (λj h1 h2=>?_) (λx hx hk' h1 h2 j f' h3 h4 h5 h6=>?_)
    ·obtain ⟨s1,s2,s3⟩:=hsame j h2;refine List.pairwise_append.2 ⟨(qfa j h1 h2).1,?_,λa ha x hx a1 a2 a3 a4 _ a6 a7 a8 a9=>?_⟩
     ·cases hr1:r.1 with
      | nil=>exact List.Pairwise.nil
      | cons a l =>
       rw [hr1] at hone1;have:l=[]:=by cases l with
        | nil=>rfl
        | cons _ _=>simp at hone1
       subst this;exact List.pairwise_singleton _ _
     ·have hkda:=h.kd a (hsub a ha);have hkda:a.N.length=3/\0<=a.N.getD 2 0:=by
       omega
      obtain ⟨fa,_,c2,_,_,_,c6⟩:=(hG.mi a (hsub a ha)).1.f;have hak:=c6 a1 hkda.1 a4 hkda.2;rw [a3] at hak;have:fa=i2:=by have:=(hk4 x hx).2.2.1;omega
      subst this;have:=hge x hx a8 j h1 s3 a6 _ hak;omega
    ·obtain ⟨s1,s2,s3⟩:=hsame j h4;rw [s2];rcases av.1 hx with hx | hx
     ·exact h.fb x (hsub x hx) hk' h1 h2 j f' h3 s3 h5 h6
     ·by_cases hm0:(S.nd j).mat.getD f' 0=0
      ·grind
      ·have hf':f'=i2:=by have:=(hk4 x hx).2.2.1;omega
       subst hf';have hnj:=hG.ni j (hG.up j h3);have hak:=hnj.mat s3 f' hi (ud s1) hm0;rw [h.ld j h3 s3] at hak;exact hge x hx h1 j h3 s3 h5 _ hak
   ·-- an answer to one that leads no more
    have hr1:r.1=[]:=by
     rw [cO];intro x hx;obtain ⟨_,_,_,o,o5⟩:=hgot.out x hx;have:x.kind=3:=by
      omega
     have:=o5 this;rw [hnl2] at this;cases this
    have hwm1:wm m=1:=by unfold wm;rw [aw (by omega)]
    refine fin (λg=>by rw [hld] at g;cases g) (by rw [hr1,lI,hnl2,hld,hwm1];simp) (by rw [hr1,hnl2,hld];simp) (λx hx=>by rw [hr1] at hx;cases hx) (λx hx=>by rw [hr1] at hx;cases hx) (λj h1 h2=>by rw [hr1,cF];exact (qfa j h1 h2).1) (λx hx hk' h1 h2 j f' h3 h4 h5 h6=>?_);rw [hr1,cF] at hx;obtain ⟨s1,s2,s3⟩:=hsame j h4;rw [s2];exact h.fb x (hsub x hx) hk' h1 h2 j f' h3 s3 h5 h6
end
section
variable {ρ:Type} {z:ρ->Bool} {e:ρ}
variable {n i:Nat} {b b' M:Int} {S S':Cs ρ} {G:Gh ρ} {m:Ms ρ} {s:Nd ρ} {r:List (Ms ρ)×Nd ρ} {ms q:List (Ms ρ)}
theorem eG (k:Nat) (h:S.q=[]):Cs.drain z e k S=S:=by
 cases k with
 | zero=>rfl
 | succ k=>unfold Cs.drain;rw [h]
theorem eO (k:Nat) (h:S.q=m::q):Cs.drain z e (k+1) S=Cs.drain z e k ((S.wq q).bring z e m):=by
 conv=>lhs;unfold Cs.drain
 rw [h];rfl
theorem P3.end_ {Inv:Cs ρ->Prop} (hn:n<=5) (hb:b<=1099511627776) (hs:∀S m q,P3 z n b M S->Inv S->S.q=m::q->St3 z e n b M S m q ((S.wq q).bring z e m)->Inv ((S.wq q).bring z e m)):∀(k:Nat) (S:Cs ρ),P3 z n b M S->Inv S->phi n S<=k->P3 z n b M (Cs.drain z e k S)/\(Cs.drain z e k S).q=[]/\Kp S (Cs.drain z e k S)/\Inv (Cs.drain z e k S)/\∀j,(Cs.drain z e j S).q.length<=psi n S:=by
 intro k;induction k with
 | zero =>
  intro S h hi hk;have hq:S.q=[]:=by
   cases hq:S.q with
   | nil=>rfl
   | cons m q =>
    have:=(yd S.q).2;rw [hq,aX] at this;unfold phi at hk;rw [hq] at hk;omega
  refine ⟨h,hq,Kp.refl S,hi,λj=>?_⟩;rw [eG j hq,hq];exact aA _
 | succ k ih =>
  intro S h hi hk;cases hq:S.q with
  | nil =>
   rw [eG _ hq];refine ⟨h,hq,Kp.refl S,hi,λj=>?_⟩;rw [eG j hq,hq];exact aA _
  | cons m q =>
   have st:=h.step (e:=e) hn hb hq;rw [eO k hq];have hp:=st.phi;obtain ⟨a1,a2,a3,a4,a5⟩:=ih _ st.p (hs S m q h hi hq st) (by omega);refine ⟨a1,a2,st.kp.trans a3,a4,λj=>?_⟩;cases j with
   | zero =>
    show S.q.length<=_;unfold psi;omega
   | succ j =>
    rw [eO j hq];exact aF (a5 j) st.psi
def Zz (s:Nd ρ):Prop:=s.leads=true\/s.choice≠(s.own:Int)
theorem wv (p:Nat) (l:List (Int×ρ)):∀(j:Nat) (s:Nd ρ),(bE p l j s).2.log.length<=max s.log.length (p+j+l.length)/\(bE p l j s).2.choice=s.choice:=by
 induction l with
 | nil=>intro j s;exact ⟨by show s.log.length<=_;omega,rfl⟩
 | cons x l ih =>
  intro j s;obtain ⟨t,rec⟩:=x;unfold bE;rw [aX];split
  ·have:=ih (j+1) s;exact ⟨by omega,this.2⟩
  ·split
   ·exact ⟨by show s.log.length<=_;omega,rfl⟩
   ·have:=ih (j+1) (place s (p+j) (t,rec));have e1:(place s (p+j) (t,rec)).log.length<=p+j+1:=by
     show (s.log.take (p+j)++[(t,rec)]).length<=_;rw [ay,aE];simp;omega
    exact ⟨by omega,this.2⟩
structure Gl (s:Nd ρ) (m:Ms ρ) (r:List (Ms ρ)×Nd ρ):Prop where
 len:r.2.log.length<=max s.log.length (if m.kind=3 then (m.N.getD 1 0).toNat+m.B.length else 0)\/(m.kind=2/\¬Zz s/\Zz r.2/\r.2.log.length=s.log.length+1)
 zz:Zz s->Zz r.2
theorem Gl.of {ms:List (Ms ρ)} {s1:Nd ρ} (h1:s1.log=s.log) (h2:Zz s->Zz s1):Gl s m (ms,s1):=⟨.inl (by show s1.log.length<=_;rw [h1];exact Nat.le_max_left _ _),h2⟩
theorem nK (hf:m.frm≠(s.own:Int)):Gl s m (getIn z e s m):=by
 have hid:∀(ms:List (Ms ρ)) (s1:Nd ρ),s1.log=s.log->s1.leads=s.leads->s1.choice=s.choice->s1.own=s.own->Gl s m (ms,s1):=λms s1 h1 h2 h3 h4=>Gl.of h1 (λh=>by unfold Zz;rw [h2,h3,h4];exact h);unfold getIn;split
 ·unfold asked;split
  ·simp only;split
   ·split
    ·exact Gl.of rfl (λ_=>.inr hf)
    ·exact hid _ _ rfl rfl rfl rfl
   ·exact hid _ _ rfl rfl rfl rfl
  ·exact hid _ _ rfl rfl rfl rfl
 ·split
  ·rename_i hk;unfold voted;split
   ·exact hid _ _ rfl rfl rfl rfl
   ·rename_i hy;simp only [aW,aV,be,not_or,ne_eq,da,i7] at hy;obtain ⟨⟨⟨hy1,hy2⟩,hy3⟩,hy4⟩:=hy;have hz:¬Zz s:=λh=>by
     rcases h with h | h
     ·rw [hy1] at h;cases h
     ·exact h hy3
    simp only;split
    ·have h:=eC (z:=z) (e:=e) { s with votes:=s.votes.set m.frm.toNat true };exact ⟨.inr ⟨hk,hz,.inl h.leads,h.len⟩,λh2=>absurd h2 hz⟩
    ·exact hid _ _ rfl rfl rfl rfl
  ·split
   ·rename_i hk;unfold lays;split
    ·exact hid _ _ rfl rfl rfl rfl
    ·split
     ·exact hid _ _ rfl rfl rfl rfl
     ·simp only;split
      ·obtain ⟨k1,k2⟩:=wv (m.N.getD 1 0).toNat ((m.N.drop 4).zip m.B) 0 { s with ticks:=0 };obtain ⟨h1,h2,h3,h4,h5,h6,_⟩:=iM (m.N.getD 1 0).toNat ((m.N.drop 4).zip m.B) 0 { s with ticks:=0 };have hz:((m.N.drop 4).zip m.B).length<=m.B.length:=by rw [og];omega
       generalize bE (m.N.getD 1 0).toNat ((m.N.drop 4).zip m.B) 0 { s with ticks:=0 }=p at *;have k1:p.2.log.length<=max s.log.length ((m.N.getD 1 0).toNat+0+((m.N.drop 4).zip m.B).length):=k1;have hzz:∀s1:Nd ρ,s1.leads=p.2.leads->s1.choice=p.2.choice->s1.own=p.2.own->Zz s->Zz s1:=λs1 g1 g2 g3 g=>by
        unfold Zz;rw [g1,g2,g3,h5,k2,h1];exact g
       split
       ·obtain ⟨g1,g2,g3,g4,g5,g6,_⟩:=gF (z:=z) p.2 (min (m.N.getD 3 0) (((m.N.getD 1 0).toNat+m.B.length:Nat):Int)).toNat;obtain ⟨a1,_⟩:=ig (z:=z) (s:=p.2) (min (m.N.getD 3 0) (((m.N.getD 1 0).toNat+m.B.length:Nat):Int)).toNat;have a2:(X.agree z p.2 (min (m.N.getD 3 0) (((m.N.getD 1 0).toNat+m.B.length:Nat):Int)).toNat).choice=p.2.choice:=by unfold X.agree;split<;>rfl
        refine ⟨.inl ?_,hzz _ g5 a2 g1⟩;show (X.agree z p.2 _).log.length<=_;rw [a1,ax hk];omega
       ·refine ⟨.inl ?_,hzz _ rfl rfl rfl⟩;show p.2.log.length<=_;rw [ax hk];omega
      ·exact hid _ _ rfl rfl rfl rfl
   ·split
    ·unfold answered;split
     ·exact hid _ _ rfl rfl rfl rfl
     ·simp only;split
      ·split
       ·exact hid _ _ rfl rfl rfl rfl
       ·exact hid _ _ rfl rfl rfl rfl
      ·split
       ·exact hid _ _ rfl rfl rfl rfl
       ·obtain ⟨g1,g2,g3,g4,g5,g6,g7,g8,_⟩:=dt (z:=z) (s:={ s with mat:=s.mat.set m.frm.toNat (m.N.getD 2 0).toNat,next:=s.next.set m.frm.toNat (max (m.N.getD 2 0).toNat (s.next.getD m.frm.toNat 0))});split
        ·exact hid _ _ g8 g5 g7 g1
        ·split
         ·exact hid _ _ g8 g5 g7 g1
         ·exact hid _ _ g8 g5 g7 g1
    ·split
     ·split<;>exact hid _ _ rfl rfl rfl rfl
     ·exact hid _ _ rfl rfl rfl rfl
theorem ma:Gl s m (X.get z e s m):=by
 unfold X.get;split
 ·exact Gl.of rfl id
 ·rename_i hb;have hf:m.frm≠(s.own:Int):=by
   unfold nZ at hb;simp only [aW,aV,be,cH,not_or,ne_eq,da,aR] at hb;exact hb.1.1.1.1.1.2
  split
  ·rename_i ht;have h:=nK (z:=z) (e:=e) (s:=enter s (m.N.getD 0 0) (-1)) hf;have hz:Zz (enter s (m.N.getD 0 0) (-1)):=.inr (by show (-1:Int)≠(s.own:Int);omega);refine ⟨?_,λ_=>h.zz hz⟩;rcases h.len with h1 | ⟨_,h2,_⟩
   ·exact .inl h1
   ·exact absurd hz h2
  ·exact nK hf
theorem o0 (hf:Fit i n m) (hi:s.own=i) (hn:s.n=n) (hm:MI n G m) (hk:m.kind=3) (ht:s.term<=m.N.getD 0 0) (hl:s.leads=false\/s.term<m.N.getD 0 0):(X.get z e s m).2.ticks=0:=by
 obtain ⟨f,_,_,_,_,h3,_⟩:=hm.f;obtain ⟨_,p,a,e2,e3,_,_,e6,_⟩:=h3 hk;have key:∀s1:Nd ρ,s1.term=m.N.getD 0 0->s1.leads=false->(getIn z e s1 m).2.ticks=0:=λs1 h1 h2=>by
  unfold getIn;rw [aw (by omega),aw (by omega),ax hk];unfold lays;rw [aw (by
   simp only [aW,aV,be,ne_eq,aR,bk,cH,h2];rintro ((h1 | h1) | ⟨_,h1⟩)
   ·exact h1 e6
   ·omega
   ·cases h1),aw (by omega)]
  simp only;split
  ·obtain ⟨h1,h2,h3,h4,h5,h6,_⟩:=iM (m.N.getD 1 0).toNat ((m.N.drop 4).zip m.B) 0 { s1 with ticks:=0 };generalize bE (m.N.getD 1 0).toNat ((m.N.drop 4).zip m.B) 0 { s1 with ticks:=0 }=p at *;split
   ·obtain ⟨g1,g2,g3,g4,g5,g6,_⟩:=gF (z:=z) p.2 (min (m.N.getD 3 0) (((m.N.getD 1 0).toNat+m.B.length:Nat):Int)).toNat;exact g6.trans h6
   ·exact h6
  ·rfl
 unfold X.get;rw [hf.ok hi hn];simp only [cD,if_false];split
 ·rename_i h1;exact key _ rfl (fE _ h1)
 ·rename_i h1;refine key s (by omega) ?_;rcases hl with hl | hl
  ·exact hl
  ·omega
theorem wL (h1:s.leads=false) (h2:(X.get z e s m).2.leads=true):∀d,d<s.n->d≠s.own->∃x∈(X.get z e s m).1,x.kind=3/\x.dst=(d:Int)/\x.frm=(s.own:Int)/\x.N.getD 0 0=(X.get z e s m).2.term:=by
 have hin:∀s1:Nd ρ,s1.leads=false->s1.own=s.own->s1.n=s.n->(getIn z e s1 m).2.leads=true->∀d,d<s.n->d≠s.own->∃x∈(getIn z e s1 m).1,x.kind=3/\x.dst=(d:Int)/\x.frm=(s.own:Int)/\x.N.getD 0 0=(getIn z e s1 m).2.term:=λs1 g1 g2 g3=>by
  unfold getIn;split
  ·rename_i hk;intro hl;exfalso;unfold asked at hl;split at hl
   ·simp only at hl;split at hl
    ·split at hl
     ·have hl:(s1.leads && !decide (s1.term<s1.term))=true:=hl;rw [g1] at hl;cases hl
     ·have hl:s1.leads=true:=hl;rw [g1] at hl;cases hl
    ·rw [g1] at hl;cases hl
   ·rw [g1] at hl;cases hl
  ·split
   ·unfold voted;split
    ·intro hl;rw [g1] at hl;cases hl
    ·simp only;split
     ·intro _ d d1 d2;have h:=eC (z:=z) (e:=e) { s1 with votes:=s1.votes.set m.frm.toNat true };refine ⟨bI (lead z e { s1 with votes:=s1.votes.set m.frm.toNat true }).2 d,?_,rfl,rfl,?_,rfl⟩
      ·rw [h.ms];refine eJ _ _ d ?_ ?_
       ·rw [h.n];show d<s1.n;rw [g3];exact d1
       ·rw [h.own];show d≠s1.own;rw [g2];exact d2
      ·show (((lead z e { s1 with votes:=s1.votes.set m.frm.toNat true }).2.own:Nat):Int)=_;rw [h.own];show ((s1.own:Nat):Int)=_;rw [g2]
     ·intro hl;have hl:s1.leads=true:=hl;rw [g1] at hl;cases hl
   ·split
    ·intro hl;exfalso;unfold lays at hl;split at hl
     ·rw [g1] at hl;cases hl
     ·split at hl
      ·rw [g1] at hl;cases hl
      ·simp only at hl;split at hl
       ·obtain ⟨h1,h2,h3,h4,h5,h6,_⟩:=iM (m.N.getD 1 0).toNat ((m.N.drop 4).zip m.B) 0 { s1 with ticks:=0 };generalize bE (m.N.getD 1 0).toNat ((m.N.drop 4).zip m.B) 0 { s1 with ticks:=0 }=p at *;have h5:p.2.leads=s1.leads:=h5;split at hl
        ·obtain ⟨_,_,_,_,g5,_⟩:=gF (z:=z) p.2 (min (m.N.getD 3 0) (((m.N.getD 1 0).toNat+m.B.length:Nat):Int)).toNat;have hl:=g5.symm.trans hl;rw [h5,g1] at hl;cases hl
        ·have hl:p.2.leads=true:=hl;rw [h5,g1] at hl;cases hl
       ·have hl:s1.leads=true:=hl;rw [g1] at hl;cases hl
    ·split
     ·intro hl;exfalso;unfold answered at hl;rw [ax (by simp [g1])] at hl;rw [g1] at hl;cases hl
     ·split
      ·split
       ·intro hl;have hl:s1.leads=true:=hl;rw [g1] at hl;cases hl
       ·intro hl;rw [g1] at hl;cases hl
      ·intro hl;rw [g1] at hl;cases hl
 unfold X.get at h2 ⊢;split at h2
 ·rw [h1] at h2;cases h2
 ·rename_i hb;rw [aw hb];split at h2
  ·rename_i ht;rw [ax ht];exact hin _ (fE _ ht) rfl rfl h2
  ·rename_i ht;rw [aw ht];exact hin _ h1 rfl rfl h2
end
section
variable {ρ:Type} {z:ρ->Bool} {e:ρ}
variable {n i:Nat} {b b' M:Int} {S S' S0:Cs ρ} {G:Gh ρ} {m:Ms ρ} {s:Nd ρ} {r:List (Ms ρ)×Nd ρ} {ms q:List (Ms ρ)}
theorem Ph.ev {I:Cs ρ->Prop} {P:Nd ρ->Prop} {x:Ms ρ} {j:Nat} (h0:Ph z n b M ms S S) (hb:b<=1099511627776) (hM:∀m∈ms,m.N.getD 0 0<=M) (hx:x∈ms) (hd:x.dst=(j:Int)) (hu:S.up j=true) (hI0:I S)
  (hI:∀S' m,Ph z n b M ms S S'->I S'->m∈ms->I (S'.bring z e m)) (he:∀S',Ph z n b M ms S S'->I S'->Got (S'.nd j) x (X.get z e (S'.nd j) x)->P (X.get z e (S'.nd j) x).2)
  (hp:∀(s:Nd ρ) m r,Got s m r->r.2.term<=M->P s->P r.2):P ((S.dl z e ms).nd j):=by
 refine nQ (z:=z) (e:=e) (ms:=ms) (m:=x) (Inv:=λS'=>Ph z n b M ms S S'/\I S') (P:=λS'=>P (S'.nd j)) hx (λS' m hi hm=>⟨(hi.1.take hb hm (hM m hm)).1,hI S' m hi.1 hi.2 hm⟩) (λS' hi=>?_) (λS' m hi hm hP=>?_) ⟨h0,hI0⟩
 ·obtain ⟨g1,i,g2,g3,g4,g5,g6⟩:=hi.1.take (e:=e) hb hx (hM x hx);obtain rfl:i=j:=by omega
  rw [g5 (by rw [hi.1.up];exact hu),bi,ax rfl];exact he S' hi.1 hi.2 g4
 ·obtain ⟨g1,i,g2,g3,g4,g5,g6⟩:=hi.1.take (e:=e) hb hm (hM m hm);cases hu2:S'.up i with
  | false=>rw [g6 hu2];exact hP
  | true =>
   have hub:=g1.ub.nd i (by rw [ie];exact hu2);rw [g5 hu2,bi] at hub ⊢;rw [ax rfl] at hub;split
   ·grind
   ·exact hP
theorem Ph.lead {l:Nat} (h0:Ph z n b M ms S S') (hb:b<=1099511627776) (hm:m∈ms) (hM:m.N.getD 0 0<=M) (hu:S.up l=true) (hl:(S'.nd l).leads=true/\(S'.nd l).term=M):((S'.bring z e m).nd l).leads=true/\((S'.bring z e m).nd l).term=M:=by
 obtain ⟨g1,i,g2,g3,g4,g5,g6⟩:=h0.take (e:=e) hb hm hM;cases hu2:S'.up i with
 | false=>rw [g6 hu2];exact hl
 | true =>
  have hub:=g1.ub.nd l (by rw [ie,h0.up];exact hu);rw [g5 hu2,bi] at hub ⊢;split
  ·grind [g4.up,g4.keeps]
  ·exact hl
theorem lX (S:Cs ρ):∀k,(∃i,i<k/\S.up i=true)->∃y,y<k/\S.up y=true/\∀i,i<k->S.up i=true->(S.nd i).term<=(S.nd y).term:=by
 intro k;induction k with
 | zero=>rintro ⟨i,h,_⟩;omega
 | succ k ih =>
  rintro ⟨i,h1,h2⟩;by_cases hex:∃i,i<k/\S.up i=true
  ·grind
  ·grind
theorem oG (n c:Nat) (g:Nat->Nat) (h1:∀j,j<n->g j<=c) (h2:∀i j,i<n->j<n->g i≠0->g j≠0->i=j):eI n g<=c:=by
 induction n with
 | zero=>exact aA _
 | succ n ih =>
  rw [eY];by_cases h:g n=0
  ·grind
  ·have:eI n g=0:=by
    have:eI n g=eI n λ_=>0:=hO n _ _ λj hj=>by
     grind
    rw [this];have:=kv n 0 (λ_=>0) λ_ _=>ah _;omega
   have:=h1 n (by omega);omega
theorem yU (hw:Wk z n b S) (hn:n<=5) (hld:∀i,S.up i=true->(S.nd i).leads=true->(S.nd i).term=M) {Λ:Nat} (hl:∀i,S.up i=true->(S.nd i).leads=true->(S.nd i).log.length<=Λ):phi n S<=2*S.q.length+22*Λ/\psi n S<=S.q.length+3*Λ:=by
 obtain ⟨G,hG⟩:=hw;have hu:∀i j,i<n->j<n->(S.up i&&(S.nd i).leads)=true->(S.up j&&(S.nd j).leads)=true->i=j:=λi j hi hj h1 h2=>by
  grind [hG.one]
 constructor
 ·unfold phi;have h1:=(yd S.q).1;have h2:eI n (λi=>if (S.up i&&(S.nd i).leads)=true then pot (S.nd i) else 0)<=22*Λ:=by
   refine oG n _ _ (λj hj=>?_) (λi j hi hj h1 h2=>hu i j hi hj ?_ ?_)
   ·split
    ·rename_i h;rw [bk] at h;have hni:=hG.ni j hj;have:=Cn (S.nd j) (hni.next h.2) (by rw [hni.nn];exact hn) (by rw [hni.own,hni.nn];exact hj);have:=hl j h.1 h.2;omega
    ·exact aA _
   ·grind
   ·grind
  omega
 ·unfold psi;have h2:eI n (λi=>if (S.up i&&(S.nd i).leads)=true then 3*((S.nd i).log.length - (S.nd i).agreed) else 0)<=3*Λ:=by
   refine oG n _ _ (λj hj=>?_) (λi j hi hj h1 h2=>hu i j hi hj ?_ ?_)
   ·grind
   ·grind
   ·grind
  omega
structure Lead (M:Int) (S:Cs ρ) (l:Nat):Prop where
 up:S.up l=true
 leads:(S.nd l).leads=true
 term:(S.nd l).term=M
 oth:∀j,S.up j=true->j≠l->(S.nd j).term=M/\(S.nd j).ticks=0/\(S.nd j).leads=false
theorem P3.lead {l:Nat} (h:P3 z n b M S) (hn:n<=5) (hb:b<=1099511627776) (hl:S.up l=true/\(S.nd l).leads=true) (hj:∀j,S.up j=true->j≠l->((S.nd j).term=M/\(S.nd j).ticks=0)\/∃x∈S.q,x.kind=3/\x.dst=(j:Int)/\x.N.getD 0 0=M) (k:Nat) (hk:phi n S<=k):Lead M (Cs.drain z e k S) l:=by
 obtain ⟨a1,a2,a3,a4,_⟩:=P3.end_ (z:=z) (e:=e) (Inv:=λS'=>S'.up l=true/\(S'.nd l).leads=true/\∀j,S'.up j=true->j≠l->((S'.nd j).term=M/\(S'.nd j).ticks=0)\/∃x∈S'.q,x.kind=3/\x.dst=(j:Int)/\x.N.getD 0 0=M) hn hb (λS' m q p hi hq st=>by
  obtain ⟨i1,i2,i3⟩:=hi;have kp:=st.kp;refine ⟨by rw [kp.up];exact i1,(kp.lead l i1 i2).1,λj hju hjl=>?_⟩;rw [kp.up] at hju;obtain ⟨i,c1,c2,c3,c4,c5⟩:=st.cut;have keep:(S'.nd j).term=M/\(S'.nd j).ticks=0->(((S'.wq q).bring z e m).nd j).term=M/\(((S'.wq q).bring z e m).nd j).ticks=0:=λhh=>by
   have h1:=kp.term j;have h2:=st.p.ub.nd j (by rw [kp.up];exact hju);refine ⟨by omega,?_⟩;rcases kp.ticks j with h3 | h3
   ·rw [h3];exact hh.2
   ·exact h3
  rcases i3 j hju hjl with hh | ⟨x,x1,x2,x3,x4⟩
  ·exact .inl (keep hh)
  ·by_cases hxm:x=m
   ·subst hxm;left;obtain rfl:i=j:=by omega
    rw [c4 hju,bi,ax rfl];obtain ⟨G,hG⟩:=p.wk;obtain ⟨mi,fm⟩:=hG.mi x x1;have hMp:1<=M:=by
     have:=(hG.gi.led _ _ ((hG.ni l (hG.up l i1)).lds i2).1).2;rw [p.ld l i1 i2] at this;exact this
    obtain ⟨i5,_,e5,_,hfit⟩:=fm.fit hb (by omega);obtain rfl:i5=i:=by omega
    have hni:=hG.ni i5 c1;have hti:=p.ub.nd i5 hju;have h1:=c3.reach;have h2:=c3.top;refine ⟨by omega,o0 (z:=z) (e:=e) hfit hni.own hni.nn mi x2 (by omega) ?_⟩;cases hle:(S'.nd i5).leads with
    | false=>exact .inl rfl
    | true =>
     exact absurd (hG.one c1 (hG.up l i1) hle i2 ((p.ld i5 hju hle).trans (p.ld l i1 i2).symm)) hjl
   ·right;rw [hq] at x1;have hx:x∈q:=by
     grind
    cases hu:S'.up i with
    | false=>rw [c5 hu];exact ⟨x,hx,x2,x3,x4⟩
    | true=>rw [c4 hu];exact ⟨x,aD _ hx,x2,x3,x4⟩) k S h ⟨hl.1,hl.2,hj⟩ hk
 obtain ⟨b1,b2,b3⟩:=a4;refine ⟨b1,b2,a1.ld l b1 b2,λj hju hjl=>?_⟩;rcases b3 j hju hjl with hh | ⟨x,x1,_⟩
 ·refine ⟨hh.1,hh.2,?_⟩;cases hle:((Cs.drain z e k S).nd j).leads with
  | false=>rfl
  | true =>
   obtain ⟨G,hG⟩:=a1.wk;exact absurd (hG.one (hG.up j hju) (hG.up l b1) hle b2 ((a1.ld j hju hle).trans (a1.ld l b1 b2).symm)) hjl
 ·rw [a2] at x1;cases x1
end
end Go.Proofs.Ytnicaicjgaoolaa.X
