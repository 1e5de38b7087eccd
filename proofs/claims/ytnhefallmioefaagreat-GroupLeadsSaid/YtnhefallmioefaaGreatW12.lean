/- What the law leans on. No condition. -/
import Derived.Test.YtnhefallmioefaaGreatW0
import Derived.Test.YtnhefallmioefaaGreatW1
import Derived.Test.YtnhefallmioefaaGreatW11
set_option maxHeartbeats 8000000
set_option linter.unusedVariables false
set_option linter.unusedSimpArgs false
namespace Go.Proofs.YtnhefallmioefaaGreat.X
section
variable {ρ:Type} {z:ρ->Bool} {e:ρ}
variable {n i:Nat} {b b' M:Int} {S S':Cs ρ} {G:Gh ρ} {m:Ms ρ} {s:Nd ρ} {r:List (Ms ρ)×Nd ρ} {ms q:List (Ms ρ)}
def Cs.wq (S:Cs ρ) (q:List (Ms ρ)):Cs ρ:=⟨S.nd,S.up,q,S.lo⟩
theorem kJ (hk:m.kind=4) (hN:m.N.getD 0 0<=s.Ow) (hb:kQ s m=false):X.get z e s m=answered z s m:=by
 unfold X.get;rw [hb];simp only [bk,if_false];rw [am az];unfold OJ;rw [am az,am az,am az,ay hk]
structure St3 (z:ρ->Bool) (e:ρ) (n:Nat) (b M:Int) (S:Cs ρ) (m:Ms ρ) (q:List (Ms ρ)) (S':Cs ρ):Prop where
 p:P3 z n b M S'
 Ul:Ul n S'+1<=Ul n S
 WH:WH n S'<=WH n S
 kp:Kp S S'
 cut:∃i,i<n/\m.dst=(i:Int)/\QM (S.nd i) m (X.get z e (S.nd i) m)/\(S.up i=true->S'=(S.wq q).call i (X.get z e (S.nd i) m))/\(S.up i=false->S'=S.wq q)
theorem P3.step (h:P3 z n b M S) (hn:n<=5) (hb:b<=1099511627776) (hq:S.q=m::q):St3 z e n b M S m q ((S.wq q).bring z e m):=by
 have Sj:m∈S.q:=Bl;have O1:∀x∈q,x∈S.q:=λx hx=>yg;obtain ⟨G,hG⟩:=h.wk;have hwm:UL z [m] n b (S.wq q):=⟨G,⟨hG.gi,hG.ni,hG.ln,λx hx=>hG.mi x (O1 x hx),hG.up,hG.tb,hG.lo⟩,λx hx=>by rw [aj.1 hx];exact hG.mi m Sj⟩
 obtain ⟨hwk',i,hi,TK,Qe,QW,P5⟩:=hwm.take (e:=e) hb bd;have Qe:QM (S.nd i) m (X.get z e (S.nd i) m):=Qe;have hmM:=h.ub.q m Sj;have hphi0:Ul n (S.wq q)+wm m=Ul n S:=by unfold Ul;rw [hq,tC];show X.wq q+_+wm m=_;unfold Cs.wq;simp only;omega
 have hpsi0:WH n (S.wq q)+1=WH n S:=by unfold WH;rw [hq,aX];unfold Cs.wq;simp only;omega
 obtain ⟨mi,fm⟩:=hG.mi m Sj;obtain ⟨i2,f,_,hf,Yb,PJ,hfrm⟩:=fm.f;obtain rfl:i2=i:=az;have hfn:m.OD.toNat=f:=az;cases hu:S.up i2 with
 | false =>
  have e1:(S.wq q).bring z e m=S.wq q:=P5 hu;rw [e1];refine ⟨⟨by rw [<-e1];exact hwk'.wk,⟨h.ub.nd,λx hx=>h.ub.q x (O1 x hx)⟩,λx hx=>h.kd x (O1 x hx),h.ld,λx hx=>h.fr x (O1 x hx),λj h1 h2=>?_,λx hx=>h.fb x (O1 x hx)⟩,?_,by omega,⟨rfl,λ_ _ g=>⟨g,rfl,rfl,ah _⟩,λ_ g=>g,λ_=>aP _,λ_=>.inl rfl,λ_=>rfl,λ_ _=>rfl⟩,i2,hi,TK,Qe,λPN=>(by rw [hu] at PN;cases PN),λ_=>rfl⟩
  ·have:=h.fa j h1 h2;rw [hq] at this;exact (List.pairwise_cons.1 this).2
  ·have:=(II m).2;omega
 | true =>
  have e1:(S.wq q).bring z e m=(S.wq q).call i2 (X.get z e (S.nd i2) m):=QW hu;rw [e1] at hwk' ⊢;have OP:=hG.ni i2 hi;have Pr:=hG.ln i2 hi;have hubi:=h.ub.nd i2 hu;generalize hr:X.get z e (S.nd i2) m=r at *;have hk34:=h.kd m Sj;have PO:∀j,((S.wq q).call i2 r).nd j=if j=i2 then r.2 else S.nd j:=λj=>rfl
  have hqq:((S.wq q).call i2 r).q=q++r.1:=rfl;have hub':UB M ((S.wq q).call i2 r):=UB.take (S:=S.wq q) ⟨h.ub.nd,λx hx=>h.ub.q x (O1 x hx)⟩ hmM hu Qe;have PD:r.2.Oy=true->(S.nd i2).Oy=true/\r.2.Ow=(S.nd i2).Ow:=λhl=>by
   grind [Qe.Oy]
  have fin:∀(Pz:(S.nd i2).Oy=true->r.2.Oy=true/\r.2.Oz=(S.nd i2).Oz/\r.2.Ow=(S.nd i2).Ow/\(S.nd i2).agreed<=r.2.agreed)
    (hp:X.wq r.1+(if r.2.Oy=true then RA r.2 else 0)+1<=wm m+(if (S.nd i2).Oy=true then RA (S.nd i2) else 0))
    (hs:r.1.length+(if r.2.Oy=true then 3*(r.2.Oz.length - r.2.agreed) else 0)<=1+(if (S.nd i2).Oy=true then 3*((S.nd i2).Oz.length - (S.nd i2).agreed) else 0))
    (hkd:∀x∈r.1,x.kind=3\/(x.kind=4/\x.N.length=3/\0<=x.N.getD 2 0))
    (T7:∀x∈r.1,x.kind=3->∀j:Nat,S.up j=true->(((S.wq q).call i2 r).nd j).Oy=true->x.OD=(j:Int)->x.N.getD 0 0=M)
    (hfa:∀j,S.up j=true->(((S.wq q).call i2 r).nd j).Oy=true->(q++r.1).Pairwise (Rf j M))
    (WU:∀x∈q++r.1,x.kind=4->x.N.getD 1 0=0->x.N.getD 0 0=M->∀j f:Nat,S.up j=true->(((S.wq q).call i2 r).nd j).Oy=true->x.dst=(j:Int)->x.OD=(f:Int)->(((((S.wq q).call i2 r).nd j).OE.getD f 0:Nat):Int)<=x.N.getD 2 0),
    St3 z e n b M S m q ((S.wq q).call i2 r):=λPz hp hs hkd T7 hfa WU=>by
   refine ⟨⟨hwk'.wk,hub',λx hx=>?_,λj h1 h2=>?_,λx hx hk j h1 h2 h3=>?_,hfa,WU⟩,?_,?_,⟨rfl,λj h1 h2=>?_,λj h1=>?_,λj=>?_,λj=>?_,λj=>?_,λj h1=>?_⟩,i2,hi,TK,hr ▸ Qe,λ_=>by rw [hr],λPN=>(by rw [hu] at PN;cases PN)⟩
   ·grind [h.kd]
   ·rw [PO] at h2 ⊢;by_cases e2:j=i2
    ·grind [h.ld]
    ·rw [am e2] at h2 ⊢;exact h.ld j h1 h2
   ·rw [hqq] at hx;rcases aA.1 hx with hx | hx
    ·refine h.fr x (O1 x hx) hk j h1 ?_ h3;rw [PO] at h2;by_cases e2:j=i2
     ·grind
     ·rw [am e2] at h2;exact h2
    ·exact T7 x hx hk j h1 h2 h3
   ·have:=DA (S.wq q) i2 hi r hu (wm m) hp;omega
   ·have:=Dx (S.wq q) i2 hi r hu hs;omega
   ·grind
   ·grind
   ·grind [Qe.up]
   ·grind [Qe.Ox]
   ·grind [Qe.OA]
   ·grind
  have qfa:∀j,S.up j=true->(((S.wq q).call i2 r).nd j).Oy=true->q.Pairwise (Rf j M)/\∀x∈q,Rf j M m x:=λj h1 h2=>by
   have h3:(S.nd j).Oy=true:=by
    grind
   have:=h.fa j h1 h3;rw [hq] at this;exact ⟨(List.pairwise_cons.1 this).2,(List.pairwise_cons.1 this).1⟩
  cases P9:(S.nd i2).Oy with
  | true =>
   have hMi:=h.ld i2 hu P9;have PL:∀j,S.up j=true->(((S.wq q).call i2 r).nd j).Oy=true->j=i2:=λj h1 h2=>by
    by_cases e2:j=i2
    ·exact e2
    ·rw [PO,am e2] at h2;exact hG.one (hG.up j h1) hi h2 P9 (by rw [h.ld j h1 h2,hMi])
   rcases hk34 with hk | ⟨hk,Ye,Wc⟩
   ·-- another one's: nothing
    have hs:r.2=S.nd i2:=by rw [<-hr];exact qZ hk P9 az
    have Vc:r.1.length<=1:=by
     grind [Qe.num]
    have hk4:∀x∈r.1,x.kind=4/\x.dst=m.OD:=λx hx=>by
     obtain ⟨_,_,_,o,_⟩:=Qe.out x hx;rcases o with o | o | o | o
     ·omega
     ·omega
     ·exact ⟨o.2.1,o.2.2⟩
     ·omega
    have hout:∀x∈r.1,x.N.length=3/\0<=x.N.getD 2 0:=λx hx=>vY hk x (by rw [hr];exact hx);have hwq:X.wq r.1<=1:=MQ;have hwm2:wm m=2:=by unfold wm;rw [ay hk]
    refine fin (λg=>⟨by rw [hs];exact g,by rw [hs],by rw [hs],by rw [hs];exact ah _⟩) (by rw [hs];omega) (by rw [hs];omega) (λx hx=>.inr ⟨(hk4 x hx).1,hout x hx⟩) (λx hx hk3=>by have:=(hk4 x hx).1;omega) (λj h1 h2=>?_) (λx hx YT h1 h2 j f' h3 h4 h5 h6=>?_)
    ·obtain rfl:=PL j h1 h2;refine List.pairwise_append.2 ⟨(qfa j h1 h2).1,?_,λa ha x hx _ _ _ _ _ h5=>?_⟩
     ·exact MC
     ·have:=(hk4 x hx).2;omega
    ·obtain rfl:=PL j h3 h4;rcases aA.1 hx with hx | hx
     ·rw [PO,ay rfl,hs];exact h.fb x (O1 x hx) YT h1 h2 j f' hu P9 h5 h6
     ·have:=(hk4 x hx).2;omega
   ·-- an answer to it
    by_cases h1t:1<=m.N.getD 0 0
    ·obtain ⟨i3,_,e3,_,O0⟩:=fm.fit hb h1t;obtain rfl:i3=i2:=az;have X0:r=answered z (S.nd i3) m:=by rw [<-hr];exact kJ hk az (O0.ok OP.own OP.nn)
     have R7:=uF (z:=z) (m:=m) Pr OP P9 hn (by rw [hfn];exact ⟨hf,Yb⟩) (λa1 a2 a3 a4=>by
      have:=h.fb m Sj hk a3 (by rw [a1,hMi]) i3 f hu P9 TK hfrm;rw [hfn];exact this)
     rw [<-X0] at R7;have hwm1:wm m=1:=KP;have hk3:∀x∈r.1,x.kind=3:=λx hx=>by
      obtain ⟨_,_,_,o,_⟩:=Qe.out x hx;rcases o with o | o | o | o
      ·omega
      ·omega
      ·omega
      ·exact o.2
     have hap:=R7.RA;have hanum:=R7.num;refine fin (λ_=>⟨R7.Oy,R7.Oz,R7.Ow,R7.ag⟩) (by rw [ay R7.Oy,ay P9];omega) (by rw [ay R7.Oy,ay P9];omega) (λx hx=>.inl (hk3 x hx)) (λx hx _ j h1 h2 h3=>by
      obtain ⟨_,o2,_⟩:=Qe.out x hx;rw [o2,R7.Ow,hMi]) (λj h1 h2=>?_) (λx hx YT h1 h2 j f' h3 h4 h5 h6=>?_)
     ·refine List.pairwise_append.2 ⟨(qfa j h1 h2).1,?_,λa ha x hx _ _ _ _ h5=>?_⟩
      ·refine List.Pairwise.imp_of_mem (R:=λ_ _=>True) (λ{a b} ha hb' _ h5=>?_) (List.pairwise_of_forall (λ_ _=>trivial));have:=hk3 a ha;omega
      ·have:=hk3 x hx;omega
     ·rcases aA.1 hx with hx | hx
      ·obtain rfl:=PL j h3 h4;rw [PO,ay rfl];have hold:=h.fb x (O1 x hx) YT h1 h2 j f' hu P9 h5 h6;by_cases R5:f'=(S.nd j).own
       ·exfalso;obtain ⟨i4,f4,_,_,c3,c4,c5⟩:=(hG.mi x (O1 x hx)).2.f;have:=OP.own;omega
       ·rcases oD (z:=z) (m:=m) (s:=S.nd j) Pr.ml (by rw [hfn,OP.nn];exact hf) f' R5 p8 with g | ⟨g1,g2,g3,g4⟩
        ·rw [X0,g];exact hold
        ·rw [X0,g4];by_cases TS:m.N.getD 0 0=M
         ·have:=(qfa j h3 h4).2 x hx hk TK TS g2 YT h5 h2 h1 az;omega
         ·-- it was not heeded
          have:answered z (S.nd j) m=([],S.nd j):=by
           unfold answered;rw [ay];simp only [bi,bb,bq,ne_eq];exact .inl (.inl (.inl (.inr (by rw [hMi];exact TS))))
          rw [this] at g4;rw [<-g4];exact hold
      ·have:=hk3 x hx;omega
    ·-- of no term
     have X0:r=([],S.nd i2):=by rw [<-hr];exact ox az
     have hwm1:wm m=1:=KP;subst X0;refine fin (λg=>⟨g,rfl,rfl,ah _⟩) (by rw [qq,hwm1];simp only;omega) (by simp only [fp];omega) (λx hx=>by cases hx) (λx hx=>by cases hx) (λj h1 h2=>by rw [dq];exact (qfa j h1 h2).1) (λx hx YT h1 h2 j f' h3 h4 h5 h6=>?_);rw [dq] at hx;obtain rfl:=PL j h3 h4;rw [PO,ay rfl];exact h.fb x (O1 x hx) YT h1 h2 j f' hu P9 h5 h6
  | false =>
   have hnl2:r.2.Oy=false:=by
    grind
   have Q3:∀j,(((S.wq q).call i2 r).nd j).Oy=true->j≠i2/\((S.wq q).call i2 r).nd j=S.nd j/\(S.nd j).Oy=true:=λj h2=>by
    grind
   rcases hk34 with hk | ⟨hk,Ye,Wc⟩
   ·have Vc:r.1.length<=1:=by
     grind [Qe.num]
    have hk4:∀x∈r.1,x.kind=4/\x.dst=m.OD/\x.OD=(i2:Int)/\x.N.getD 0 0=r.2.Ow:=λx hx=>by
     obtain ⟨o1,o2,_,o,_⟩:=Qe.out x hx;rcases o with o | o | o | o
     ·omega
     ·omega
     ·grind [OP.own]
     ·omega
    have hout:∀x∈r.1,x.N.length=3/\0<=x.N.getD 2 0:=λx hx=>vY hk x (by rw [hr];exact hx);have hwq:X.wq r.1<=1:=MQ;have hwm2:wm m=2:=by unfold wm;rw [ay hk]
    have Qv:∀x∈r.1,x.N.getD 1 0=0->∀j:Nat,S.up j=true->(S.nd j).Oy=true->x.dst=(j:Int)->∀k,G.Qx i2 M k->(k:Int)<=x.N.getD 2 0:=λx hx h0 j h1 h2 h3 k UI=>by
     have hmM2:m.N.getD 0 0=M:=h.fr m Sj hk j h1 h2 (by rw [<-(hk4 x hx).2.1];exact h3);have hMp:1<=M:=by
      have:=(hG.gi.O7 _ _ ((hG.ni j (hG.up j h1)).UC h2).1).2;rw [h.ld j h1 h2] at this;exact this
     obtain ⟨i3,_,e3,_,O0⟩:=fm.fit hb az;obtain rfl:i3=i2:=az;exact zU (z:=z) (e:=e) hG.gi OP mi O0 hk (.inl P9) az x (by rw [hr];exact hx) h0 k (by rw [hmM2];exact UI)
    refine fin (λg=>by rw [P9] at g;cases g) Nj Nj (λx hx=>.inr ⟨(hk4 x hx).1,hout x hx⟩) (λx hx hk3=>by have:=(hk4 x hx).1;omega) (λj h1 h2=>?_) (λx hx YT h1 h2 j f' h3 h4 h5 h6=>?_)
    ·obtain ⟨s1,s2,s3⟩:=Q3 j h2;refine List.pairwise_append.2 ⟨(qfa j h1 h2).1,?_,λa ha x hx a1 a2 a3 a4 _ a6 a7 a8 a9=>?_⟩
     ·exact MC
     ·have hkda:=h.kd a (O1 a ha);have hkda:a.N.length=3/\0<=a.N.getD 2 0:=by
       omega
      obtain ⟨fa,_,c2,_,_,_,c6⟩:=(hG.mi a (O1 a ha)).1.f;have UI:=c6 a1 hkda.1 a4 hkda.2;rw [a3] at UI;have:fa=i2:=by have:=(hk4 x hx).2.2.1;omega
      subst this;have:=Qv x hx a8 j h1 s3 a6 _ UI;omega
    ·obtain ⟨s1,s2,s3⟩:=Q3 j h4;rw [s2];rcases aA.1 hx with hx | hx
     ·exact h.fb x (O1 x hx) YT h1 h2 j f' h3 s3 h5 h6
     ·by_cases WR:(S.nd j).OE.getD f' 0=0
      ·grind
      ·have hf':f'=i2:=by have:=(hk4 x hx).2.2.1;omega
       subst hf';have hnj:=hG.ni j (hG.up j h3);have UI:=hnj.OE s3 f' hi (F5 s1) WR;rw [h.ld j h3 s3] at UI;exact Qv x hx h1 j h3 s3 h5 _ UI
   ·-- an answer to one that leads no more
    have hr1:r.1=[]:=by
     rw [dg];intro x hx;obtain ⟨_,_,_,o,o5⟩:=Qe.out x hx;have:x.kind=3:=by
      omega
     have:=o5 this;rw [hnl2] at this;cases this
    have hwm1:wm m=1:=KP;refine fin (λg=>by rw [P9] at g;cases g) (by rw [hr1,qq,hnl2,P9,hwm1];simp) (by rw [hr1,hnl2,P9];simp) (λx hx=>by rw [hr1] at hx;cases hx) (λx hx=>by rw [hr1] at hx;cases hx) (λj h1 h2=>by rw [hr1,dq];exact (qfa j h1 h2).1) (λx hx YT h1 h2 j f' h3 h4 h5 h6=>?_);rw [hr1,dq] at hx;obtain ⟨s1,s2,s3⟩:=Q3 j h4;rw [s2];exact h.fb x (O1 x hx) YT h1 h2 j f' h3 s3 h5 h6
end
section
variable {ρ:Type} {z:ρ->Bool} {e:ρ}
variable {n i:Nat} {b b' M:Int} {S S':Cs ρ} {G:Gh ρ} {m:Ms ρ} {s:Nd ρ} {r:List (Ms ρ)×Nd ρ} {ms q:List (Ms ρ)}
theorem eO (k:Nat) (h:S.q=[]):Cs.drain z e k S=S:=by
 cases k with
 | zero=>rfl
 | succ k=>unfold Cs.drain;rw [h]
theorem fo (k:Nat) (h:S.q=m::q):Cs.drain z e (k+1) S=Cs.drain z e k ((S.wq q).bring z e m):=by
 conv=>lhs;unfold Cs.drain
 rw [h];rfl
theorem P3.end_ {Inv:Cs ρ->Prop} (hn:n<=5) (hb:b<=1099511627776) (hs:∀S m q,P3 z n b M S->Inv S->S.q=m::q->St3 z e n b M S m q ((S.wq q).bring z e m)->Inv ((S.wq q).bring z e m)):∀(k:Nat) (S:Cs ρ),P3 z n b M S->Inv S->Ul n S<=k->P3 z n b M (Cs.drain z e k S)/\(Cs.drain z e k S).q=[]/\Kp S (Cs.drain z e k S)/\Inv (Cs.drain z e k S)/\∀j,(Cs.drain z e j S).q.length<=WH n S:=by
 intro k;induction k with
 | zero =>
  intro S h hi hk;have hq:S.q=[]:=by
   cases hq:S.q with
   | nil=>rfl
   | cons m q =>
    have:=(CP S.q).2;rw [hq,aX] at this;unfold Ul at hk;rw [hq] at hk;omega
  exact Jx
 | succ k ih =>
  intro S h hi hk;cases hq:S.q with
  | nil =>
   rw [eO _ hq];exact Jx
  | cons m q =>
   have st:=h.step (e:=e) hn hb hq;rw [fo k hq];have hp:=st.Ul;obtain ⟨a1,a2,a3,a4,a5⟩:=ih _ st.p (hs S m q h hi hq st) az;refine ⟨a1,a2,st.kp.trans a3,a4,λj=>?_⟩;cases j with
   | zero =>
    show S.q.length<=_;unfold WH;omega
   | succ j =>
    rw [fo j hq];exact aF (a5 j) st.WH
def Zz (s:Nd ρ):Prop:=s.Oy=true\/s.OC≠(s.own:Int)
theorem BA (p:Nat) (l:List (Int×ρ)):∀(j:Nat) (s:Nd ρ),(bH p l j s).2.Oz.length<=max s.Oz.length (p+j+l.length)/\(bH p l j s).2.OC=s.OC:=by
 induction l with
 | nil=>intro j s;exact ⟨by show s.Oz.length<=_;omega,rfl⟩
 | cons x l ih =>
  intro j s;obtain ⟨t,rec⟩:=x;unfold bH;rw [aX];split
  ·have:=ih (j+1) s;exact ⟨by omega,this.2⟩
  ·split
   ·exact ⟨by show s.Oz.length<=_;omega,rfl⟩
   ·have:=ih (j+1) (place s (p+j) (t,rec));have e1:(place s (p+j) (t,rec)).Oz.length<=p+j+1:=by
     show (s.Oz.take (p+j)++[(t,rec)]).length<=_;rw [aE,aQ];simp;omega
    exact ⟨by omega,this.2⟩
structure Gl (s:Nd ρ) (m:Ms ρ) (r:List (Ms ρ)×Nd ρ):Prop where
 len:r.2.Oz.length<=max s.Oz.length (if m.kind=3 then (m.N.getD 1 0).toNat+m.B.length else 0)\/(m.kind=2/\¬Zz s/\Zz r.2/\r.2.Oz.length=s.Oz.length+1)
 zz:Zz s->Zz r.2
theorem Gl.of {ms:List (Ms ρ)} {s1:Nd ρ} (h1:s1.Oz=s.Oz) (h2:Zz s->Zz s1):Gl s m (ms,s1):=⟨.inl (by show s1.Oz.length<=_;rw [h1];exact Nat.le_max_left _ _),h2⟩
theorem wJ (hf:m.OD≠(s.own:Int)):Gl s m (OJ z e s m):=by
 have hid:∀(ms:List (Ms ρ)) (s1:Nd ρ),s1.Oz=s.Oz->s1.Oy=s.Oy->s1.OC=s.OC->s1.own=s.own->Gl s m (ms,s1):=λms s1 h1 h2 h3 h4=>Gl.of h1 (λh=>by unfold Zz;rw [h2,h3,h4];exact h);unfold OJ;split
 ·unfold asked;split
  ·simp only;split
   ·split
    ·exact Gl.of rfl (λ_=>.inr hf)
    ·exact pg
   ·exact pg
  ·exact pg
 ·split
  ·rename_i hk;unfold O4;split
   ·exact pg
   ·rename_i hy;simp only [bi,bb,bq,not_or,ne_eq,dJ,gp] at hy;obtain ⟨⟨⟨TE,UD⟩,U9⟩,TZ⟩:=hy;have hz:¬Zz s:=λh=>IP;simp only;split
    ·have h:=ee (z:=z) (e:=e) { s with OB:=s.OB.set m.OD.toNat true };exact ⟨.inr ⟨hk,hz,.inl h.Oy,h.len⟩,λh2=>absurd h2 hz⟩
    ·exact pg
  ·split
   ·rename_i hk;unfold lays;split
    ·exact pg
    ·split
     ·exact pg
     ·simp only;split
      ·obtain ⟨k1,k2⟩:=BA (m.N.getD 1 0).toNat ((m.N.drop 4).zip m.B) 0 { s with Ox:=0 };obtain ⟨h1,h2,h3,h4,h5,h6,_⟩:=iJ (m.N.getD 1 0).toNat ((m.N.drop 4).zip m.B) 0 { s with Ox:=0 };have hz:((m.N.drop 4).zip m.B).length<=m.B.length:=G9;generalize bH (m.N.getD 1 0).toNat ((m.N.drop 4).zip m.B) 0 { s with Ox:=0 }=p at *;have k1:p.2.Oz.length<=max s.Oz.length ((m.N.getD 1 0).toNat+0+((m.N.drop 4).zip m.B).length):=k1;have hzz:∀s1:Nd ρ,s1.Oy=p.2.Oy->s1.OC=p.2.OC->s1.own=p.2.own->Zz s->Zz s1:=λs1 g1 g2 g3 g=>by
        unfold Zz;rw [g1,g2,g3,h5,k2,h1];exact g
       split
       ·obtain ⟨g1,g2,g3,g4,g5,g6,_⟩:=gE (z:=z) p.2 (min (m.N.getD 3 0) (((m.N.getD 1 0).toNat+m.B.length:Nat):Int)).toNat;obtain ⟨a1,_⟩:=jr (z:=z) (s:=p.2) (min (m.N.getD 3 0) (((m.N.getD 1 0).toNat+m.B.length:Nat):Int)).toNat;have a2:(X.agree z p.2 (min (m.N.getD 3 0) (((m.N.getD 1 0).toNat+m.B.length:Nat):Int)).toNat).OC=p.2.OC:=Hb;refine ⟨.inl ?_,hzz _ g5 a2 g1⟩;rw [a1,ay hk];omega
       ·refine ⟨.inl ?_,hzz _ rfl rfl rfl⟩;show p.2.Oz.length<=_;rw [ay hk];omega
      ·exact pg
   ·split
    ·unfold answered;split
     ·exact pg
     ·simp only;split
      ·split
       ·exact pg
       ·exact pg
      ·split
       ·exact pg
       ·obtain ⟨g1,g2,g3,g4,g5,g6,g7,g8,_⟩:=df (z:=z) (s:={ s with OE:=s.OE.set m.OD.toNat (m.N.getD 2 0).toNat,next:=s.next.set m.OD.toNat (max (m.N.getD 2 0).toNat (s.next.getD m.OD.toNat 0))});split
        ·exact hid _ _ g8 g5 g7 g1
        ·split
         ·exact hid _ _ g8 g5 g7 g1
         ·exact hid _ _ g8 g5 g7 g1
    ·split
     ·split<;>exact hid _ _ rfl rfl rfl rfl
     ·exact pg
theorem na:Gl s m (X.get z e s m):=by
 unfold X.get;split
 ·exact Gl.of rfl id
 ·rename_i hb;have hf:m.OD≠(s.own:Int):=by
   unfold kQ at hb;simp only [bi,bb,bq,cE,not_or,ne_eq,dJ,aZ] at hb;exact hb.1.1.1.1.1.2
  split
  ·have h:=wJ (z:=z) (e:=e) (s:=enter s (m.N.getD 0 0) (-1)) hf;have hz:Zz (enter s (m.N.getD 0 0) (-1)):=.inr (by show (-1:Int)≠(s.own:Int);omega);refine ⟨?_,λ_=>h.zz hz⟩;rcases h.len with h1 | ⟨_,h2,_⟩
   ·exact .inl h1
   ·exact absurd hz h2
  ·exact wJ hf
theorem sS (hf:Fit i n m) (hi:s.own=i) (hn:s.n=n) (hm:MI n G m) (hk:m.kind=3) (ht:s.Ow<=m.N.getD 0 0) (hl:s.Oy=false\/s.Ow<m.N.getD 0 0):(X.get z e s m).2.Ox=0:=by
 obtain ⟨f,_,_,_,_,h3,_⟩:=hm.f;obtain ⟨_,p,a,e2,e3,_,_,e6,_⟩:=h3 hk;have key:∀s1:Nd ρ,s1.Ow=m.N.getD 0 0->s1.Oy=false->(OJ z e s1 m).2.Ox=0:=λs1 h1 h2=>by
  unfold OJ;rw [am az,am az,ay hk];unfold lays;rw [am (by
   simp only [bi,bb,bq,ne_eq,aZ,bu,cE,h2];rintro ((h1 | h1) | ⟨_,h1⟩)
   ·exact h1 e6
   ·omega
   ·cases h1),am az]
  simp only;split
  ·obtain ⟨h1,h2,h3,h4,h5,h6,_⟩:=iJ (m.N.getD 1 0).toNat ((m.N.drop 4).zip m.B) 0 { s1 with Ox:=0 };generalize bH (m.N.getD 1 0).toNat ((m.N.drop 4).zip m.B) 0 { s1 with Ox:=0 }=p at *;split
   ·obtain ⟨g1,g2,g3,g4,g5,g6,_⟩:=gE (z:=z) p.2 (min (m.N.getD 3 0) (((m.N.getD 1 0).toNat+m.B.length:Nat):Int)).toNat;exact g6.trans h6
   ·exact h6
  ·rfl
 unfold X.get;rw [hf.ok hi hn];simp only [bk,if_false];split
 ·rename_i h1;exact key _ rfl (fO _ h1)
 ·rename_i h1;refine key s az ?_;rcases hl with hl | hl
  ·exact hl
  ·omega
theorem BZ (h1:s.Oy=false) (h2:(X.get z e s m).2.Oy=true):∀d,d<s.n->d≠s.own->∃x∈(X.get z e s m).1,x.kind=3/\x.dst=(d:Int)/\x.OD=(s.own:Int)/\x.N.getD 0 0=(X.get z e s m).2.Ow:=by
 have O9:∀s1:Nd ρ,s1.Oy=false->s1.own=s.own->s1.n=s.n->(OJ z e s1 m).2.Oy=true->∀d,d<s.n->d≠s.own->∃x∈(OJ z e s1 m).1,x.kind=3/\x.dst=(d:Int)/\x.OD=(s.own:Int)/\x.N.getD 0 0=(OJ z e s1 m).2.Ow:=λs1 g1 g2 g3=>by
  unfold OJ;split
  ·intro hl;exfalso;unfold asked at hl;split at hl
   ·simp only at hl;split at hl
    ·split at hl
     ·have hl:(s1.Oy && !decide (s1.Ow<s1.Ow))=true:=hl;rw [g1] at hl;cases hl
     ·rw [g1] at hl;cases hl
    ·rw [g1] at hl;cases hl
   ·rw [g1] at hl;cases hl
  ·split
   ·unfold O4;split
    ·intro hl;rw [g1] at hl;cases hl
    ·simp only;split
     ·intro _ d d1 d2;have h:=ee (z:=z) (e:=e) { s1 with OB:=s1.OB.set m.OD.toNat true };refine ⟨bI (lead z e { s1 with OB:=s1.OB.set m.OD.toNat true }).2 d,?_,rfl,rfl,?_,rfl⟩
      ·rw [h.ms];refine fX _ _ d ?_ ?_
       ·rw [h.n];show d<s1.n;rw [g3];exact d1
       ·rw [h.own];show d≠s1.own;rw [g2];exact d2
      ·show (((lead z e { s1 with OB:=s1.OB.set m.OD.toNat true }).2.own:Nat):Int)=_;rw [h.own];show ((s1.own:Nat):Int)=_;rw [g2]
     ·intro hl;rw [g1] at hl;cases hl
   ·split
    ·intro hl;exfalso;unfold lays at hl;split at hl
     ·rw [g1] at hl;cases hl
     ·split at hl
      ·rw [g1] at hl;cases hl
      ·simp only at hl;split at hl
       ·obtain ⟨h1,h2,h3,h4,h5,h6,_⟩:=iJ (m.N.getD 1 0).toNat ((m.N.drop 4).zip m.B) 0 { s1 with Ox:=0 };generalize bH (m.N.getD 1 0).toNat ((m.N.drop 4).zip m.B) 0 { s1 with Ox:=0 }=p at *;split at hl
        ·obtain ⟨_,_,_,_,g5,_⟩:=gE (z:=z) p.2 (min (m.N.getD 3 0) (((m.N.getD 1 0).toNat+m.B.length:Nat):Int)).toNat;have hl:=g5.symm.trans hl;rw [h5,g1] at hl;cases hl
        ·rw [h5,g1] at hl;cases hl
       ·rw [g1] at hl;cases hl
    ·split
     ·intro hl;exfalso;unfold answered at hl;rw [ay (by simp [g1])] at hl;rw [g1] at hl;cases hl
     ·split
      ·split
       ·intro hl;rw [g1] at hl;cases hl
       ·intro hl;rw [g1] at hl;cases hl
      ·intro hl;rw [g1] at hl;cases hl
 unfold X.get at h2 ⊢;split at h2
 ·rw [h1] at h2;cases h2
 ·rename_i hb;rw [am hb];split at h2
  ·rename_i ht;rw [ay ht];exact O9 _ (fO _ ht) rfl rfl h2
  ·rename_i ht;rw [am ht];exact O9 _ h1 rfl rfl h2
end
section
variable {ρ:Type} {z:ρ->Bool} {e:ρ}
variable {n i:Nat} {b b' M:Int} {S S' S0:Cs ρ} {G:Gh ρ} {m:Ms ρ} {s:Nd ρ} {r:List (Ms ρ)×Nd ρ} {ms q:List (Ms ρ)}
theorem Ph.ev {I:Cs ρ->Prop} {P:Nd ρ->Prop} {x:Ms ρ} {j:Nat} (h0:Ph z n b M ms S S) (hb:b<=1099511627776) (hM:∀m∈ms,m.N.getD 0 0<=M) (hx:x∈ms) (hd:x.dst=(j:Int)) (hu:S.up j=true) (hI0:I S)
  (hI:∀S' m,Ph z n b M ms S S'->I S'->m∈ms->I (S'.bring z e m)) (he:∀S',Ph z n b M ms S S'->I S'->QM (S'.nd j) x (X.get z e (S'.nd j) x)->P (X.get z e (S'.nd j) x).2)
  (hp:∀(s:Nd ρ) m r,QM s m r->r.2.Ow<=M->P s->P r.2):P ((S.dl z e ms).nd j):=by
 refine rB (z:=z) (e:=e) (ms:=ms) (m:=x) (Inv:=λS'=>Ph z n b M ms S S'/\I S') (P:=λS'=>P (S'.nd j)) hx (λS' m hi hm=>⟨(hi.1.take hb hm (hM m hm)).1,hI S' m hi.1 hi.2 hm⟩) (λS' hi=>?_) (λS' m hi hm hP=>?_) ⟨h0,hI0⟩
 ·obtain ⟨g1,i,g2,g3,g4,g5,g6⟩:=hi.1.take (e:=e) hb hx (hM x hx);obtain rfl:i=j:=az;rw [g5 (by rw [hi.1.up];exact hu),bf,ay rfl];exact he S' hi.1 hi.2 g4
 ·obtain ⟨g1,i,g2,g3,g4,g5,g6⟩:=hi.1.take (e:=e) hb hm (hM m hm);cases PN:S'.up i with
  | false=>rw [g6 PN];exact hP
  | true =>
   have Xu:=g1.ub.nd i (by rw [jq];exact PN);rw [g5 PN,bf] at Xu ⊢;rw [ay rfl] at Xu;split
   ·grind
   ·exact hP
theorem Ph.lead {l:Nat} (h0:Ph z n b M ms S S') (hb:b<=1099511627776) (hm:m∈ms) (hM:m.N.getD 0 0<=M) (hu:S.up l=true) (hl:(S'.nd l).Oy=true/\(S'.nd l).Ow=M):((S'.bring z e m).nd l).Oy=true/\((S'.bring z e m).nd l).Ow=M:=by
 obtain ⟨g1,i,g2,g3,g4,g5,g6⟩:=h0.take (e:=e) hb hm hM;cases PN:S'.up i with
 | false=>rw [g6 PN];exact hl
 | true =>
  have Xu:=g1.ub.nd l (by rw [jq,h0.up];exact hu);rw [g5 PN,bf] at Xu ⊢;split
  ·grind [g4.up,g4.keeps]
  ·exact hl
theorem po (S:Cs ρ):∀k,(∃i,i<k/\S.up i=true)->∃y,y<k/\S.up y=true/\∀i,i<k->S.up i=true->(S.nd i).Ow<=(S.nd y).Ow:=by
 intro k;induction k with
 | zero=>rintro ⟨i,h,_⟩;omega
 | succ k ih =>
  rintro ⟨i,h1,h2⟩;by_cases hex:∃i,i<k/\S.up i=true
  ·grind
  ·grind
theorem oU (n c:Nat) (g:Nat->Nat) (h1:∀j,j<n->g j<=c) (h2:∀i j,i<n->j<n->g i≠0->g j≠0->i=j):db n g<=c:=by
 induction n with
 | zero=>exact aH _
 | succ n ih =>
  rw [dj];by_cases h:g n=0
  ·grind
  ·have:db n g=0:=by
    have:db n g=db n λ_=>0:=jf n _ _ λj hj=>by
     grind
    rw [this];have:=mw n 0 (λ_=>0) λ_ _=>ah _;omega
   have:=h1 n az;omega
theorem Dz (hw:Wk z n b S) (hn:n<=5) (P9:∀i,S.up i=true->(S.nd i).Oy=true->(S.nd i).Ow=M) {Λ:Nat} (hl:∀i,S.up i=true->(S.nd i).Oy=true->(S.nd i).Oz.length<=Λ):Ul n S<=2*S.q.length+22*Λ/\WH n S<=S.q.length+3*Λ:=by
 obtain ⟨G,hG⟩:=hw;have hu:∀i j,i<n->j<n->(S.up i&&(S.nd i).Oy)=true->(S.up j&&(S.nd j).Oy)=true->i=j:=λi j hi hj h1 h2=>by
  grind [hG.one]
 constructor
 ·unfold Ul;have h1:=(CP S.q).1;have h2:db n (λi=>if (S.up i&&(S.nd i).Oy)=true then RA (S.nd i) else 0)<=22*Λ:=by
   refine oU n _ _ (λj hj=>?_) (λi j hi hj h1 h2=>hu i j hi hj ?_ ?_)
   ·split
    ·rename_i h;rw [bu] at h;have OP:=hG.ni j hj;have:=Kj (S.nd j) (OP.next h.2) (by rw [OP.nn];exact hn) (by rw [OP.own,OP.nn];exact hj);have:=hl j h.1 h.2;omega
    ·exact aH _
   ·grind
   ·grind
  omega
 ·unfold WH;have h2:db n (λi=>if (S.up i&&(S.nd i).Oy)=true then 3*((S.nd i).Oz.length - (S.nd i).agreed) else 0)<=3*Λ:=by
   refine oU n _ _ (λj hj=>?_) (λi j hi hj h1 h2=>hu i j hi hj ?_ ?_)
   ·grind
   ·grind
   ·grind
  omega
structure Ti (M:Int) (S:Cs ρ) (l:Nat):Prop where
 up:S.up l=true
 Oy:(S.nd l).Oy=true
 Ow:(S.nd l).Ow=M
 XU:∀j,S.up j=true->j≠l->(S.nd j).Ow=M/\(S.nd j).Ox=0/\(S.nd j).Oy=false
theorem P3.lead {l:Nat} (h:P3 z n b M S) (hn:n<=5) (hb:b<=1099511627776) (hl:S.up l=true/\(S.nd l).Oy=true) (hj:∀j,S.up j=true->j≠l->((S.nd j).Ow=M/\(S.nd j).Ox=0)\/∃x∈S.q,x.kind=3/\x.dst=(j:Int)/\x.N.getD 0 0=M) (k:Nat) (hk:Ul n S<=k):Ti M (Cs.drain z e k S) l:=by
 obtain ⟨a1,a2,a3,a4,_⟩:=P3.end_ (z:=z) (e:=e) (Inv:=λS'=>S'.up l=true/\(S'.nd l).Oy=true/\∀j,S'.up j=true->j≠l->((S'.nd j).Ow=M/\(S'.nd j).Ox=0)\/∃x∈S'.q,x.kind=3/\x.dst=(j:Int)/\x.N.getD 0 0=M) hn hb (λS' m q p hi hq st=>by
  obtain ⟨i1,i2,i3⟩:=hi;have kp:=st.kp;refine ⟨by rw [kp.up];exact i1,(kp.lead l i1 i2).1,λj PU PI=>?_⟩;rw [kp.up] at PU;obtain ⟨i,c1,c2,c3,c4,c5⟩:=st.cut;have keep:(S'.nd j).Ow=M/\(S'.nd j).Ox=0->(((S'.wq q).bring z e m).nd j).Ow=M/\(((S'.wq q).bring z e m).nd j).Ox=0:=λhh=>by
   have h1:=kp.Ow j;have h2:=st.p.ub.nd j (by rw [kp.up];exact PU);refine ⟨by omega,?_⟩;rcases kp.Ox j with h3 | h3
   ·rw [h3];exact hh.2
   ·exact h3
  rcases i3 j PU PI with hh | ⟨x,x1,x2,x3,x4⟩
  ·exact .inl (keep hh)
  ·by_cases hxm:x=m
   ·subst hxm;left;obtain rfl:i=j:=az;rw [c4 PU,bf,ay rfl];obtain ⟨G,hG⟩:=p.wk;obtain ⟨mi,fm⟩:=hG.mi x x1;have hMp:1<=M:=by
     have:=(hG.gi.O7 _ _ ((hG.ni l (hG.up l i1)).UC i2).1).2;rw [p.ld l i1 i2] at this;exact this
    obtain ⟨i5,_,e5,_,O0⟩:=fm.fit hb az;obtain rfl:i5=i:=az;have OP:=hG.ni i5 c1;have hti:=p.ub.nd i5 PU;have h1:=c3.reach;have h2:=c3.top;refine ⟨by omega,sS (z:=z) (e:=e) O0 OP.own OP.nn mi x2 az ?_⟩;cases hle:(S'.nd i5).Oy with
    | false=>exact .inl rfl
    | true =>
     exact absurd (hG.one c1 (hG.up l i1) hle i2 ((p.ld i5 PU hle).trans (p.ld l i1 i2).symm)) PI
   ·right;rw [hq] at x1;have hx:x∈q:=by
     grind
    cases hu:S'.up i with
    | false=>rw [c5 hu];exact ⟨x,hx,x2,x3,x4⟩
    | true=>rw [c4 hu];exact ⟨x,aI _ hx,x2,x3,x4⟩) k S h ⟨hl.1,hl.2,hj⟩ hk
 obtain ⟨b1,b2,b3⟩:=a4;refine ⟨b1,b2,a1.ld l b1 b2,λj PU PI=>?_⟩;rcases b3 j PU PI with hh | ⟨x,x1,_⟩
 ·refine ⟨hh.1,hh.2,?_⟩;cases hle:((Cs.drain z e k S).nd j).Oy with
  | false=>rfl
  | true =>
   obtain ⟨G,hG⟩:=a1.wk;exact absurd (hG.one (hG.up j PU) (hG.up l b1) hle b2 ((a1.ld j PU hle).trans (a1.ld l b1 b2).symm)) PI
 ·rw [a2] at x1;cases x1
end
section
variable {ρ:Type} {z:ρ->Bool} {e:ρ}
variable {n i:Nat} {b b' M:Int} {S S' S0:Cs ρ} {G:Gh ρ} {m:Ms ρ} {s:Nd ρ} {r:List (Ms ρ)×Nd ρ} {ms q:List (Ms ρ)} {Λ:Nat}
theorem lI (h:Wk z n b S) (hn:n<=5) (hb:b+1<=1099511627776):∀k,k<=n->(S.Ox z e k).q.length<=S.q.length+4*k:=by
 intro k;induction k with
 | zero=>intro _;exact ah _
 | succ k ih =>
  intro hk;have e0:S.Ox z e (k+1)=(S.Ox z e k).tick z e k:=Et;obtain ⟨t1,t2,_⟩:=dL (z:=z) (e:=e) k S;have e1:(S.Ox z e k).nd k=S.nd k:=by rw [t1,am az]
  rw [e0];unfold Cs.tick;split
  ·rw [dS,aE,e1];obtain ⟨h2,_,h3⟩:=h.tk (e:=e) hb k az;have:=h2.num;rw [h3] at this;omega
  ·omega
theorem Wk.drain1 (h:Wk z n b S) (hb:b<=1099511627776) (hq:S.q=m::q) (hn:n<=5):Wk z n b ((S.wq q).bring z e m)/\((S.wq q).bring z e m).q.length<=S.q.length+4:=by
 obtain ⟨G,hG⟩:=h;have hwm:UL z [m] n b (S.wq q):=⟨G,⟨hG.gi,hG.ni,hG.ln,λx hx=>hG.mi x yg,hG.up,hG.tb,hG.lo⟩,λx hx=>by rw [aj.1 hx];exact hG.mi m Bl⟩
 obtain ⟨h1,i,h2,h3,h4,h5,h6⟩:=hwm.take (e:=e) hb bd;refine ⟨h1.wk,?_⟩;rw [hq,aX];cases hu:(S.wq q).up i with
 | false=>rw [h6 hu];show q.length<=_;omega
 | true =>
  rw [h5 hu,dS,aE];have Tb:=(hG.ni i h2).nn;have RX:=h4.num;have e1:((S.wq q).nd i).n=n:=Tb;rw [e1] at RX;show q.length+_<=_;rcases RX with g | ⟨_,g⟩<;>omega
theorem B1 (hn:n<=5) (hb:b<=1099511627776):∀(j:Nat) (S:Cs ρ),Wk z n b S->(Cs.drain z e j S).q.length<=S.q.length+4*j:=by
 intro j;induction j with
 | zero=>intro S _;exact ah _
 | succ j ih =>
  intro S h;cases hq:S.q with
  | nil=>rw [eO _ hq,hq];exact aH _
  | cons m q =>
   rw [fo j hq];obtain ⟨h1,h2⟩:=h.drain1 (e:=e) hb hq hn;have:=ih _ h1;rw [hq] at h2;omega
theorem qh (hG:QS z n b G S) (hi:i<n) (hl:(S.nd i).Oy=true) {x:Ms ρ} (hx:x∈S.q) (hk:x.kind=3) (hN:x.N.getD 0 0=(S.nd i).Ow):(x.N.getD 1 0).toNat+x.B.length<=(S.nd i).Oz.length:=by
 obtain ⟨f,_,_,_,_,h3,_⟩:=(hG.mi x hx).1.f;obtain ⟨_,p,a,e2,_,_,e5,_⟩:=h3 hk;have:=((hG.ni i hi).UC hl).2;rw [hN,<-this] at e5;omega
structure Lb (Λ:Nat) (S:Cs ρ):Prop where
 nd:∀i,S.up i=true->(S.nd i).Oz.length<=Λ\/((S.nd i).Oz.length<=Λ+1/\Zz (S.nd i))
 q:∀x∈S.q,x.kind=3->(x.N.getD 1 0).toNat+x.B.length<=Λ+1
theorem Lb.le (h:Lb Λ S) (i:Nat) (hu:S.up i=true):(S.nd i).Oz.length<=Λ+1:=by rcases h.nd i hu with g | g<;>omega
theorem zb (hG:QS z n b G S) (hb:b+1<=1099511627776) (hi:i<n) (hl:(S.nd i).Oz.length<=Λ) :
  ((X.tick z e (S.nd i)).2.Oz.length<=Λ\/((X.tick z e (S.nd i)).2.Oz.length<=Λ+1/\Zz (X.tick z e (S.nd i)).2))/\∀x∈(X.tick z e (S.nd i)).1,x.kind=3->(x.N.getD 1 0).toNat+x.B.length<=Λ:=by
 have OP:=hG.ni i hi;have SV:=hG.tb i hi;rcases dT (z:=z) (e:=e) (S.nd i) with ⟨h1,h2⟩ | ⟨h1,h2,h3,h4⟩ | ⟨h1,h2,h3,h4⟩ | ⟨h1,h2,h3,h4⟩
 ·rw [h2];refine ⟨.inl hl,io λd d1 d2 _=>?_⟩;have:=OP.next h1 d;show (((S.nd i).next.getD d 0:Nat):Int).toNat+(((((S.nd i).Oz.drop ((S.nd i).next.getD d 0)).take 20).map Prod.snd)).length<=Λ;rw [aW,aQ,cH];omega
 ·rw [h4,fu p8 az];split
  ·have P9:=ee (z:=z) (e:=e) (dc (S.nd i));refine ⟨.inr ⟨?_,.inl P9.Oy⟩,λx hx=>?_⟩
   ·rw [P9.len];show (S.nd i).Oz.length+1<=_;omega
   ·exfalso;rw [P9.ms] at hx;obtain ⟨d,d1,d2,_⟩:=cT _ _ _ hx;rw [P9.n] at d1;rw [P9.own] at d2;have d1:d<(S.nd i).n:=d1;have d2:d≠(S.nd i).own:=d2;have:=OP.own;have:=OP.nn;omega
  ·exact ⟨.inl hl,io λd d1 d2 h=>by cases h⟩
 ·rw [h4];exact ⟨.inl hl,io λd d1 d2 h=>by cases h⟩
 ·grind
structure Rd (z:ρ->Bool) (e:ρ) (n:Nat) (b M:Int) (Λ:Nat) (S0 S1 S2 S3:Cs ρ):Prop where
 wk:Wk z n (b+1) S3
 q:S3.q=[]
 up:S3.up=S0.up
 top:∃y,y<n/\S0.up y=true/\((S0.Ox z e n).nd y).Ow=M
 ra:Ra z e n (b+1) M (S0.Ox z e n) S1 S2
 p2:P3 z n (b+1) M S2
 kp:Kp S2 S3
 ub:∀i,S0.up i=true->(S3.nd i).Ow<=M
 Ow:∀i,((S0.Ox z e n).nd i).Ow<=(S3.nd i).Ow
 OA:∀i,(S3.nd i).OA=((S0.Ox z e n).nd i).OA
 Ox:∀i,(S3.nd i).Ox=((S0.Ox z e n).nd i).Ox\/(S3.nd i).Ox=0
 Oz:∀i,S0.up i=true->(S3.nd i).Oz.length<=Λ+1
 lead:∀l,S0.up l=true->(S3.nd l).Oy=true->Ti M S3 l
 all:∀w,S0.up w=true->((S0.Ox z e n).nd w).Ow=M->1<=M->(∀d,d<n->d≠w->∃x∈(S0.Ox z e n).q,x.dst=(d:Int)/\x.N.getD 0 0=M)->∀j,S0.up j=true->(S3.nd j).Ow=M
 all1:∀w,S0.up w=true->((S0.Ox z e n).nd w).Ow=M->1<=M->(∀d,d<n->d≠w->∃x∈(S0.Ox z e n).q,x.dst=(d:Int)/\x.N.getD 0 0=M)->∀j,S0.up j=true->(S1.nd j).Ow=M
 same:S2.q=[]->S3=S2
 dr:∃k,S3=Cs.drain z e k S2/\Ul n S2<=k
 small:∀j,(Cs.drain z e j (S0.Ox z e n)).q.length<=180+3*(Λ+1)
theorem Dq (h:Wk z n b S) (hn:n<=5) (hb:b+1<=1099511627776) (hq:S.q=[]) (QW:∃i,i<n/\S.up i=true) (hΛ:∀i,S.up i=true->(S.nd i).Oz.length<=Λ) (F:Nat) (hF:200+22*(Λ+1)<=F) :
  ∃M,Rd z e n b M Λ S ((S.Ox z e n).Pc.dl z e (S.Ox z e n).q) (((S.Ox z e n).Pc.dl z e (S.Ox z e n).q).Pc.dl z e ((S.Ox z e n).Pc.dl z e (S.Ox z e n).q).q) (Cs.drain z e F (S.Ox z e n)):=by
 obtain ⟨t1,t2,t3⟩:=dL (z:=z) (e:=e) n S;have hw:=h.Ox (e:=e) hb;have hlenA:=lI (e:=e) h hn hb n (ah _);rw [hq,fp] at hlenA;obtain ⟨y,y1,y2,y3⟩:=po (S.Ox z e n) n (by rw [t2];exact QW);have O2:∀i,S.up i=true->i<n:=by obtain ⟨G,hG⟩:=h;exact hG.up
 have Uc:∀m∈(S.Ox z e n).q,m.N.getD 0 0<=((S.Ox z e n).nd y).Ow:=λm hm=>by
  rcases (t3 m).1 hm with g | ⟨i,i1,i2,i3⟩
  ·rw [hq] at g;cases g
  ·obtain ⟨_,o2,_⟩:=(h.tk (e:=e) hb i i1).1.out m i3;have:=y3 i i1 (by rw [t2];exact i2);rw [o2];have e1:(S.Ox z e n).nd i=(X.tick z e (S.nd i)).2:=by rw [t1,ay ⟨i1,i2⟩]
   rw [e1] at this;exact this
 have hM:UB ((S.Ox z e n).nd y).Ow (S.Ox z e n):=⟨λi hi=>y3 i (O2 i (by rw [<-t2];exact hi)) hi,Uc⟩
 have ra:=LS (e:=e) h hn hb hq hM (by rw [<-t2];exact y2) rfl;have lbA:Lb Λ (S.Ox z e n)/\∀x∈(S.Ox z e n).q,x.kind=3->(x.N.getD 1 0).toNat+x.B.length<=Λ:=by
  obtain ⟨G,hG⟩:=h;have hx:∀x∈(S.Ox z e n).q,x.kind=3->(x.N.getD 1 0).toNat+x.B.length<=Λ:=λx hx hk=>by
   rcases (t3 x).1 hx with g | ⟨i,i1,i2,i3⟩
   ·rw [hq] at g;cases g
   ·exact (zb (e:=e) hG hb i1 (hΛ i i2)).2 x i3 hk
  refine ⟨⟨λi hi=>?_,λx hx1 hk=>by have:=hx x hx1 hk;omega⟩,hx⟩;rw [t2] at hi;rw [t1,ay ⟨O2 i hi,hi⟩];exact (zb (e:=e) hG hb (O2 i hi) (hΛ i hi)).1
 generalize Wb:S.Ox z e n=SA at *;generalize hMM:(SA.nd y).Ow=M at *;have w0:=hw.Ys;have YS:∀x∈SA.q,(x.kind=1\/x.kind=3\/x.kind=5):=λx hx=>by
  rcases (t3 x).1 hx with g | ⟨i,i1,i2,i3⟩
  ·rw [hq] at g;cases g
  ·exact Mq
 have ub0:UB M SA.Pc:=⟨hM.nd,λm hm=>by cases hm⟩
 have p0:Ph z n (b+1) M SA.q SA.Pc SA.Pc:=Ph.start w0 ub0;have lb1:Lb Λ (SA.Pc.dl z e SA.q):=(fH (z:=z) (e:=e) (ms:=SA.q) (S:=SA.Pc) (Inv:=λS'=>Ph z n (b+1) M SA.q SA.Pc S'/\Lb Λ S'/\∀x∈S'.q,x.kind≠3) (λS' m hI hm=>by
  obtain ⟨a1,a2,a3⟩:=hI;obtain ⟨g1,i,g2,g3,g4,g5,g6⟩:=a1.take (e:=e) hb hm (Uc m hm);refine ⟨g1,?_⟩;cases hu:S'.up i with
  | false=>rw [g6 hu];exact ⟨a2,a3⟩
  | true =>
   rw [g5 hu];have hk3:∀x∈S'.q++(X.get z e (S'.nd i) m).1,x.kind≠3:=λx hx=>by
    rcases aA.1 hx with hx | hx
    ·exact a3 x hx
    ·obtain ⟨_,_,_,o,_⟩:=g4.out x hx;have:=YS m hm;rcases o with o | o | o | o<;>omega
   refine ⟨⟨λj hj=>?_,λx hx hk=>absurd hk (hk3 x hx)⟩,hk3⟩;rw [bf];split
   ·rename_i e1;subst e1;have gl:=na (z:=z) (e:=e) (s:=S'.nd j) (m:=m);have hlay:(if m.kind=3 then (m.N.getD 1 0).toNat+m.B.length else 0)<=Λ:=by
     grind
    rcases gl.len with g | ⟨g,_⟩
    ·rcases a2.nd j hj with g7 | ⟨g7,g8⟩
     ·exact .inl az
     ·exact .inr ⟨by omega,gl.zz g8⟩
    ·have:=YS m hm;omega
   ·exact a2.nd j hj) ⟨p0,⟨lbA.1.nd,λx hx=>by cases hx⟩,λx hx=>by cases hx⟩).2.1
 have EV0:∀(l:Nat),SA.up l=true->(SA.nd l).Oy=true->(SA.nd l).Ow=M->∀j,SA.up j=true->j≠l->((SA.Pc.dl z e SA.q).nd j).Ow=M/\((SA.Pc.dl z e SA.q).nd j).Ox=0:=λl PH hl2 Vh j hj PI=>by
  have Pr:=O2 l (by rw [<-t2];exact PH);have Vv:=O2 j (by rw [<-t2];exact hj);obtain ⟨UW,ho,Tb⟩:=h.tk (e:=e) hb l Pr;have YD:S.up l=true:=by rw [<-t2];exact PH
  have e1:SA.nd l=(X.tick z e (S.nd l)).2:=by rw [t1,ay ⟨Pr,YD⟩]
  obtain ⟨x,x1,x2,x3⟩:=UW.lead (by rw [<-e1];exact hl2) j (by rw [Tb];exact Vv) (by rw [ho];exact PI);obtain ⟨o1,o2,_⟩:=UW.out x x1;have hxM:x.N.getD 0 0=M:=by rw [o2,<-e1];exact Vh
  refine Ph.ev (e:=e) (I:=λS'=>(S'.nd l).Oy=true/\(S'.nd l).Ow=M) (P:=λs=>s.Ow=M/\s.Ox=0) p0 hb Uc ((t3 x).2 (.inr ⟨l,Pr,YD,x1⟩)) x2 hj ⟨hl2,Vh⟩ (λS' m hp hI hm=>hp.lead hb hm (Uc m hm) PH hI) (λS' hp hI hg=>?_) (λs m r hg hle hP=>?_)
  ·obtain ⟨G,hG,Rn⟩:=hp.wk;have hxq:x∈SA.q:=(t3 x).2 (.inr ⟨l,Pr,YD,x1⟩);obtain ⟨mi,fm⟩:=Rn x hxq;have hMp:1<=M:=by
    have:=(hG.gi.O7 _ _ ((hG.ni l Pr).UC hI.1).1).2;rw [hI.2] at this;exact this
   obtain ⟨i5,_,e5,_,O0⟩:=fm.fit hb az;obtain rfl:i5=j:=az;have OP:=hG.ni i5 Vv;have hti:=hp.ub.nd i5 (by rw [hp.up];exact hj);have h1:=hg.reach;have h2:=hg.top;refine ⟨by omega,sS (z:=z) (e:=e) O0 OP.own OP.nn mi x3 az ?_⟩;cases hle:(S'.nd i5).Oy with
   | false=>exact .inl rfl
   | true =>
    by_cases hlt:(S'.nd i5).Ow<M
    ·exact .inr az
    ·grind [hG.one]
  ·grind [hg.up,hg.Ox]
 have ALL:∀w,SA.up w=true->(SA.nd w).Ow=M->1<=M->(∀d,d<n->d≠w->∃x∈SA.q,x.dst=(d:Int)/\x.N.getD 0 0=M)->∀j,SA.up j=true->M<=((SA.Pc.dl z e SA.q).nd j).Ow:=λw w1 w2 w3 w4 j hj=>by
  by_cases hjw:j=w
  ·subst hjw;have:=(w0.mono (e:=e) hb j).1;rw [<-w2];exact this
  ·obtain ⟨x,x1,x2,x3⟩:=w4 j (O2 j (by rw [<-t2];exact hj)) hjw;exact Ph.ev (e:=e) (I:=λ_=>True) (P:=λs=>M<=s.Ow) p0 hb Uc x1 x2 hj trivial (λ_ _ _ _ _=>trivial) (λS' hp _ hg=>by have:=hg.reach;omega) (λs m r hg hle hP=>by have:=hg.up;omega)
 have L0:=w0.mono (e:=e) hb;have hdr:∀k,Cs.drain z e (SA.q.length+k) SA=Cs.drain z e k (SA.Pc.dl z e SA.q):=λk=>wQ SA.q k SA [] bL;have lead1:∀l,SA.up l=true->(SA.nd l).Oy=true->(SA.nd l).Ow=M->((SA.Pc.dl z e SA.q).nd l).Oy=true/\((SA.Pc.dl z e SA.q).nd l).Ow=M:=λl PH hl2 Vh =>
  (fH (z:=z) (e:=e) (ms:=SA.q) (S:=SA.Pc) (Inv:=λS'=>Ph z n (b+1) M SA.q SA.Pc S'/\(S'.nd l).Oy=true/\(S'.nd l).Ow=M) (λS' m hI hm=>⟨(hI.1.take hb hm (Uc m hm)).1,hI.1.lead hb hm (Uc m hm) PH hI.2⟩) ⟨p0,hl2,Vh⟩).2
 have nolead1:∀l,(SA.nd l).Oy=false->((SA.Pc.dl z e SA.q).nd l).Oy=false:=λl hl =>
  (fH (z:=z) (e:=e) (ms:=SA.q) (S:=SA.Pc) (Inv:=λS'=>Ph z n (b+1) M SA.q SA.Pc S'/\(S'.nd l).Oy=false) (λS' m hI hm=>by
   obtain ⟨g1,i,g2,g3,g4,g5,g6⟩:=hI.1.take (e:=e) hb hm (Uc m hm);refine ⟨g1,?_⟩;cases hu:S'.up i with
   | false=>rw [g6 hu];exact hI.2
   | true =>
    rw [g5 hu,bf];split
    ·grind [g4.Oy]
    ·exact hI.2) ⟨p0,hl⟩).2
 generalize hS1:SA.Pc.dl z e SA.q=S1 at *;have w1:=ra.w1.Ys;have Yt:UB M S1.Pc:=⟨ra.b1.nd,λm hm=>by cases hm⟩
 have p1:Ph z n (b+1) M S1.q S1.Pc S1.Pc:=Ph.start w1 Yt;have Vy:=ra.b1.q;have L1:=w1.mono (e:=e) hb;have hdr1:∀k,Cs.drain z e (S1.q.length+k) S1=Cs.drain z e k (S1.Pc.dl z e S1.q):=λk=>wQ S1.q k S1 [] bL;have lb2:Lb Λ (S1.Pc.dl z e S1.q):=(fH (z:=z) (e:=e) (ms:=S1.q) (S:=S1.Pc) (Inv:=λS'=>Ph z n (b+1) M S1.q S1.Pc S'/\Lb Λ S') (λS' m hI hm=>by
  obtain ⟨a1,a2⟩:=hI;obtain ⟨g1,i,g2,g3,g4,g5,g6⟩:=a1.take (e:=e) hb hm (Vy m hm);refine ⟨g1,?_⟩;cases hu:S'.up i with
  | false=>rw [g6 hu];exact a2
  | true =>
   have gl:=na (z:=z) (e:=e) (s:=S'.nd i) (m:=m);have hk:=ra.k1 m hm;have PL:(X.get z e (S'.nd i) m).2.Oz.length<=Λ\/((X.get z e (S'.nd i) m).2.Oz.length<=Λ+1/\Zz (X.get z e (S'.nd i) m).2):=by
    rcases gl.len with g | ⟨_,g7,g8,g9⟩
    ·rw [am az] at g;rcases a2.nd i hu with g7 | ⟨g7,g8⟩
     ·exact .inl az
     ·exact .inr ⟨by omega,gl.zz g8⟩
    ·rcases a2.nd i hu with g | g
     ·exact .inr ⟨by omega,g8⟩
     ·exact absurd g.2 g7
   rw [g5 hu] at g1 ⊢;refine ⟨λj hj=>?_,λx hx hk3=>?_⟩
   ·rw [bf];split
    ·exact PL
    ·exact a2.nd j hj
   ·rw [dS] at hx;rcases aA.1 hx with hx2 | hx2
    ·exact a2.q x hx2 hk3
    ·obtain ⟨o1,o2,_,_,o5⟩:=g4.out x hx2;obtain ⟨G,hG,_⟩:=g1.wk;have e1:((S'.call i (X.get z e (S'.nd i) m)).nd i)=(X.get z e (S'.nd i) m).2:=Bp;have:=qh hG g2 (by rw [e1];exact o5 hk3) hx hk3 (by rw [e1];exact o2);rw [e1] at this;rcases PL with g | g<;>omega) ⟨p1,⟨lb1.nd,λx hx=>by cases hx⟩⟩).2
 have EV1:=fH (z:=z) (e:=e) (ms:=S1.q) (S:=S1.Pc) (Inv:=λS'=>Ph z n (b+1) M S1.q S1.Pc S'/\∀l,l<n->(S'.nd l).Oy=true->(S1.nd l).Oy=false->∀d,d<n->d≠l->∃x∈S'.q,x.kind=3/\x.dst=(d:Int)/\x.N.getD 0 0=(S'.nd l).Ow) (λS' m hI hm=>by
  obtain ⟨a1,a2⟩:=hI;obtain ⟨g1,i,g2,g3,g4,g5,g6⟩:=a1.take (e:=e) hb hm (Vy m hm);refine ⟨g1,?_⟩;cases hu:S'.up i with
  | false=>rw [g6 hu];exact a2
  | true =>
   rw [g5 hu];intro l Pr PH hl2 d d1 d2;rw [bf] at PH ⊢;split at PH
   ·rename_i e1;subst e1;rw [ay rfl];rcases g4.Oy PH with g | g
    ·obtain ⟨x,x1,x2,x3,x4⟩:=a2 l Pr g.1 hl2 d d1 d2;exact ⟨x,aI _ x1,x2,x3,x4.trans g.2.symm⟩
    ·obtain ⟨G,hG,_⟩:=a1.wk;have OP:=hG.ni l Pr;obtain ⟨x,x1,x2,x3,_,x4⟩:=BZ g.2.2.2.2 PH d (by rw [OP.nn];exact d1) (by rw [OP.own];exact d2);exact ⟨x,aR _ x1,x2,x3,x4⟩
   ·rename_i e1;rw [am e1];obtain ⟨x,x1,x2,x3,x4⟩:=a2 l Pr PH hl2 d d1 d2;exact ⟨x,aI _ x1,x2,x3,x4⟩) ⟨p1,λl _ PH hl2=>by
     have PH:(S1.nd l).Oy=true:=PH;rw [PH] at hl2;cases hl2⟩
 obtain ⟨_,EV1⟩:=EV1;generalize hS2:S1.Pc.dl z e S1.q=S2 at *;have PN:S2.up=S.up:=ra.u2.trans t2;have P:P3 z n (b+1) M S2:=by
  refine ⟨ra.w2,ra.b2,λm hm=>.inl (ra.k2 m hm),ra.lead,λm hm _ i hu hl hf=>?_,λi hu hl=>?_,λm hm hk=>?_⟩
  ·obtain ⟨j,j1,j2⟩:=ra.from_ m hm;obtain rfl:j=i:=az;rw [j2,<-ra.own j hl];exact ra.lead j hu hl
  ·refine List.Pairwise.imp_of_mem (R:=λ_ _=>True) (λ{a b} ha hb' _ h5=>?_) (List.pairwise_of_forall (λ_ _=>trivial));have:=ra.k2 a ha;omega
  ·have:=ra.k2 m hm;omega
 have hq1:=ra.q1;have hq2:=ra.q2;have hn20:SA.q.length<=20:=az;obtain ⟨φ1,φ2⟩:=Dz (M:=M) ra.w2 hn ra.lead (Λ:=Λ+1) (λi hu _=>lb2.le i hu);have hF2:Cs.drain z e F SA=Cs.drain z e (F - SA.q.length - S1.q.length) S2:=by
  grind
 obtain ⟨c1,c2,c3,c4,c5⟩:=P3.end_ (z:=z) (e:=e) (Inv:=λS'=>∀i,S'.up i=true->(S'.nd i).Oz.length<=Λ+1/\∀x∈S'.q,x.kind=3->(x.N.getD 1 0).toNat+x.B.length<=Λ+1) hn hb (λS' m q p hi hq st j hj=>by
  obtain ⟨i,k1,k2,k3,k4,k5⟩:=st.cut;rw [st.kp.up] at hj;cases hu:S'.up i with
  | false =>
   rw [k5 hu];exact ⟨(hi j hj).1,λx hx=>(hi j hj).2 x yg⟩
  | true =>
   have gl:=na (z:=z) (e:=e) (s:=S'.nd i) (m:=m);have hlen:(X.get z e (S'.nd i) m).2.Oz.length<=Λ+1:=by
    have h1:=(hi i hu).1;have h2:(if m.kind=3 then (m.N.getD 1 0).toNat+m.B.length else 0)<=Λ+1:=by
     split
     ·grind [bd]
     ·exact aH _
    rcases gl.len with g | ⟨g,_⟩
    ·omega
    ·grind [p.kd]
   have hst:=st.p;rw [k4 hu] at hst ⊢;refine ⟨?_,λx hx hk3=>?_⟩
   ·rw [bf];split
    ·exact hlen
    ·exact (hi j hj).1
   ·rw [dS] at hx;rcases aA.1 hx with hx2 | hx2
    ·exact (hi j hj).2 x (by rw [hq];exact aM _ hx2) hk3
    ·obtain ⟨o1,o2,_,_,o5⟩:=k3.out x hx2;obtain ⟨G,hG⟩:=hst.wk;have e1:(((S'.wq q).call i (X.get z e (S'.nd i) m)).nd i)=(X.get z e (S'.nd i) m).2:=Bp;have:=qh hG k1 (by rw [e1];exact o5 hk3) hx hk3 (by rw [e1];exact o2);rw [e1] at this;omega) (F - SA.q.length - S1.q.length) S2 P (λi hi=>⟨lb2.le i hi,lb2.q⟩) az
 rw [hF2];have VL:(Cs.drain z e (F - SA.q.length - S1.q.length) S2).up=S.up:=c3.up.trans PN;have ht2:∀i,(SA.nd i).Ow<=(S2.nd i).Ow:=λi=>cK (L0 i).1 (L1 i).1;refine ⟨M,⟨c1.wk,c2,VL,⟨y,y1,by rw [<-t2];exact y2,Wb ▸ hMM⟩,Wb ▸ ra,P,c3,λi hi=>c1.ub.nd i (by rw [VL];exact hi),λi=>by rw [Wb];exact cK (ht2 i) (c3.Ow i),λi=>by rw [Wb];exact (c3.OA i).trans ((L1 i).2.1.trans (L0 i).2.1),λi=>?_,λi hi=>(c4 i (by rw [VL];exact hi)).1,λl PH hl2=>?_,λw a1 a2 a3 a4 j hj=>?_,λw a1 a2 a3 a4 j hj=>?_,λhq2=>eO _ hq2,⟨_,rfl,by omega⟩,λj=>?_⟩⟩
 ·rw [Wb];rcases c3.Ox i with g | g
  ·rw [g];rcases (L1 i).2.2.2 with g2 | g2
   ·rw [g2];exact (L0 i).2.2.2
   ·exact .inr g2
  ·exact .inr g
 ·have Vh:=c3.back l hl2;have YD:S2.up l=true:=by rw [PN];exact PH
  have Pr:=O2 l PH;refine P.lead hn hb ⟨YD,Vh⟩ (λj hj PI=>?_) _ az;have hjS:S.up j=true:=by rw [<-PN];exact hj
  have Vv:=O2 j hjS;cases hl4:(S1.nd l).Oy with
  | false =>
   obtain ⟨x,x1,x2,x3,x4⟩:=EV1 l Pr Vh hl4 j Vv PI;exact .inr ⟨x,x1,x2,x3,by rw [x4];exact ra.lead l YD Vh⟩
  | true =>
   left;have hSAl:(SA.nd l).Oy=true:=by
    grind
   have hSAt:(SA.nd l).Ow=M:=by rw [<-ra.own l Vh];exact ra.lead l YD Vh
   obtain ⟨g1,g2⟩:=EV0 l (by rw [t2];exact PH) hSAl hSAt j (by rw [t2];exact hjS) PI;have h1:=(L1 j).1;have h2:=ra.b2.nd j hj;have e1:(S1.Pc.nd j).Ow=M:=g1;refine ⟨by omega,?_⟩;rcases (L1 j).2.2.2 with g3 | g3
   ·rw [g3];exact g2
   ·exact g3
 ·rw [Wb] at a2 a4;have:=ALL w (by rw [t2];exact a1) a2 a3 a4 j (by rw [t2];exact hj);have h1:=(L1 j).1;have h2:=c3.Ow j;have h3:=c1.ub.nd j (by rw [VL];exact hj);have e1:(S1.nd j).Ow=(S1.Pc.nd j).Ow:=rfl;omega
 ·rw [Wb] at a2 a4;have:=ALL w (by rw [t2];exact a1) a2 a3 a4 j (by rw [t2];exact hj);have h3:=ra.b1.nd j (by rw [ra.u1,t2];exact hj);omega
 ·rw [Wb];by_cases hj:j<=40
  ·have:=B1 (e:=e) hn hb j SA hw;omega
  ·have e1:j=SA.q.length+(S1.q.length+(j - SA.q.length - S1.q.length)):=by omega
   rw [e1,hdr,hdr1];have:=c5 (j - SA.q.length - S1.q.length);omega
end
section
variable {ρ:Type} {z:ρ->Bool} {e:ρ}
variable {n i:Nat} {b b' M T:Int} {S S' S0:Cs ρ} {G:Gh ρ} {m:Ms ρ} {s:Nd ρ} {r:List (Ms ρ)×Nd ρ} {ms q:List (Ms ρ)} {Λ:Nat}
theorem iw (hk:m.kind≠3) (hl:(X.get z e s m).2.Oy=false\/s.Oy=true):(X.get z e s m).2.Oz=s.Oz:=by
 have O9:∀s1:Nd ρ,(OJ z e s1 m).2.Oy=false\/s1.Oy=true->(OJ z e s1 m).2.Oz=s1.Oz:=λs1 h=>by
  unfold OJ at h ⊢;split
  ·exact Kr
  ·split
   ·rename_i h1 h2;rw [am h1,ay h2] at h;unfold O4 at h ⊢;split
    ·rfl
    ·rename_i hy;rw [am hy] at h;simp only at h ⊢;split
     ·rename_i hc;rw [ay hc] at h;exact MN
     ·rfl
   ·grind [answered,df]
 unfold X.get at hl ⊢;split
 ·rfl
 ·rename_i hb;rw [am hb] at hl;split
  ·rename_i ht;rw [ay ht] at hl;refine O9 (enter s (m.N.getD 0 0) (-1)) ?_;rcases hl with hl | hl
   ·exact .inl hl
   ·-- one that was of an elder term
    by_cases hz:(OJ z e (enter s (m.N.getD 0 0) (-1)) m).2.Oy=true
    ·exfalso;have hv:(enter s (m.N.getD 0 0) (-1)).OC = -1:=rfl;unfold OJ at hz;split at hz
     ·grind [asked,enter,fO]
     ·split at hz
      ·unfold O4 at hz;rw [ay (by
        rw [hv];simp only [bi,bb,bq];exact .inl (.inr az))] at hz
       rw [fO _ ht] at hz;cases hz
      ·grind [answered,fO,enter]
    ·grind
  ·grind
theorem pv (hk:m.kind≠5):(X.get z e s m).2.heard=s.heard:=by
 have O9:∀s1:Nd ρ,(OJ z e s1 m).2.heard=s1.heard:=λs1=>by
  unfold OJ;split
  ·exact Kr
  ·split
   ·unfold O4;split
    ·rfl
    ·simp only;split
     ·exact (ee (z:=z) (e:=e) { s1 with OB:=s1.OB.set m.OD.toNat true }).heard
     ·rfl
   ·grind [lays,iJ,bH,gE,answered,df]
 exact GN
theorem Fc (hf:Fit i n m) (hi:s.own=i) (hn:s.n=n) (hk:m.kind=5) (hN:m.N.length=3) (ht:m.N.getD 0 0<=s.Ow):X.get z e s m=([],{ s with heard:=s.heard.set m.OD.toNat ((s.OA:Int),m.N.getD 1 0,m.N.getD 2 0)}):=by
 unfold X.get;rw [hf.ok hi hn];simp only [bk,if_false];rw [am az];unfold OJ;grind
def l7 (s:Nd ρ) (m:Ms ρ):Prop:=m.N.length=3/\(bC s.Oz s.Oz.length<m.N.getD 2 0\/(m.N.getD 2 0=bC s.Oz s.Oz.length/\(s.Oz.length:Int)<=m.N.getD 1 0))
structure Askd (s:Nd ρ) (m:Ms ρ) (r:List (Ms ρ)×Nd ρ):Prop where
 Ow:r.2.Ow=max s.Ow (m.N.getD 0 0)
 no:¬(l7 s m/\m.N.getD 0 0=r.2.Ow/\(s.Ow<m.N.getD 0 0\/s.OC = -1\/s.OC=m.OD))->r.2.Ox=s.Ox/\r.2.OC=(if s.Ow<m.N.getD 0 0 then -1 else s.OC)
 yes:l7 s m/\m.N.getD 0 0=r.2.Ow/\(s.Ow<m.N.getD 0 0\/s.OC = -1\/s.OC=m.OD)->r.2.Ox=0/\r.2.OC=m.OD/\∃x∈r.1,x.kind=2/\x.dst=m.OD/\x.OD=(s.own:Int)/\x.N.getD 0 0=r.2.Ow/\x.N.getD 1 0=1
theorem rL (ht:m.N.getD 0 0<=s.Ow):(asked s m).2.Ow=s.Ow/\(asked s m).2.Oy=s.Oy /\
  (¬(l7 s m/\m.N.getD 0 0=s.Ow/\(s.OC = -1\/s.OC=m.OD))->(asked s m).2.Ox=s.Ox/\(asked s m).2.OC=s.OC) /\
  (l7 s m/\m.N.getD 0 0=s.Ow/\(s.OC = -1\/s.OC=m.OD)->(asked s m).2.Ox=0/\(asked s m).2.OC=m.OD/\∃x∈(asked s m).1,x.kind=2/\x.dst=m.OD/\x.OD=(s.own:Int)/\x.N.getD 0 0=s.Ow/\x.N.getD 1 0=1):=by
 have e0:(s.Oy && !decide (s.Ow<s.Ow))=s.Oy:=bL;unfold asked l7;split
 ·rename_i hN;simp only;split
  ·rename_i hy;simp only [bu,cE,bi,aZ] at hy;obtain ⟨⟨TE,UD⟩,U9⟩:=hy;split
   ·rename_i hc;exact ⟨rfl,e0,λhno=>absurd ⟨⟨hN,UD⟩,TE,U9⟩ hno,λ_=>⟨rfl,rfl,_,eR _,rfl,rfl,rfl,rfl,rfl⟩⟩
   ·rename_i hc;have hcf:s.OC=m.OD:=by
     grind
    exact ⟨rfl,rfl,λhno=>absurd ⟨⟨hN,UD⟩,TE,U9⟩ hno,λ_=>⟨rfl,hcf,_,eR _,rfl,rfl,rfl,rfl,rfl⟩⟩
  ·grind
 ·grind
theorem wH (hf:Fit i n m) (hi:s.own=i) (hn:s.n=n) (hk:m.kind=1):Askd s m (X.get z e s m)/\((X.get z e s m).2.Oy=true->s.Oy=true):=by
 unfold X.get;rw [hf.ok hi hn];simp only [bk,if_false];split
 ·rename_i ht;have e1:OJ z e (enter s (m.N.getD 0 0) (-1)) m=asked (enter s (m.N.getD 0 0) (-1)) m:=by unfold OJ;rw [ay hk]
  rw [e1];obtain ⟨a1,a2,a3,a4⟩:=rL (s:=enter s (m.N.getD 0 0) (-1)) (m:=m) (aP _);have e2:(enter s (m.N.getD 0 0) (-1)).Ow=m.N.getD 0 0:=rfl;refine ⟨⟨by rw [a1,e2];omega,λh=>?_,λh=>?_⟩,λh=>by rw [a2,fO _ ht] at h;cases h⟩
  ·have:=a3 (λg=>h ⟨g.1,by rw [a1,e2],.inl ht⟩);exact ⟨this.1,by rw [this.2,ay ht];rfl⟩
  ·have:=a4 ⟨h.1,rfl,.inl rfl⟩;refine ⟨this.1,this.2.1,?_⟩;rw [a1];exact this.2.2
 ·have e1:OJ z e s m=asked s m:=by unfold OJ;rw [ay hk]
  rw [e1];obtain ⟨a1,a2,a3,a4⟩:=rL (s:=s) (m:=m) az;refine ⟨⟨by rw [a1];omega,λh=>?_,λh=>?_⟩,λh=>by rw [a2] at h;exact h⟩
  ·grind
  ·grind
end
section
variable {ρ:Type} {z:ρ->Bool} {e:ρ}
variable {n i:Nat} {b b' M T:Int} {S S' S0 S1 S2 S3:Cs ρ} {G:Gh ρ} {m:Ms ρ} {s:Nd ρ} {r:List (Ms ρ)×Nd ρ} {ms q:List (Ms ρ)} {Λ:Nat} {l:Lg ρ}
theorem yB (hk:m.kind=2):(X.get z e s m).2.Ox=s.Ox:=by
 have O9:∀s1:Nd ρ,(OJ z e s1 m).2.Ox=s1.Ox:=λs1=>by
  unfold OJ;rw [am az,ay hk];exact Mk
 exact GN
def eh (S:Cs ρ) (i:Nat):Prop:=8<=(S.nd i).Ox+1/\np { S.nd i with OA:=(S.nd i).OA+1,Ox:=(S.nd i).Ox+1 }=true
structure Ev (T:Int) (S:Cs ρ):Prop where
 q:S.q=[]
 nd:∀i,S.up i=true->(S.nd i).Ow=T/\(S.nd i).Oy=false
def nx (s:Nd ρ):Nd ρ:={ s with OA:=s.OA+1,Ox:=s.Ox+1 }
theorem qk (hw:Wk z n b S) (hb:b+1<=1099511627776) (PT:n≠1) (hv:Ev T S) (i:Nat) (hu:S.up i=true) (hi:i<n) :
  (eh S i->X.tick z e (S.nd i)=(cP (dc (S.nd i)) (br (dc (S.nd i)) 1),dc (S.nd i))) /\
  (¬eh S i->(X.tick z e (S.nd i)).2=nx (S.nd i)/\(4<=(S.nd i).Ox+1->(X.tick z e (S.nd i)).1=cP (nx (S.nd i)) (br (nx (S.nd i)) 5))/\(¬4<=(S.nd i).Ox+1->(X.tick z e (S.nd i)).1=[])):=by
 obtain ⟨G,hG⟩:=hw;have OP:=hG.ni i hi;have SV:=hG.tb i hi;have hl:=(hv.nd i hu).2;rcases dT (z:=z) (e:=e) (S.nd i) with ⟨h1,h2⟩ | ⟨h1,h2,h3,h4⟩ | ⟨h1,h2,h3,h4⟩ | ⟨h1,h2,h3,h4⟩
 ·rw [hl] at h1;cases h1
 ·refine ⟨λ_=>?_,λhc=>absurd ⟨h2,h3⟩ hc⟩;rw [h4,fu p8 az,am (by rw [OP.nn];exact PT)]
 ·refine ⟨λhc=>absurd hc h2,λ_=>?_⟩;rw [h4];exact ⟨rfl,λ_=>rfl,λh=>absurd h3 h⟩
 ·refine ⟨λhc=>absurd hc h2,λ_=>?_⟩;rw [h4];exact ⟨rfl,λh=>by omega,λ_=>rfl⟩
def lW (s:Nd ρ) (k:Int):Int×Int×Int:=(k,(s.Oz.length:Int),bC s.Oz s.Oz.length)
structure EvR (T M:Int) (S S3:Cs ρ):Prop where
 ev:Ev M S3
 up:S3.up=S.up
 Oz:∀i,S.up i=true->(S3.nd i).Oz=(S.nd i).Oz
 OA:∀i,S.up i=true->(S3.nd i).OA=(S.nd i).OA+1
 heard:∀i,S.up i=true->∀j,(S3.nd i).heard.getD j (0,0,0)=(S.nd i).heard.getD j (0,0,0)\/(S.up j=true/\(S3.nd i).heard.getD j (0,0,0)=lW (S.nd j) ((S.nd i).OA+1:Nat))
 told:1<=T->∀i j,S.up i=true->S.up j=true->i≠j->¬eh S j->4<=(S.nd j).Ox+1->(S3.nd i).heard.getD j (0,0,0)=lW (S.nd j) ((S.nd i).OA+1:Nat)
 Ox:∀i,S.up i=true->¬eh S i->(S3.nd i).Ox=(S.nd i).Ox+1\/((S3.nd i).Ox=0/\∃c,S.up c=true/\eh S c/\jL (S.nd c).Oz (S.nd i).Oz)
 OV:∀c i,S.up c=true->eh S c->S.up i=true->jL (S.nd c).Oz (S.nd i).Oz->(S3.nd i).Ox=0
 candT:∀c,S.up c=true->eh S c->M=T+1/\(S3.nd c).Ox=0
 M:M=T\/M=T+1
structure Xo (n:Nat) (T:Int) (S:Cs ρ) (i:Nat) (s:Nd ρ):Prop where
 Oz:s.Oz=(S.nd i).Oz
 Oy:s.Oy=false
 OA:s.OA=(S.nd i).OA+1
 hl:s.heard.length=n
 heard:∀j,s.heard.getD j (0,0,0)=(S.nd i).heard.getD j (0,0,0)\/(S.up j=true/\s.heard.getD j (0,0,0)=lW (S.nd j) ((S.nd i).OA+1:Nat))
 nc:¬eh S i->(s.Ow=T/\s.Ox=(S.nd i).Ox+1)\/(s.Ow=T+1/\s.OC = -1/\s.Ox=(S.nd i).Ox+1)\/(s.Ow=T+1/\s.Ox=0/\∃c,S.up c=true/\eh S c/\jL (S.nd c).Oz (S.nd i).Oz/\s.OC=(c:Int))
 c:eh S i->s.Ow=T+1/\s.Ox=0/\s.OC=(i:Int)
theorem Xo.le (h:Xo n T S i s):T<=s.Ow:=by
 by_cases hc:eh S i
 ·have:=(h.c hc).1;omega
 ·rcases h.nc hc with g | g | g<;>omega
theorem y8 {c:Nat} (hl:s.Oz=l) (k4:m.N.length=3) (k5:m.N.getD 1 0=((S.nd c).Oz.length:Int)) (k6:m.N.getD 2 0=bC (S.nd c).Oz (S.nd c).Oz.length):l7 s m↔jL (S.nd c).Oz l:=by
 grind [l7,jL]
theorem Xo.ask {c:Nat} (h:Xo n T S i s) (hv:Ev T S) (O0:Fit i n m) (ho:s.own=i) (hn:s.n=n) (c1:S.up c=true) (c2:eh S c) (VX:c≠i) (k1:m.kind=1) (k2:m.N.getD 0 0=T+1) (k3:m.OD=(c:Int)) (k4:m.N.length=3) (k5:m.N.getD 1 0=((S.nd c).Oz.length:Int)) (k6:m.N.getD 2 0=bC (S.nd c).Oz (S.nd c).Oz.length) (hT:0<=T) (hck:(X.get z e s m).2.OA=s.OA) :
  Xo n T S i (X.get z e s m).2/\(¬eh S i->jL (S.nd c).Oz (S.nd i).Oz->(X.get z e s m).2.Ox=0):=by
 obtain ⟨b1,b2,b3,b4,b5,b6,b7⟩:=h;have hyes:l7 s m↔jL (S.nd c).Oz (S.nd i).Oz:=y8 b1 k4 k5 k6;obtain ⟨ak,al⟩:=wH (z:=z) (e:=e) O0 ho hn k1;have hl2:(X.get z e s m).2.Oy=false:=by
  grind
 have Pz:=iw (z:=z) (e:=e) (s:=s) (m:=m) az (.inl hl2);have hhe:=pv (z:=z) (e:=e) (s:=s) (m:=m) az;have key:¬eh S i->(((X.get z e s m).2.Ow=T+1/\(X.get z e s m).2.OC = -1/\(X.get z e s m).2.Ox=(S.nd i).Ox+1/\¬jL (S.nd c).Oz (S.nd i).Oz)\/((X.get z e s m).2.Ow=T+1/\(X.get z e s m).2.Ox=0/\∃c,S.up c=true/\eh S c/\jL (S.nd c).Oz (S.nd i).Oz/\(X.get z e s m).2.OC=(c:Int))):=λSi=>by
  have SU:s.Ow=T\/s.Ow=T+1:=by
   grind
  have ht1:(X.get z e s m).2.Ow=T+1:=by rw [ak.Ow,k2];omega
  by_cases hY:l7 s m/\m.N.getD 0 0=(X.get z e s m).2.Ow/\(s.Ow<m.N.getD 0 0\/s.OC = -1\/s.OC=m.OD)
  ·grind [ak.yes]
  ·grind [ak.no]
 refine ⟨⟨Pz.trans b1,hl2,hck.trans b3,by rw [hhe];exact b4,by rw [hhe];exact b5,λSi=>?_,λhc=>?_⟩,λSi hU=>?_⟩
 ·grind
 ·obtain ⟨d1,d2,d3⟩:=b7 hc;have hno:¬(l7 s m/\m.N.getD 0 0=(X.get z e s m).2.Ow/\(s.Ow<m.N.getD 0 0\/s.OC = -1\/s.OC=m.OD)):=λhY=>by
   rcases hY.2.2 with g | g | g<;>omega
  obtain ⟨y1,y2⟩:=ak.no hno;exact ⟨by rw [ak.Ow,k2];omega,by rw [y1];exact d2,by rw [y2,am az];exact d3⟩
 ·grind
theorem Xo.tell {c:Nat} (h:Xo n T S i s) (O0:1<=m.N.getD 0 0->Fit i n m) (ho:s.own=i) (hn:s.n=n) (c1:S.up c=true) (UY:c<n) (k1:m.kind=5) (k2:m.N.getD 0 0=T) (k3:m.OD=(c:Int)) (k4:m.N.length=3) (k5:m.N.getD 1 0=((S.nd c).Oz.length:Int)) (k6:m.N.getD 2 0=bC (S.nd c).Oz (S.nd c).Oz.length) :
  Xo n T S i (X.get z e s m).2/\(X.get z e s m).1=[]/\(∀j,(X.get z e s m).2.heard.getD j (0,0,0)=s.heard.getD j (0,0,0)\/(X.get z e s m).2.heard.getD j (0,0,0)=lW (S.nd j) ((S.nd i).OA+1:Nat))/\(1<=T->(X.get z e s m).2.heard.getD c (0,0,0)=lW (S.nd c) ((S.nd i).OA+1:Nat)):=by
 have hle:=h.le;obtain ⟨b1,b2,b3,b4,b5,b6,b7⟩:=h;by_cases hT1:1<=T
 ·have hg:=Fc (z:=z) (e:=e) (O0 az) ho hn k1 k4 az;have hset:∀j,(s.heard.set m.OD.toNat ((s.OA:Int),m.N.getD 1 0,m.N.getD 2 0)).getD j (0,0,0)=if j=c then lW (S.nd c) ((S.nd i).OA+1:Nat) else s.heard.getD j (0,0,0):=λj=>by
   rw [aL,jA];by_cases e1:m.OD.toNat=j
   ·have hjc:j=c:=by omega
    subst hjc;rw [ay e1,ay (by rw [b4,e1];exact UY),ay rfl];rw [b3,k5,k6];rfl
   ·grind
  rw [hg];refine ⟨⟨b1,b2,b3,by show (List.set _ _ _).length=n;rw [cY];exact b4,λj=>?_,b6,b7⟩,rfl,λj=>?_,λ_=>?_⟩
  ·grind
  ·grind
  ·grind
 ·have hg:=ox (z:=z) (e:=e) (s:=s) (m:=m) az;rw [hg];exact ⟨⟨b1,b2,b3,b4,b5,b6,b7⟩,rfl,λj=>.inl rfl,λh=>absurd h hT1⟩
structure EvG (z:ρ->Bool) (e:ρ) (n:Nat) (b M T:Int) (S S1 S3:Cs ρ):Prop where
 ZP:∀i,S.up i=true->0<=T
 hA:∀i,S.up i=true->(eh S i->(S.Ox z e n).nd i=dc (S.nd i))/\(¬eh S i->(S.Ox z e n).nd i=nx (S.nd i))
 hx:∀x∈(S.Ox z e n).q,(∃c d,S.up c=true/\eh S c/\d≠c/\x=br (dc (S.nd c)) 1 d)\/(∃c d,S.up c=true/\¬eh S c/\d≠c/\x=br (nx (S.nd c)) 5 d)
 hcq:∀c d,S.up c=true->eh S c->d<n->d≠c->br (dc (S.nd c)) 1 d∈(S.Ox z e n).q
 Xv:∀c,S.up c=true->eh S c->((S.Ox z e n).nd c).Ow=T+1
 VR:∀c,S.up c=true->¬eh S c->((S.Ox z e n).nd c).Ow=T
 hM:M=T\/M=T+1
 hMc:∀c,S.up c=true->eh S c->M=T+1
 Uc:∀m∈(S.Ox z e n).q,m.N.getD 0 0<=M
 p0:Ph z n (b+1) M (S.Ox z e n).q (S.Ox z e n).Pc (S.Ox z e n).Pc
 P1:Ph z n (b+1) M (S.Ox z e n).q (S.Ox z e n).Pc S1
 E1:∀i,S.up i=true->Xo n T S i (S1.nd i)
 K1:∀x∈S1.q,x.kind=2
 EVH:1<=T->∀i j,S.up i=true->S.up j=true->i≠j->¬eh S j->4<=(S.nd j).Ox+1->(S1.nd i).heard.getD j (0,0,0)=lW (S.nd j) ((S.nd i).OA+1:Nat)
 EVT:∀c i,S.up c=true->eh S c->S.up i=true->jL (S.nd c).Oz (S.nd i).Oz->(S1.nd i).Ox=0
 EVV:∀c v,S.up c=true->eh S c->(∀c',S.up c'=true->eh S c'->c'=c)->S.up v=true->v≠c->jL (S.nd c).Oz (S.nd v).Oz->∃x∈S1.q,x.kind=2/\x.dst=(c:Int)/\x.OD=(v:Int)/\x.N.getD 0 0=T+1/\x.N.getD 1 0=1
theorem JU (hw:Wk z n b S) (hn:n<=5) (PT:n≠1) (hb:b+1<=1099511627776) (hv:Ev T S) (h:Rd z e n b M Λ S S1 S2 S3) (h1:S1=(S.Ox z e n).Pc.dl z e (S.Ox z e n).q):EvG z e n b M T S S1 S3:=by
 obtain ⟨t1,t2,t3⟩:=dL (z:=z) (e:=e) n S;have hwA:=hw.Ox (e:=e) hb;have O2:∀i,S.up i=true->i<n:=Hf;have hown:∀i,i<n->(S.nd i).own=i/\(S.nd i).n=n:=Nm;have ZP:∀i,S.up i=true->0<=T:=λi hi=>by
  obtain ⟨G,hG⟩:=hw;have:=(hG.ni i (O2 i hi)).t0;rw [(hv.nd i hi).1] at this;exact this
 have hA:∀i,S.up i=true->(eh S i->(S.Ox z e n).nd i=dc (S.nd i))/\(¬eh S i->(S.Ox z e n).nd i=nx (S.nd i)):=λi hi=>by
  grind [qk]
 have hx:∀x∈(S.Ox z e n).q,(∃c d,S.up c=true/\eh S c/\d≠c/\x=br (dc (S.nd c)) 1 d)\/(∃c d,S.up c=true/\¬eh S c/\d≠c/\x=br (nx (S.nd c)) 5 d):=λx hx=>by
  rcases (t3 x).1 hx with g | ⟨c,c1,c2,c3⟩
  ·rw [hv.q] at g;cases g
  ·have ht:=qk (e:=e) hw hb PT hv c c2 c1;by_cases hc:eh S c
   ·rw [ht.1 hc] at c3;obtain ⟨d,d1,d2,rfl⟩:=cT _ _ _ c3;have d2:d≠(S.nd c).own:=d2;exact .inl ⟨c,d,c2,hc,by rw [(hown c c1).1] at d2;exact d2,rfl⟩
   ·obtain ⟨g1,g2,g3⟩:=ht.2 hc;by_cases h4:4<=(S.nd c).Ox+1
    ·rw [g2 h4] at c3;obtain ⟨d,d1,d2,rfl⟩:=cT _ _ _ c3;have d2:d≠(S.nd c).own:=d2;exact .inr ⟨c,d,c2,hc,by rw [(hown c c1).1] at d2;exact d2,rfl⟩
    ·rw [g3 h4] at c3;cases c3
 have hcq:∀c d,S.up c=true->eh S c->d<n->d≠c->br (dc (S.nd c)) 1 d∈(S.Ox z e n).q:=λc d c1 c2 d1 d2=>by
  have ht:=qk (e:=e) hw hb PT hv c c1 (O2 c c1);refine (t3 _).2 (.inr ⟨c,O2 c c1,c1,?_⟩);rw [ht.1 c2];exact Mm
 have hhq:∀c d,S.up c=true->¬eh S c->4<=(S.nd c).Ox+1->d<n->d≠c->br (nx (S.nd c)) 5 d∈(S.Ox z e n).q:=λc d c1 c2 c3 d1 d2=>by
  have ht:=qk (e:=e) hw hb PT hv c c1 (O2 c c1);refine (t3 _).2 (.inr ⟨c,O2 c c1,c1,?_⟩);rw [(ht.2 c2).2.1 c3];exact Mm
 have Xv:∀c,S.up c=true->eh S c->((S.Ox z e n).nd c).Ow=T+1:=λc c1 c2=>by
  rw [(hA c c1).1 c2];show (S.nd c).Ow+1=_;rw [(hv.nd c c1).1]
 have VR:∀c,S.up c=true->¬eh S c->((S.Ox z e n).nd c).Ow=T:=λc c1 c2=>by
  rw [(hA c c1).2 c2];exact (hv.nd c c1).1
 have hM:M=T\/M=T+1:=by
  grind [h.top]
 have hMc:∀c,S.up c=true->eh S c->M=T+1:=λc c1 c2=>by
  have h3:=h.ub c c1;have h4:=h.Ow c;rw [Xv c c1 c2] at h4;rcases hM with g | g<;>omega
 have Xu:=h.ra.b1;have Uc:∀m∈(S.Ox z e n).q,m.N.getD 0 0<=M:=λm hm=>by
  rcases hx m hm with ⟨c,d,c1,c2,_,rfl⟩ | ⟨c,d,c1,c2,_,rfl⟩
  ·show (S.nd c).Ow+1<=M;rw [(hv.nd c c1).1,hMc c c1 c2];exact aP _
  ·show (S.nd c).Ow<=M;rw [(hv.nd c c1).1];rcases hM with g | g<;>omega
 have ubA:UB M (S.Ox z e n).Pc:=⟨λi hi=>by
  have hi:S.up i=true:=by rw [<-t2];exact hi
  show ((S.Ox z e n).nd i).Ow<=M;by_cases hc:eh S i
  ·grind
  ·rw [VR i hi hc];rcases hM with g | g<;>omega,λm hm=>by cases hm⟩
 have p0:Ph z n (b+1) M (S.Ox z e n).q (S.Ox z e n).Pc (S.Ox z e n).Pc:=Ph.start hwA.Ys ubA;have step:∀(S':Cs ρ) (m:Ms ρ),(Ph z n (b+1) M (S.Ox z e n).q (S.Ox z e n).Pc S'/\(∀i,S.up i=true->Xo n T S i (S'.nd i))/\∀x∈S'.q,x.kind=2)->m∈(S.Ox z e n).q->(Ph z n (b+1) M (S.Ox z e n).q (S.Ox z e n).Pc (S'.bring z e m)/\(∀i,S.up i=true->Xo n T S i ((S'.bring z e m).nd i))/\∀x∈(S'.bring z e m).q,x.kind=2) /\
   ∀i,S.up i=true->m.dst=(i:Int)->(S'.bring z e m).nd i=(X.get z e (S'.nd i) m).2/\(∀c d,S.up c=true->eh S c->m=br (dc (S.nd c)) 1 d->¬eh S i->jL (S.nd c).Oz (S.nd i).Oz->((S'.bring z e m).nd i).Ox=0)/\(∀c d,S.up c=true->m=br (nx (S.nd c)) 5 d->1<=T->((S'.bring z e m).nd i).heard.getD c (0,0,0)=lW (S.nd c) ((S.nd i).OA+1:Nat))/\(∀j,((S'.bring z e m).nd i).heard.getD j (0,0,0)=(S'.nd i).heard.getD j (0,0,0)\/((S'.bring z e m).nd i).heard.getD j (0,0,0)=lW (S.nd j) ((S.nd i).OA+1:Nat)):=λS' m hI hm=>by
  obtain ⟨a1,a2,a3⟩:=hI;obtain ⟨g1,i,g2,g3,g4,g5,g6⟩:=a1.take (e:=e) hb hm (Uc m hm);have hup':S'.up=S.up:=by rw [a1.up];exact t2
  cases hu:S'.up i with
  | false =>
   refine ⟨⟨g1,by rw [g6 hu];exact a2,by rw [g6 hu];exact a3⟩,λi' hi' hd=>?_⟩;have:i'=i:=az;subst this;rw [hup',hi'] at hu;cases hu
  | true =>
   have XY:S.up i=true:=by rw [<-hup'];exact hu
   have hE:=a2 i XY;have hT:=ZP i XY;obtain ⟨G,hG,Rn⟩:=a1.wk;have OP:=hG.ni i g2;have O0:1<=m.N.getD 0 0->Fit i n m:=λh1=>by
    obtain ⟨i5,_,e5,_,O0⟩:=(Rn m hm).2.fit hb h1;obtain rfl:i5=i:=az;exact O0
   have hno5:(m.kind=1->∀c d,m≠br (nx (S.nd c)) 5 d)/\(m.kind=5->∀c d,m≠br (dc (S.nd c)) 1 d):=⟨λh c d hh=>(by rw [hh] at h;cases h),λh c d hh=>(by rw [hh] at h;cases h)⟩
   have fin:Xo n T S i (X.get z e (S'.nd i) m).2->(∀x∈(X.get z e (S'.nd i) m).1,x.kind=2)->(∀i,S.up i=true->Xo n T S i ((S'.bring z e m).nd i))/\∀x∈(S'.bring z e m).q,x.kind=2:=λh1 h2=>by
    rw [g5 hu];refine ⟨λi' hi'=>?_,λx hx=>?_⟩
    ·grind [bf]
    ·grind [dS,aA.1]
   have hbr:(S'.bring z e m).nd i=(X.get z e (S'.nd i) m).2:=by rw [g5 hu,bf,ay rfl]
   have hdi:∀i':Nat,m.dst=(i':Int)->i'=i:=λi' h=>az;rcases hx m hm with ⟨c,d,c1,c2,c3,TS⟩ | ⟨c,d,c1,c2,c3,TS⟩
   ·have UY:=hown c (O2 c c1);have k1:m.kind=1:=vO;have k2:m.N.getD 0 0=T+1:=by rw [TS];show (S.nd c).Ow+1=_;rw [(hv.nd c c1).1]
    have k3:m.OD=(c:Int):=Nh;have VX:c≠i:=λe1=>by
     subst e1;obtain ⟨i2,f,_,_,f3,f4,f5⟩:=(Rn m hm).2.f;omega
    obtain ⟨r1,r2⟩:=hE.ask (z:=z) (e:=e) hv (O0 az) OP.own OP.nn c1 c2 VX k1 k2 k3 vO vO vO hT g4.OA;have hhe:=pv (z:=z) (e:=e) (s:=S'.nd i) (m:=m) az;refine ⟨⟨g1,fin r1 (λx hx=>?_)⟩,λi' hi' hd=>?_⟩
    ·obtain ⟨_,_,_,o,_⟩:=g4.out x hx;rcases o with o | o | o | o
     ·exact o.2.1
     ·omega
     ·omega
     ·omega
    ·obtain rfl:=hdi i' hd;rw [hbr];refine ⟨rfl,λc' d' h1 h2 h3 h4 h5=>?_,λc' d' _ h2=>absurd h2 (hno5.1 k1 c' d'),λj=>.inl (by rw [hhe])⟩;have hc':c'=c:=by
      have:m.OD=((S.nd c').own:Int):=by rw [h3];rfl
      rw [(hown c' (O2 c' h1)).1] at this;omega
     subst hc';exact r2 h4 h5
   ·have UY:=hown c (O2 c c1);have k1:m.kind=5:=vO;have k2:m.N.getD 0 0=T:=by rw [TS];show (S.nd c).Ow=_;rw [(hv.nd c c1).1]
    have k3:m.OD=(c:Int):=Nh;obtain ⟨r1,r2,r3,r4⟩:=hE.tell (z:=z) (e:=e) O0 OP.own OP.nn c1 (O2 c c1) k1 k2 k3 vO vO vO;refine ⟨⟨g1,fin r1 (λx hx=>by rw [r2] at hx;cases hx)⟩,λi' hi' hd=>?_⟩;obtain rfl:=hdi i' hd;rw [hbr];refine ⟨rfl,λc' d' _ _ h3=>absurd h3 (hno5.2 k1 c' d'),λc' d' h1 h2 h3=>?_,r3⟩;have hc':c'=c:=by
     have:m.OD=((S.nd c').own:Int):=by rw [h2];rfl
     rw [(hown c' (O2 c' h1)).1] at this;omega
    subst hc';exact r4 h3
 have start:Ph z n (b+1) M (S.Ox z e n).q (S.Ox z e n).Pc (S.Ox z e n).Pc/\(∀i,S.up i=true->Xo n T S i ((S.Ox z e n).Pc.nd i))/\∀x∈(S.Ox z e n).Pc.q,x.kind=2:=⟨p0,λi hi=>by
   obtain ⟨G,hG⟩:=hw;have hh:=(hG.ln i (O2 i hi)).hl;rw [(hown i (O2 i hi)).2] at hh;have e1:(S.Ox z e n).Pc.nd i=(S.Ox z e n).nd i:=rfl;rw [e1];by_cases hc:eh S i
   ·rw [(hA i hi).1 hc];exact ⟨rfl,by show ((S.nd i).Oy&&_)=false;rw [(hv.nd i hi).2];rfl,rfl,hh,λj=>.inl rfl,λSi=>absurd hc Si,λ_=>⟨by show (S.nd i).Ow+1=_;rw [(hv.nd i hi).1],rfl,by show (((S.nd i).own:Nat):Int)=_;rw [(hown i (O2 i hi)).1]⟩⟩
   ·rw [(hA i hi).2 hc];exact ⟨rfl,(hv.nd i hi).2,rfl,hh,λj=>.inl rfl,λ_=>.inl ⟨(hv.nd i hi).1,rfl⟩,λhc2=>absurd hc2 hc⟩,λx hx=>by cases hx⟩
 obtain ⟨P1,E1,K1⟩:=fH (z:=z) (e:=e) (ms:=(S.Ox z e n).q) (S:=(S.Ox z e n).Pc) (λS' m hI hm=>(step S' m hI hm).1) start;have EVH:1<=T->∀i j,S.up i=true->S.up j=true->i≠j->¬eh S j->4<=(S.nd j).Ox+1->(((S.Ox z e n).Pc.dl z e (S.Ox z e n).q).nd i).heard.getD j (0,0,0)=lW (S.nd j) ((S.nd i).OA+1:Nat):=λhT1 i j hi hj YU hcj h4=>by
  have Rc:=hhq j i hj hcj h4 (O2 i hi) YU;refine rB (z:=z) (e:=e) (P:=λS'=>(S'.nd i).heard.getD j (0,0,0)=lW (S.nd j) ((S.nd i).OA+1:Nat)) Rc (λS' m hI hm=>(step S' m hI hm).1) (λS' hI=>?_) (λS' m hI hm hP=>?_) start
  ·exact ((step S' _ hI Rc).2 i hi rfl).2.2.1 j i hj rfl hT1
  ·obtain ⟨g1,i2,g2,g3,g4,g5,g6⟩:=hI.1.take (e:=e) hb hm (Uc m hm);by_cases e1:i2=i
   ·grind
   ·cases hu:S'.up i2 with
    | false=>rw [g6 hu];exact hP
    | true=>rw [g5 hu,bf,am (F5 e1)];exact hP
 have EVT:∀c i,S.up c=true->eh S c->S.up i=true->jL (S.nd c).Oz (S.nd i).Oz->(((S.Ox z e n).Pc.dl z e (S.Ox z e n).q).nd i).Ox=0:=λc i hc1 hc2 hi hU=>by
  by_cases VX:eh S i
  ·exact ((E1 i hi).c VX).2.1
  ·have hic:i≠c:=λe1=>VX (e1 ▸ hc2);have Rc:=hcq c i hc1 hc2 (O2 i hi) hic;refine rB (z:=z) (e:=e) (P:=λS'=>(S'.nd i).Ox=0) Rc (λS' m hI hm=>(step S' m hI hm).1) (λS' hI=>?_) (λS' m hI hm hP=>?_) start
   ·exact ((step S' _ hI Rc).2 i hi rfl).2.1 c i hc1 hc2 rfl VX hU
   ·obtain ⟨g1,i2,g2,g3,g4,g5,g6⟩:=hI.1.take (e:=e) hb hm (Uc m hm);cases hu:S'.up i2 with
    | false=>rw [g6 hu];exact hP
    | true =>
     rw [g5 hu,bf];split
     ·grind [g4.Ox]
     ·exact hP
 have EVV:∀c v,S.up c=true->eh S c->(∀c',S.up c'=true->eh S c'->c'=c)->S.up v=true->v≠c->jL (S.nd c).Oz (S.nd v).Oz->∃x∈((S.Ox z e n).Pc.dl z e (S.Ox z e n).q).q,x.kind=2/\x.dst=(c:Int)/\x.OD=(v:Int)/\x.N.getD 0 0=T+1/\x.N.getD 1 0=1:=λc v hc1 hc2 PL hvu hvc hU=>by
  have Si:¬eh S v:=λg=>hvc (PL v hvu g);have Rc:=hcq c v hc1 hc2 (O2 v hvu) hvc;refine rB (z:=z) (e:=e) (P:=λS'=>∃x∈S'.q,x.kind=2/\x.dst=(c:Int)/\x.OD=(v:Int)/\x.N.getD 0 0=T+1/\x.N.getD 1 0=1) Rc (λS' m hI hm=>(step S' m hI hm).1) (λS' hI=>?_) (λS' m hI hm hP=>?_) start
  ·obtain ⟨g1,i,g2,g3,g4,g5,g6⟩:=hI.1.take (e:=e) hb Rc (Uc _ Rc);have hd:(br (dc (S.nd c)) 1 v).dst=(v:Int):=rfl;obtain rfl:i=v:=az;have hu:S'.up i=true:=by rw [hI.1.up];show (S.Ox z e n).up i=true;rw [t2];exact hvu
   rw [g5 hu];obtain ⟨G,hG,Rn⟩:=hI.1.wk;have OP:=hG.ni i g2;have hE:=hI.2.1 i hvu;have hT:=ZP i hvu;have k2:(br (dc (S.nd c)) 1 i).N.getD 0 0=T+1:=by show (S.nd c).Ow+1=_;rw [(hv.nd c hc1).1]
   have k3:(br (dc (S.nd c)) 1 i).OD=(c:Int):=by show (((S.nd c).own:Nat):Int)=_;rw [(hown c (O2 c hc1)).1]
   obtain ⟨i5,_,e5,_,O0⟩:=(Rn _ Rc).2.fit hb az;obtain rfl:i5=i:=az;obtain ⟨ak,_⟩:=wH (z:=z) (e:=e) O0 OP.own OP.nn rfl;have hyes:=(y8 (l:=(S.nd i5).Oz) (m:=br (dc (S.nd c)) 1 i5) (S:=S) (c:=c) hE.Oz rfl rfl rfl).2 hU;have SU:(S'.nd i5).Ow=T\/(S'.nd i5).Ow=T+1:=by
    grind [hE.nc]
   have ht1:(X.get z e (S'.nd i5) (br (dc (S.nd c)) 1 i5)).2.Ow=T+1:=by rw [ak.Ow,k2];omega
   obtain ⟨_,_,x,x1,x2,x3,x4,x5,x6⟩:=ak.yes ⟨hyes,by rw [k2,ht1],by
    rcases hE.nc Si with g | g | g
    ·exact .inl az
    ·exact .inr (.inl g.2.1)
    ·obtain ⟨_,_,c',g3,g4,_,g5⟩:=g;rw [PL c' g3 g4] at g5;exact .inr (.inr (by rw [g5,k3]))⟩
   exact ⟨x,aR _ x1,x2,by rw [x3,k3],by rw [x4,OP.own],by rw [x5,ht1],x6⟩
  ·obtain ⟨x,x1,x2⟩:=hP;obtain ⟨o,o1,_⟩:=uy (z:=z) (e:=e) S' m;exact ⟨x,by rw [o1];exact aI _ x1,x2⟩
 rw [<-h1] at P1 E1 K1 EVH EVT EVV;exact ⟨ZP,hA,hx,hcq,Xv,VR,hM,hMc,Uc,p0,P1,E1,K1,EVH,EVT,EVV⟩
theorem oy (hw:Wk z n b S) (hn:n<=5) (PT:n≠1) (hb:b+1<=1099511627776) (hv:Ev T S) (h:Rd z e n b M Λ S S1 S2 S3) (h1:S1=(S.Ox z e n).Pc.dl z e (S.Ox z e n).q) (h2:S2=S1.Pc.dl z e S1.q) (PD:∀i,S.up i=true->(S3.nd i).Oy=false):EvR T M S S3:=by
 obtain ⟨t1,t2,t3⟩:=dL (z:=z) (e:=e) n S;obtain ⟨ZP,hA,hx,hcq,Xv,VR,hM,hMc,Uc,p0,P1,E1,K1,EVH,EVT,_⟩:=JU hw hn PT hb hv h h1;have w1:=h.ra.w1.Ys;have u1:S1.up=S.up:=h.ra.u1.trans t2;have Yt:UB M S1.Pc:=⟨h.ra.b1.nd,λm hm=>by cases hm⟩
 have p1:Ph z n (b+1) M S1.q S1.Pc S1.Pc:=Ph.start w1 Yt;have Vy:=h.ra.b1.q;have hS1M:S1.q≠[]->∀i,S.up i=true->M<=(S1.nd i).Ow:=λhne i hi=>by
  have hex:∃c,S.up c=true/\eh S c:=by
   apply bz;intro hno;apply hne;have:∀x∈(S.Ox z e n).q,x.kind=5:=λx hxq=>by
    rcases hx x hxq with ⟨c,d,c1,c2,_⟩ | ⟨c,d,c1,c2,_,rfl⟩
    ·exact absurd ⟨c,c1,c2⟩ hno
    ·rfl
   rw [h1];refine (fH (z:=z) (e:=e) (ms:=(S.Ox z e n).q) (S:=(S.Ox z e n).Pc) (Inv:=λS'=>Ph z n (b+1) M (S.Ox z e n).q (S.Ox z e n).Pc S'/\S'.q=[]) (λS' m hI hm=>?_) ⟨p0,rfl⟩).2;obtain ⟨g1,i2,g2,g3,g4,g5,g6⟩:=hI.1.take (e:=e) hb hm (Uc m hm);refine ⟨g1,?_⟩;cases hu:S'.up i2 with
   | false=>rw [g6 hu];exact hI.2
   | true =>
    rw [g5 hu,dS,hI.2,cC,dg];intro x hx2;obtain ⟨_,_,_,o,_⟩:=g4.out x hx2;have:=this m hm;rcases o with o | o | o | o<;>omega
  obtain ⟨c,c1,c2⟩:=hex;have hMT:=hMc c c1 c2;have:=h.all1 c c1 (by rw [Xv c c1 c2,hMT]) (by have:=ZP c c1;omega) (λd d1 d2=>⟨_,hcq c d c1 c2 d1 d2,rfl,by show (S.nd c).Ow+1=M;rw [(hv.nd c c1).1,hMT]⟩) i hi;omega
 have I2:=fH (z:=z) (e:=e) (ms:=S1.q) (S:=S1.Pc) (Inv:=λS'=>Ph z n (b+1) M S1.q S1.Pc S'/\((∃l,S.up l=true/\(S'.nd l).Oy=true/\(S'.nd l).Ow=M)\/(S'.q=[]/\∀i,S.up i=true->(S'.nd i).Oz=(S1.nd i).Oz/\(S'.nd i).heard=(S1.nd i).heard/\(S'.nd i).Ox=(S1.nd i).Ox/\(S'.nd i).Oy=false))) (λS' m hI hm=>by
  obtain ⟨a1,a2⟩:=hI;obtain ⟨g1,i,g2,g3,g4,g5,g6⟩:=a1.take (e:=e) hb hm (Vy m hm);refine ⟨g1,?_⟩;rcases a2 with ⟨l,l1,l2,l3⟩ | ⟨q1,q2⟩
  ·exact .inl ⟨l,l1,a1.lead hb hm (Vy m hm) KQ ⟨l2,l3⟩⟩
  ·cases hu:S'.up i with
   | false=>rw [g6 hu];exact .inr ⟨q1,q2⟩
   | true =>
    have XY:S.up i=true:=KT;have k2:=K1 m hm;have hne:S1.q≠[]:=λe1=>by rw [e1] at hm;cases hm
    cases hl:(X.get z e (S'.nd i) m).2.Oy with
    | true =>
     left;refine ⟨i,XY,?_⟩;have Xu:=g1.ub.nd i (by rw [jq];exact hu);rw [g5 hu,bf,ay rfl] at Xu ⊢;refine ⟨hl,?_⟩;have h3:=hS1M hne i XY;have h4:=a1.Ow i;have e4:(S1.Pc.nd i).Ow=(S1.nd i).Ow:=rfl;have h5:=g4.up;omega
    | false =>
     right;rw [g5 hu];have Pz:=iw (z:=z) (e:=e) (s:=S'.nd i) (m:=m) az (.inl hl);have hhe:=pv (z:=z) (e:=e) (s:=S'.nd i) (m:=m) az;have UW:=yB (z:=z) (e:=e) (s:=S'.nd i) (m:=m) k2;refine ⟨?_,λi' hi'=>?_⟩
     ·rw [dS,q1,cC,dg];intro x hx2;obtain ⟨_,_,_,o,o5⟩:=g4.out x hx2;have:x.kind=3:=by rcases o with o | o | o | o<;>omega
      have:=o5 this;rw [hl] at this;cases this
     ·rw [bf];by_cases e1:i'=i
      ·subst e1;rw [ay rfl];obtain ⟨d1,d2,d3,_⟩:=q2 i' hi';exact ⟨Pz.trans d1,hhe.trans d2,UW.trans d3,hl⟩
      ·rw [am e1];exact q2 i' hi') ⟨p1,.inr ⟨rfl,λi hi=>⟨rfl,rfl,rfl,(E1 i hi).Oy⟩⟩⟩
 rw [<-h2] at I2;obtain ⟨P2,I2⟩:=I2;have u2:S2.up=S.up:=h.ra.u2.trans t2;rcases I2 with ⟨l,l1,l2,l3⟩ | ⟨q1,q2⟩
 ·exfalso;have:=(h.kp.lead l (by rw [u2];exact l1) l2).1;rw [PD l l1] at this;cases this
 ·have h32:=h.same q1;have SU:∀i,S.up i=true->(S3.nd i).Ow=M:=λi hi=>by
   have h3:=h.ub i hi;have h4:=h.Ow i;rcases hM with g | g
   ·by_cases hc:eh S i
    ·have:=hMc i hi hc;omega
    ·rw [VR i hi hc] at h4;omega
   ·obtain ⟨y,y1,y2,y3⟩:=h.top;have hcy:eh S y:=by
     apply bz;intro hc;rw [VR y y2 hc] at y3;omega
    exact h.all y y2 y3 (by have:=ZP y y2;omega) (λd d1 d2=>⟨_,hcq y d y2 hcy d1 d2,rfl,by show (S.nd y).Ow+1=M;rw [(hv.nd y y2).1,g]⟩) i hi
  refine ⟨⟨h.q,λi hi=>⟨SU i G8,PD i G8⟩⟩,h.up,λi hi=>?_,λi hi=>?_,λi hi j=>?_,λhT1 i j hi hj YU hc h4=>?_,λi hi hc=>?_,λc i hc1 hc2 hi hU=>?_,λc hc1 hc2=>⟨hMc c hc1 hc2,?_⟩,hM⟩
  ·rw [h32,(q2 i hi).1];exact (E1 i hi).Oz
  ·rw [h.OA];by_cases hc:eh S i
   ·rw [(hA i hi).1 hc];rfl
   ·rw [(hA i hi).2 hc];rfl
  ·rw [h32,(q2 i hi).2.1];exact (E1 i hi).heard j
  ·rw [h32,(q2 i hi).2.1];exact EVH hT1 i j hi hj YU hc h4
  ·rw [h32,(q2 i hi).2.2.1];rcases (E1 i hi).nc hc with g | g | g
   ·exact .inl g.2
   ·exact .inl g.2.2
   ·obtain ⟨_,g2,c,g3,g4,g5,_⟩:=g;exact .inr ⟨g2,c,g3,g4,g5⟩
  ·rw [h32,(q2 i hi).2.2.1];exact EVT c i hc1 hc2 hi hU
  ·rw [h32,(q2 c hc1).2.2.1];exact ((E1 c hc1).c hc2).2.1
end
section
variable {ρ:Type} {z:ρ->Bool} {e:ρ}
variable {n i:Nat} {b b' M T:Int} {S S' S0 S1 S2 S3:Cs ρ} {G:Gh ρ} {m:Ms ρ} {s:Nd ρ} {r:List (Ms ρ)×Nd ρ} {ms q:List (Ms ρ)} {Λ:Nat} {l:Lg ρ}
theorem pu (h1:m.kind≠1) (h3:m.kind≠3):(X.get z e s m).2.Ox=s.Ox:=by
 have O9:∀s1:Nd ρ,(OJ z e s1 m).2.Ox=s1.Ox:=λs1=>by
  unfold OJ;rw [am h1];split
  ·exact Mk
  ·grind [answered,df]
 exact GN
theorem zO (h:m.kind=1\/m.kind=3) (ht:m.N.getD 0 0<s.Ow):(X.get z e s m).2.Ox=s.Ox:=by
 unfold X.get;split
 ·rfl
 ·grind [OJ,rL,lays]
theorem BJ (h:m.kind≠2):(X.get z e s m).2.OB=s.OB:=by
 have O9:∀s1:Nd ρ,(OJ z e s1 m).2.OB=s1.OB:=λs1=>by
  unfold OJ;split
  ·exact Kr
  ·split
   ·unfold lays;split
    ·rfl
    ·split
     ·rfl
     ·simp only;split
      ·obtain ⟨_,_,k3⟩:=wi (m.N.getD 1 0).toNat ((m.N.drop 4).zip m.B) 0 { s1 with Ox:=0 };generalize bH (m.N.getD 1 0).toNat ((m.N.drop 4).zip m.B) 0 { s1 with Ox:=0 }=p at *;split
       ·unfold X.agree;split<;>exact k3
       ·exact k3
      ·rfl
   ·grind [answered,df]
 exact GN
def Nl (S:Cs ρ):Prop:=S.q=[]/\∀i,S.up i=true->(S.nd i).Oy=false
theorem CZ (hw:Wk z n b S) (hn:n<=5) (PT:n≠1) (hb:b+1<=1099511627776) (hv:Nl S) (h:Rd z e n b M Λ S S1 S2 S3) (h1:S1=(S.Ox z e n).Pc.dl z e (S.Ox z e n).q) (h2:S2=S1.Pc.dl z e S1.q) (hd:∃k,S3=Cs.drain z e k S2/\Ul n S2<=k) (PD:∀i,S.up i=true->(S3.nd i).Oy=false)
  {y:Nat} (hy:S.up y=true) (hmax:∀i,S.up i=true->(S.nd i).Ow<=(S.nd y).Ow) :
  (∃T,Ev T S3)\/((∀i,S.up i=true->(S3.nd i).Ow<=(S3.nd y).Ow)/\(S3.nd y).Ox=(S.nd y).Ox+1/\(S.nd y).Ox+1<4):=by
 obtain ⟨t1,t2,t3⟩:=dL (z:=z) (e:=e) n S;have hwA:=hw.Ox (e:=e) hb;have O2:∀i,S.up i=true->i<n:=Hf;have Wa:=λi (hi:S.up i=true)=>hw.tk (e:=e) hb i (O2 i hi);have PO:∀i,S.up i=true->(S.Ox z e n).nd i=(X.tick z e (S.nd i)).2:=λi hi=>by rw [t1,ay ⟨O2 i hi,hi⟩]
 have UX:∀i,S.up i=true->0<=(S.nd i).Ow:=λi hi=>by obtain ⟨G,hG⟩:=hw;exact (hG.ni i (O2 i hi)).t0
 have hub0:∀i,S.up i=true->((S.Ox z e n).nd i).Ow<=M:=λi hi=>cK (h.Ow i) (h.ub i hi);have mk:(∀j,S.up j=true->(S3.nd j).Ow=M)->∃T,Ev T S3:=λhh=>⟨M,h.q,λi hi=>⟨hh i G8,PD i G8⟩⟩
 have hstood:∀w,S.up w=true->((S.Ox z e n).nd w).Ow=(S.nd w).Ow+1->((S.Ox z e n).nd w).Ow=M->∃T,Ev T S3:=λw w1 w2 w3=>by
  obtain ⟨tk,ho,Tb⟩:=Wa w w1;have hw2:=PO w w1;refine mk (h.all w w1 w3 (by have:=UX w w1;omega) λd d1 d2=>?_);obtain ⟨x,x1,x2,_⟩:=tk.OV (by rw [<-hw2];exact w2) d (by rw [Tb];exact d1) (by rw [ho];exact d2);obtain ⟨_,o2,_⟩:=tk.out x x1;exact ⟨x,(t3 x).2 (.inr ⟨w,O2 w w1,w1,x1⟩),x2,by rw [o2,<-hw2];exact w3⟩
 obtain ⟨w,w1,w2,w3⟩:=h.top;have hyA:=(Wa y hy).1.Ow;rw [<-PO y hy] at hyA;have hyM:=hub0 y hy;by_cases hMy:(S.nd y).Ow<M
 ·left;have hwA2:=(Wa w w2).1.Ow;rw [<-PO w w2] at hwA2;have:=hmax w w2;rcases hwA2 with g | g
  ·omega
  ·exact hstood w w2 g w3
 ·have hMy:M=(S.nd y).Ow:=by rcases hyA with g | g<;>omega
  have hyt:((S.Ox z e n).nd y).Ow=(S.nd y).Ow:=by rcases hyA with g | g<;>omega
  by_cases SY:M<1
  ·left;refine mk λj hj=>?_;have h3:=h.ub j hj;have h4:=h.Ow j;have h5:=(Wa j hj).1.Ow;rw [<-PO j hj] at h5;have:=UX j hj;rcases h5 with g | g<;>omega
  ·rcases dT (z:=z) (e:=e) (S.nd y) with ⟨c1,c2⟩ | ⟨c1,c2,c3,c4⟩ | ⟨c1,c2,c3,c4⟩ | ⟨c1,c2,c3,c4⟩
   ·rw [hv.2 y hy] at c1;cases c1
   ·exfalso;have hoy:=(Wa y hy).2;obtain ⟨G,hG⟩:=hw;have SV:=hG.tb y (O2 y hy);rw [PO y hy,c4,fu (by rw [hoy.1,hoy.2];exact O2 y hy) az,am (by rw [hoy.2];exact PT)] at hyt;have hyt:(S.nd y).Ow+1=(S.nd y).Ow:=hyt;omega
   ·left;have hoy:=(Wa y hy).2;refine mk (h.all y hy (by rw [hyt,hMy]) az λd d1 d2=>?_);refine ⟨br (nx (S.nd y)) 5 d,(t3 _).2 (.inr ⟨y,O2 y hy,hy,?_⟩),rfl,hMy.symm⟩;rw [c4];exact fX _ _ d (by show d<(S.nd y).n;rw [hoy.2];exact d1) (by show d≠(S.nd y).own;rw [hoy.1];exact d2)
   ·-- it said nothing
    by_cases hex:∃w,S.up w=true/\((S.Ox z e n).nd w).Ow=(S.nd w).Ow+1/\((S.Ox z e n).nd w).Ow=M
    ·grind
    ·right;have hyk:((S.Ox z e n).nd y).Ox=(S.nd y).Ox+1:=by rw [PO y hy,c4]
     have YS:∀x∈(S.Ox z e n).q,(x.kind=1/\x.N.getD 0 0<M)\/x.kind=5:=λx hxq=>by
      rcases (t3 x).1 hxq with g | ⟨c,d1,d2,d3⟩
      ·rw [hv.1] at g;cases g
      ·obtain ⟨_,o2,_,_,o⟩:=(Wa c d2).1.out x d3;rcases o with o | o | o
       ·grind
       ·exfalso;have hlc:=o.2;rcases dT (z:=z) (e:=e) (S.nd c) with ⟨g1,g2⟩ | ⟨g1,g2,g3,g4⟩ | ⟨g1,g2,g3,g4⟩ | ⟨g1,g2,g3,g4⟩
        ·rw [hv.2 c d2] at g1;cases g1
        ·have ZK:=(Wa c d2).2;obtain ⟨G,hG⟩:=hw;have SV:=hG.tb c d1;rw [g4,fu (by rw [ZK.1,ZK.2];exact d1) az,am (by rw [ZK.2];exact PT)] at hlc;have hlc:((S.nd c).Oy&&_)=true:=hlc;rw [g1] at hlc;cases hlc
        ·grind
        ·grind
       ·exact .inr o.1
     have Uc:∀m∈(S.Ox z e n).q,m.N.getD 0 0<=M:=λm hm=>by
      rcases (t3 m).1 hm with g | ⟨c,d1,d2,d3⟩
      ·rw [hv.1] at g;cases g
      ·obtain ⟨_,o2,_⟩:=(Wa c d2).1.out m d3;rw [o2,<-PO c d2];exact hub0 c d2
     have ubA:UB M (S.Ox z e n).Pc:=⟨λi hi=>hub0 i (by rw [<-t2];exact hi),λm hm=>by cases hm⟩
     have p0:Ph z n (b+1) M (S.Ox z e n).q (S.Ox z e n).Pc (S.Ox z e n).Pc:=Ph.start hwA.Ys ubA;have hyAt:((S.Ox z e n).Pc.nd y).Ow=M:=by show ((S.Ox z e n).nd y).Ow=M;rw [hyt,hMy]
     have J1:=fH (z:=z) (e:=e) (ms:=(S.Ox z e n).q) (S:=(S.Ox z e n).Pc) (Inv:=λS'=>Ph z n (b+1) M (S.Ox z e n).q (S.Ox z e n).Pc S'/\(S'.nd y).Ox=(S.nd y).Ox+1/\∀x∈S'.q,x.kind=2) (λS' m hI hm=>by
      obtain ⟨a1,a2,a3⟩:=hI;obtain ⟨g1,i,g2,g3,g4,g5,g6⟩:=a1.take (e:=e) hb hm (Uc m hm);refine ⟨g1,?_⟩;cases hu:S'.up i with
      | false=>rw [g6 hu];exact ⟨a2,a3⟩
      | true =>
       rw [g5 hu];refine ⟨?_,λx hx=>?_⟩
       ·rw [bf];split
        ·rename_i e1;subst e1;have hty:M<=(S'.nd y).Ow:=by have:=a1.Ow y;omega
         rcases YS m hm with g | g
         ·grind [zO]
         ·grind [pu]
        ·exact a2
       ·rw [dS] at hx;rcases aA.1 hx with hx | hx
        ·exact a3 x hx
        ·obtain ⟨_,_,_,o,_⟩:=g4.out x hx;rcases YS m hm with g | g<;>rcases o with o | o | o | o<;>omega) ⟨p0,hyk,λx hx=>by cases hx⟩
     rw [<-h1] at J1;obtain ⟨P1,J1,K1⟩:=J1;have u1:S1.up=S.up:=h.ra.u1.trans t2;have Yt:UB M S1.Pc:=⟨h.ra.b1.nd,λm hm=>by cases hm⟩
     have p1:Ph z n (b+1) M S1.q S1.Pc S1.Pc:=Ph.start h.ra.w1.Ys Yt;have Vy:=h.ra.b1.q;have J2:=fH (z:=z) (e:=e) (ms:=S1.q) (S:=S1.Pc) (Inv:=λS'=>Ph z n (b+1) M S1.q S1.Pc S'/\(S'.nd y).Ox=(S.nd y).Ox+1/\∀x∈S'.q,x.N.getD 0 0=M->∃l,S.up l=true/\(S'.nd l).Oy=true/\(S'.nd l).Ow=M) (λS' m hI hm=>by
      obtain ⟨a1,a2,a3⟩:=hI;obtain ⟨g1,i,g2,g3,g4,g5,g6⟩:=a1.take (e:=e) hb hm (Vy m hm);refine ⟨g1,?_⟩;have keep:∀l,S.up l=true->(S'.nd l).Oy=true/\(S'.nd l).Ow=M->((S'.bring z e m).nd l).Oy=true/\((S'.bring z e m).nd l).Ow=M:=λl l1 l2=>a1.lead hb hm (Vy m hm) KQ l2;cases hu:S'.up i with
      | false=>rw [g6 hu];exact ⟨a2,a3⟩
      | true =>
       have XY:S.up i=true:=KT;refine ⟨?_,λx hx hxM=>?_⟩
       ·grind [bf,pu]
       ·rw [g5 hu,dS] at hx;rcases aA.1 hx with hx | hx
        ·grind
        ·obtain ⟨_,o2,_,o,o5⟩:=g4.out x hx;have hk3:x.kind=3:=by have:=K1 m hm;rcases o with o | o | o | o<;>omega
         refine ⟨i,XY,?_⟩;rw [g5 hu,bf,ay rfl];exact ⟨o5 hk3,by rw [<-o2];exact hxM⟩) ⟨p1,J1,λx hx=>by cases hx⟩
     rw [<-h2] at J2;obtain ⟨P2,J2,L2⟩:=J2;have u2:S2.up=S.up:=h.ra.u2.trans t2;have nol:∀l,S.up l=true->(S2.nd l).Oy=false:=λl l1=>by
      cases hc:(S2.nd l).Oy with
      | false=>rfl
      | true =>
       have:=(h.kp.lead l (by rw [u2];exact l1) hc).1;rw [PD l l1] at this;cases this
     obtain ⟨k,Ya,hk2⟩:=hd;obtain ⟨q1,q2,q3,q4,_⟩:=P3.end_ (z:=z) (e:=e) (Inv:=λS'=>S'.up=S.up/\(∀l,S.up l=true->(S'.nd l).Oy=false)/\M<=(S'.nd y).Ow/\(S'.nd y).Ox=(S.nd y).Ox+1/\∀x∈S'.q,x.kind=3->x.N.getD 0 0<M) hn hb (λS' m q p hi hq st=>by
      obtain ⟨i1,i2,i3,i4,i5⟩:=hi;obtain ⟨i,c1,c2,c3,c4,c5⟩:=st.cut;have kp:=st.kp;have nl2:∀l,S.up l=true->(((S'.wq q).bring z e m).nd l).Oy=false:=λl l1=>by
       grind [kp.back]
      refine ⟨kp.up.trans i1,nl2,cK i3 (kp.Ow y),?_,λx hx hk3=>?_⟩
      ·cases hu:S'.up i with
       | false=>rw [c5 hu];exact i4
       | true =>
        rw [c4 hu,bf];split
        ·grind [bd,zO,pu,p.kd]
        ·exact i4
      ·cases hu:S'.up i with
       | false =>
        rw [c5 hu] at hx;exact IQ
       | true =>
        have hb2:=nl2 i (by rw [<-i1];exact hu);rw [c4 hu] at hx hb2;rw [dS] at hx;rcases aA.1 hx with hx | hx
        ·exact IQ
        ·obtain ⟨_,_,_,_,o5⟩:=c3.out x hx;rw [bf,ay rfl] at hb2;rw [o5 hk3] at hb2;cases hb2) k S2 h.p2 ⟨u2,nol,by have:=P2.Ow y;have:=P1.Ow y;have e1:(S1.Pc.nd y).Ow=(S1.nd y).Ow:=rfl;omega,J2,λx hx _=>by
       have h3:=h.ra.b2.q x hx;have:x.N.getD 0 0≠M:=λg=>by
        grind
       omega⟩ hk2
     rw [<-Ya] at q4;obtain ⟨_,_,r3,r4,_⟩:=q4;exact ⟨λi hi=>by have:=h.ub i hi;omega,r4,c3⟩
end
section
variable {ρ:Type} {z:ρ->Bool} {e:ρ}
variable {n i:Nat} {b b' M T:Int} {S S' S0 S1 S2 S3:Cs ρ} {G:Gh ρ} {m:Ms ρ} {s:Nd ρ} {r:List (Ms ρ)×Nd ρ} {ms q:List (Ms ρ)} {Λ:Nat}
theorem BK (hf:Fit i n m) (hi:s.own=i) (hn:s.n=n) (hk:m.kind=2) (ht:m.N.getD 0 0<=s.Ow):X.get z e s m=O4 z e s m:=by
 unfold X.get;rw [hf.ok hi hn];simp only [bk,if_false];rw [am az];unfold OJ;rw [am az,ay hk]
theorem Nw (l:List Bool) (a b:Nat) (h:a<l.length):(l.set a true).getD b false=if b=a then true else l.getD b false:=by
 grind
structure Wt (n:Nat) (M:Int) (c:Nat) (s:Nd ρ):Prop where
 Oy:s.Oy=false
 OC:s.OC=(c:Int)
 Ow:s.Ow=M
 vl:s.OB.length=n
 own:s.OB.getD c false=true
 no:jp s=false
theorem Wt.Q7 {c:Nat} (h:Wt n M c s) (hf:Fit c n m) (ho:s.own=c) (hn:s.n=n) (hk:m.kind=2) (ht:m.N.getD 0 0<=M) (hfn:m.OD.toNat<n) :
  ((X.get z e s m).2.Oy=true/\(X.get z e s m).2.Ow=M)\/(Wt n M c (X.get z e s m).2/\(∀v,s.OB.getD v false=true->(X.get z e s m).2.OB.getD v false=true)/\(m.N.getD 0 0=M->m.N.getD 1 0=1->(X.get z e s m).2.OB.getD m.OD.toNat false=true)):=by
 obtain ⟨h1,h2,h3,h4,h5,h6⟩:=h;rw [BK hf ho hn hk az];unfold O4;split
 ·rename_i hy;right;refine ⟨⟨h1,h2,h3,h4,h5,h6⟩,λv hv=>hv,λa1 a2=>?_⟩;exfalso;simp only [bi,bb,bq,ne_eq] at hy;rcases hy with ((g | g) | g) | g
  ·rw [h1] at g;cases g
  ·omega
  ·rw [ho] at g;exact g h2
  ·exact g a2
 ·simp only;split
  ·left;have hl:=ee (z:=z) (e:=e) { s with OB:=s.OB.set m.OD.toNat true };exact ⟨hl.Oy,hl.Ow.trans h3⟩
  ·rename_i hc;right;refine ⟨⟨h1,h2,h3,by show (s.OB.set _ _).length=n;rw [cY];exact h4,?_,by simpa using hc⟩,λv hv=>?_,λ_ _=>?_⟩
   ·grind
   ·grind
   ·grind
theorem Ik (hw:Wk z n b S) (hn:n<=5) (PT:n≠1) (hb:b+1<=1099511627776) (hv:Ev T S) (h:Rd z e n b M Λ S S1 S2 S3) (h1:S1=(S.Ox z e n).Pc.dl z e (S.Ox z e n).q) (h2:S2=S1.Pc.dl z e S1.q)
  {c:Nat} (hc1:S.up c=true) (hc2:eh S c) (PL:∀c',S.up c'=true->eh S c'->c'=c) (hU:∀i,S.up i=true->jL (S.nd c).Oz (S.nd i).Oz) (Pm:RO n λj=>S.up j):(S3.nd c).Oy=true:=by
 obtain ⟨t1,t2,t3⟩:=dL (z:=z) (e:=e) n S;have O2:∀i,S.up i=true->i<n:=Hf;have hown:∀i,i<n->(S.nd i).own=i/\(S.nd i).n=n:=Nm;obtain ⟨ZP,hA,hx,hcq,Xv,VR,hM,hMc,Uc,p0,P1,E1,K1,EVH,EVT,EVV⟩:=JU hw hn PT hb hv h h1;have UY:=O2 c hc1;have ZK:=hown c UY;have hMT:=hMc c hc1 hc2;have hT:=ZP c hc1;have V1:(S1.nd c).OB=(dc (S.nd c)).OB:=by
  rw [h1];refine (fH (z:=z) (e:=e) (ms:=(S.Ox z e n).q) (S:=(S.Ox z e n).Pc) (Inv:=λS'=>Ph z n (b+1) M (S.Ox z e n).q (S.Ox z e n).Pc S'/\(S'.nd c).OB=(dc (S.nd c)).OB) (λS' m hI hm=>?_) ⟨p0,?_⟩).2
  ·obtain ⟨g1,i2,g2,g3,g4,g5,g6⟩:=hI.1.take (e:=e) hb hm (Uc m hm);refine ⟨g1,?_⟩;cases hu:S'.up i2 with
   | false=>rw [g6 hu];exact hI.2
   | true =>
    rw [g5 hu,bf];split
    ·rename_i e1;subst e1;rw [BJ (by rcases hx m hm with ⟨_,_,_,_,_,rfl⟩ | ⟨_,_,_,_,_,rfl⟩<;>(intro h;cases h))];exact hI.2
    ·exact hI.2
  ·show ((S.Ox z e n).nd c).OB=_;rw [(hA c hc1).1 hc2]
 have E:=E1 c hc1;obtain ⟨e1,e2,e3⟩:=E.c hc2;have hst:(dc (S.nd c)).OB=(List.replicate n false).set c true:=by show (List.replicate (S.nd c).n false).set (S.nd c).own true=_;rw [ZK.1,ZK.2]
 have w1:=h.ra.w1.Ys;have u1:S1.up=S.up:=h.ra.u1.trans t2;have hnS1:(S1.nd c).n=n:=by obtain ⟨G,hG,_⟩:=w1;exact (hG.ni c UY).nn
 have start:Wt n M c (S1.nd c):=by
  refine ⟨E.Oy,e3,by rw [e1,hMT],by rw [V1,hst];simp,?_,?_⟩
  ·grind
  ·grind [jp,dF,qC]
 have Yt:UB M S1.Pc:=⟨h.ra.b1.nd,λm hm=>by cases hm⟩
 have p1:Ph z n (b+1) M S1.q S1.Pc S1.Pc:=Ph.start w1 Yt;have Vy:=h.ra.b1.q;have step:∀(S':Cs ρ) (m:Ms ρ),(Ph z n (b+1) M S1.q S1.Pc S'/\(((S'.nd c).Oy=true/\(S'.nd c).Ow=M)\/Wt n M c (S'.nd c)))->m∈S1.q->(Ph z n (b+1) M S1.q S1.Pc (S'.bring z e m)/\((((S'.bring z e m).nd c).Oy=true/\((S'.bring z e m).nd c).Ow=M)\/Wt n M c ((S'.bring z e m).nd c))) /\
   (((S'.bring z e m).nd c).Oy=true\/((∀v,(S'.nd c).Oy=false->(S'.nd c).OB.getD v false=true->((S'.bring z e m).nd c).OB.getD v false=true)/\(m.dst=(c:Int)->m.N.getD 0 0=M->m.N.getD 1 0=1->((S'.bring z e m).nd c).OB.getD m.OD.toNat false=true))):=λS' m hI hm=>by
  obtain ⟨a1,a2⟩:=hI;obtain ⟨g1,i2,g2,g3,g4,g5,g6⟩:=a1.take (e:=e) hb hm (Vy m hm);rcases a2 with a2 | a2
  ·have:=a1.lead (e:=e) hb hm (Vy m hm) (by show S1.up c=true;rw [u1];exact hc1) a2;exact ⟨⟨g1,.inl this⟩,.inl this.1⟩
  ·have hu':S'.up c=true:=by rw [a1.up];show S1.up c=true;rw [u1];exact hc1
   by_cases ei:i2=c
   ·subst ei;have hbr:(S'.bring z e m).nd i2=(X.get z e (S'.nd i2) m).2:=by rw [g5 hu',bf,ay rfl]
    obtain ⟨G,hG,Rn⟩:=a1.wk;have OP:=hG.ni i2 g2;by_cases h1t:1<=m.N.getD 0 0
    ·obtain ⟨i5,_,e5,_,O0⟩:=(Rn m hm).2.fit hb h1t;obtain rfl:i5=i2:=az;obtain ⟨f,f1,f2⟩:=Ff (Rn m hm).2;rcases a2.Q7 (z:=z) (e:=e) O0 OP.own OP.nn (K1 m hm) (Vy m hm) az with g | ⟨g,g',g''⟩
     ·grind
     ·grind
    ·grind [ox]
   ·have hbr:(S'.bring z e m).nd c=S'.nd c:=by
     cases hu:S'.up i2 with
     | false=>rw [g6 hu]
     | true=>rw [g5 hu,bf,am (F5 ei)]
    rw [hbr];refine ⟨⟨g1,.inr a2⟩,.inr ⟨λv _ hv=>hv,λhd=>?_⟩⟩;omega
 have fin:=fH (z:=z) (e:=e) (ms:=S1.q) (S:=S1.Pc) (Inv:=λS'=>Ph z n (b+1) M S1.q S1.Pc S'/\(((S'.nd c).Oy=true/\(S'.nd c).Ow=M)\/Wt n M c (S'.nd c))) (λS' m hI hm=>(step S' m hI hm).1) ⟨p1,.inr start⟩;have EVE:∀v,S.up v=true->v≠c->((S1.Pc.dl z e S1.q).nd c).Oy=true\/((S1.Pc.dl z e S1.q).nd c).OB.getD v false=true:=λv hv hvc=>by
  obtain ⟨x,x1,x2,x3,x4,x5,x6⟩:=EVV c v hc1 hc2 PL hv hvc (hU v hv);refine rB (z:=z) (e:=e) (ms:=S1.q) (m:=x) (Inv:=λS'=>Ph z n (b+1) M S1.q S1.Pc S'/\(((S'.nd c).Oy=true/\(S'.nd c).Ow=M)\/Wt n M c (S'.nd c))) (P:=λS'=>(S'.nd c).Oy=true\/(S'.nd c).OB.getD v false=true) x1 (λS' m hI hm=>(step S' m hI hm).1) (λS' hI=>?_) (λS' m hI hm hP=>?_) ⟨p1,.inr start⟩
  ·rcases (step S' x hI x1).2 with g | g
   ·exact .inl g
   ·right;have:=g.2 x3 (by rw [x5,hMT]) x6;rw [x4] at this;exact this
  ·rcases (step S' m hI hm).2 with g | g
   ·exact .inl g
   ·cases hl:(S'.nd c).Oy with
    | true =>
     obtain ⟨a1,a2⟩:=hI;rcases a2 with a2 | a2
     ·exact .inl (a1.lead (e:=e) hb hm (Vy m hm) (by show S1.up c=true;rw [u1];exact hc1) a2).1
     ·rw [a2.Oy] at hl;cases hl
    | false =>
     right;rcases hP with hP | hP
     ·rw [hl] at hP;cases hP
     ·exact g.1 v hl hP
 rw [<-h2] at fin EVE;obtain ⟨P2,fin⟩:=fin;have u2:S2.up=S.up:=h.ra.u2.trans t2;have hlead:(S2.nd c).Oy=true:=by
  rcases fin with fin | fin
  ·exact fin.1
  ·exfalso;have hall:∀v,v<n->S.up v=true->(S2.nd c).OB.getD v false=true:=λv _ hv=>by
    grind [fin.own,fin.Oy]
   have Qb:=Pm.mono hall;have hno:=fin.no;have Pf:(S2.nd c).n=n:=by obtain ⟨G,hG⟩:=h.ra.w2;exact (hG.ni c UY).nn
   unfold jp dF at hno;rw [Pf] at hno;have hno:=of_decide_eq_false hno;have ef:=ka (S2.nd c).OB id false;rw [fin.vl] at ef;unfold RO at Qb;have ef2:((List.range n).filter λj=>id ((S2.nd c).OB.getD j false)).length=((List.range n).filter λj=>(S2.nd c).OB.getD j false).length:=rfl;omega
 exact (h.kp.lead c (by rw [u2];exact hc1) hlead).1
end
section
variable {ρ:Type} (z:ρ->Bool) (e:ρ)
def Cs.Sr (n F:Nat) (S:Cs ρ):Cs ρ:=Cs.drain z e F (S.Ox z e n)
def Cs.OG (n F:Nat):Nat->Cs ρ->Cs ρ
 | 0,S=>S
 | k+1,S=>Cs.Sr z e n F (Cs.OG n F k S)
structure Ok (n:Nat) (b:Int) (Λ:Nat) (S:Cs ρ):Prop where
 wk:Wk z n b S
 q:S.q=[]
 up:∃i,i<n/\S.up i=true
 Oz:∀i,S.up i=true->(S.nd i).Oz.length<=Λ
variable {z e}
variable {n i F:Nat} {b b' M T:Int} {S S' S0 S1 S2 S3:Cs ρ} {G:Gh ρ} {m:Ms ρ} {s:Nd ρ} {r:List (Ms ρ)×Nd ρ} {ms q:List (Ms ρ)} {Λ:Nat}
theorem Ok.Sr (h:Ok z n b Λ S) (hn:n<=5) (hb:b+1<=1099511627776) (hF:200+22*(Λ+1)<=F):∃M,Rd z e n b M Λ S ((S.Ox z e n).Pc.dl z e (S.Ox z e n).q) (((S.Ox z e n).Pc.dl z e (S.Ox z e n).q).Pc.dl z e ((S.Ox z e n).Pc.dl z e (S.Ox z e n).q).q) (S.Sr z e n F)/\Ok z n (b+1) (Λ+1) (S.Sr z e n F):=by
 obtain ⟨M,hM⟩:=Dq (e:=e) h.wk hn hb h.q h.up h.Oz F hF;exact ⟨M,hM,hM.wk,hM.q,by rw [show (S.Sr z e n F).up=S.up from hM.up];exact h.up,λi hi=>hM.Oz i (by rw [<-hM.up];exact hi)⟩
theorem Ok.OG (h:Ok z n b Λ S) (hn:n<=5):∀k:Nat,b+k<=1099511627776->200+22*(Λ+k)<=F->Ok z n (b+k) (Λ+k) (S.OG z e n F k)/\(S.OG z e n F k).up=S.up:=by
 intro k;induction k with
 | zero=>intro _ _;rw [show b+((0:Nat):Int)=b by omega];exact ⟨h,rfl⟩
 | succ k ih =>
  intro hb hF;obtain ⟨h1,h2⟩:=ih az az;obtain ⟨M,hM,h3⟩:=h1.Sr (e:=e) (F:=F) hn az az;rw [show b+((k+1:Nat):Int)=b+(k:Int)+1 by omega];exact ⟨h3,hM.up.trans h2⟩
theorem su {a b c:Lg ρ} (h1:jL a b) (h2:jL b c):jL a c:=by
 grind [jL]
theorem Ai (a b:Lg ρ):jL a b\/jL b a:=by
 grind [jL,bC]
theorem FG (S:Cs ρ):∀k,(∃i,i<k/\S.up i=true)->∃l,l<k/\S.up l=true/\∀i,i<k->S.up i=true->jL (S.nd l).Oz (S.nd i).Oz/\(jL (S.nd i).Oz (S.nd l).Oz->l<=i):=by
 intro k;induction k with
 | zero=>rintro ⟨i,h,_⟩;omega
 | succ k ih =>
  rintro ⟨i,h1,h2⟩;by_cases hex:∃i,i<k/\S.up i=true
  ·obtain ⟨y,y1,y2,y3⟩:=ih hex;by_cases hk:S.up k=true/\¬jL (S.nd y).Oz (S.nd k).Oz
   ·have hky:jL (S.nd k).Oz (S.nd y).Oz:=by
     grind [Ai]
    refine ⟨k,by omega,hk.1,λj j1 j2=>?_⟩;by_cases e1:j=k
    ·subst e1;exact ⟨nL _,λ_=>ah _⟩
    ·grind [su]
   ·grind
  ·have:i=k:=by
    grind
   refine ⟨i,by omega,h2,λj j1 j2=>?_⟩;by_cases e1:j=i
   ·subst e1;exact ⟨nL _,λ_=>ah _⟩
   ·exact absurd ⟨j,by omega,j2⟩ hex
def Hv (c:Int) (S:Cs ρ):Prop:=∀i,S.up i=true->∀j,((S.nd i).heard.getD j (0,0,0)).1≠0->((S.nd i).OA:Int) - ((S.nd i).heard.getD j (0,0,0)).1<=c->S.up j=true/\((S.nd i).heard.getD j (0,0,0)).2=(((S.nd j).Oz.length:Int),bC (S.nd j).Oz (S.nd j).Oz.length)
theorem Hv.next {c:Int} (h:Hv c S) (hr:EvR T M S S3):Hv (c+1) S3:=λi hi j h1 h2=>by
 rw [hr.up] at hi;rw [hr.OA i hi] at h2;rcases hr.heard i hi j with g | ⟨g1,g2⟩
 ·rw [g] at h1 h2 ⊢;obtain ⟨a1,a2⟩:=h i hi j h1 az;rw [hr.up,hr.Oz j a1];exact ⟨a1,a2⟩
 ·rw [g2,hr.up,hr.Oz j g1];exact ⟨g1,rfl⟩
theorem Ir (h:Hv 3 S) {l:Nat} (hl:S.up l=true) (ho:(S.nd l).own=l) (hU:∀i,S.up i=true->jL (S.nd l).Oz (S.nd i).Oz/\(jL (S.nd i).Oz (S.nd l).Oz->l<=i)):np { S.nd l with OA:=(S.nd l).OA+1,Ox:=(S.nd l).Ox+1 }=true:=by
 unfold np;rw [eB];intro j _;rw [bb];have hv:=h l hl j;generalize (S.nd l).heard.getD j (0,0,0)=x at *;show (!(x.1==0||decide (4<(((S.nd l).OA+1:Nat):Int) - x.1))&&(decide (bC (S.nd l).Oz (S.nd l).Oz.length<x.2.2)||(x.2.2==bC (S.nd l).Oz (S.nd l).Oz.length&&(decide (((S.nd l).Oz.length:Int)<x.2.1)||(x.2.1==((S.nd l).Oz.length:Int)&&decide (j<(S.nd l).own))))))=false;by_cases h0:x.1=0
 ·simp [h0]
 ·grind [Bool.and_eq_false_iff,dw,jL,bC]
theorem DI {l k:Nat} (hk:S.up k=true) (ho:(S.nd k).own=k) (hlk:l≠k) (hlen:l<(S.nd k).heard.length) (hh:(S.nd k).heard.getD l (0,0,0)=lW (S.nd l) ((S.nd k).OA:Int)) (hc:1<=(S.nd k).OA) (hU:jL (S.nd l).Oz (S.nd k).Oz/\(jL (S.nd k).Oz (S.nd l).Oz->l<=k)):np { S.nd k with OA:=(S.nd k).OA+1,Ox:=(S.nd k).Ox+1 }=false:=by
 unfold np;rw [List.all_eq_false];refine ⟨l,eJ.2 hlen,?_⟩;rw [hh];unfold Qs lW;simp only [bu,bb,dw,bi,aZ,cE,bq,ne_eq,eP,dy];rw [ho];refine ⟨⟨by omega,by omega⟩,?_⟩;unfold jL at hU;rcases hU.1 with g | ⟨g,g'⟩
 ·exact .inl g
 ·omega
theorem NJ (h:Ok z 1 b Λ S) (hb:b+26<=1099511627776) (hF:200+22*(Λ+26)<=F) (hno:∀k,1<=k->k<=26->∀i,S.up i=true->((S.OG z e 1 F k).nd i).Oy=false):False:=by
 have Vs:S.up 0=true:=by
  grind [h.up]
 have hk:∀k:Nat,k<=25->Ok z 1 (b+k) (Λ+k) (S.OG z e 1 F k)/\(S.OG z e 1 F k).up=S.up:=λk hk=>h.OG az k az az;have one:∀k,1<=k->k<=20->¬eh (S.OG z e 1 F k) 0/\((S.OG z e 1 F (k+1)).nd 0)=nx ((S.OG z e 1 F k).nd 0):=λk k1 k2=>by
  obtain ⟨a1,a2⟩:=hk k az;have hl:=hno k k1 az 0 Vs;have hl2:=hno (k+1) az az 0 Vs;generalize hW:S.OG z e 1 F k=Wn at *;have e0:S.OG z e 1 F (k+1)=Wn.Sr z e 1 F:=by show Cs.Sr z e 1 F (S.OG z e 1 F k)=_;rw [hW]
  rw [e0] at hl2 ⊢;obtain ⟨t1,t2,t3⟩:=dL (z:=z) (e:=e) 1 Wn;have hWu:Wn.up 0=true:=by rw [a2];exact Vs
  obtain ⟨tk,ho,Tb⟩:=a1.wk.tk (e:=e) az 0 az;have hq:(Wn.Ox z e 1).q=[]:=by
   rw [dg];intro x hx;rcases (t3 x).1 hx with g | ⟨i,i1,i2,i3⟩
   ·rw [a1.q] at g;cases g
   ·grind [tk.num]
  have e1:Wn.Sr z e 1 F=Wn.Ox z e 1:=eO F hq;rw [e1] at hl2 ⊢;have e2:(Wn.Ox z e 1).nd 0=(X.tick z e (Wn.nd 0)).2:=by rw [t1,ay ⟨by omega,hWu⟩]
  rw [e2] at hl2 ⊢;have SV:(Wn.nd 0).Ow<=b+k:=by obtain ⟨G,hG⟩:=a1.wk;exact hG.tb 0 az
  rcases dT (z:=z) (e:=e) (Wn.nd 0) with ⟨c1,c2⟩ | ⟨c1,c2,c3,c4⟩ | ⟨c1,c2,c3,c4⟩ | ⟨c1,c2,c3,c4⟩
  ·rw [hl] at c1;cases c1
  ·exfalso;rw [c4,fu (by rw [ho,Tb];omega) az,ay Tb,(ee (z:=z) (e:=e) (dc (Wn.nd 0))).Oy] at hl2;cases hl2
  ·rw [c4];exact ⟨c2,rfl⟩
  ·rw [c4];exact ⟨c2,rfl⟩
 have grow:∀k,k<=10->k<=((S.OG z e 1 F (1+k)).nd 0).Ox/\((S.OG z e 1 F (1+k)).nd 0).OA=((S.OG z e 1 F 1).nd 0).OA+k/\((S.OG z e 1 F (1+k)).nd 0).heard=((S.OG z e 1 F 1).nd 0).heard:=by
  intro k;induction k with
  | zero=>intro _;exact ⟨aH _,rfl,rfl⟩
  | succ k ih =>
   intro hk2;obtain ⟨g1,g2,g3⟩:=ih az;have:=(one (1+k) az az).2;rw [show 1+(k+1)=1+k+1 by omega,this];refine ⟨by show k+1<=_+1;omega,by show _+1=_;rw [g2];omega,g3⟩
 obtain ⟨g1,g2,g3⟩:=grow 8 az;refine (one 9 az az).1 ⟨by show 8<=((S.OG z e 1 F (1+8)).nd 0).Ox+1;omega,?_⟩;obtain ⟨a1,a2⟩:=hk 1 az;have hha:∀j,0<=(((S.OG z e 1 F 1).nd 0).heard.getD j (0,0,0)).1/\(((S.OG z e 1 F 1).nd 0).heard.getD j (0,0,0)).1<=(((S.OG z e 1 F 1).nd 0).OA:Int):=by
  obtain ⟨G,hG⟩:=a1.wk;exact (hG.ln 0 az).ha
 unfold np;rw [eB];intro j _;have e9:S.OG z e 1 F 9=S.OG z e 1 F (1+8):=rfl;rw [e9];rw [bb];unfold Qs;rw [Bool.and_eq_false_iff];left;rw [gA,bi];right;rw [aZ,g3];show 4<((((S.OG z e 1 F (1+8)).nd 0).OA+1:Nat):Int) - _;rw [g2];have:=(hha j).2;omega
end
set_option maxRecDepth 20000
section
variable {ρ:Type} {z:ρ->Bool} {e:ρ}
variable {n i F:Nat} {b b' M T:Int} {S S' S0 S1 S2 S3:Cs ρ} {G:Gh ρ} {m:Ms ρ} {s:Nd ρ} {r:List (Ms ρ)×Nd ρ} {ms q:List (Ms ρ)} {Λ:Nat}
theorem B0 (h:Ok z n b Λ S) (hn:n<=5) (Pm:RO n λj=>S.up j) (hb:b+30<=1099511627776) (hF:200+22*(Λ+30)<=F):∃k,1<=k/\k<=26/\∃M l,Ti M (S.OG z e n F k) l:=by
 apply bz;intro hcon;have hk:∀k:Nat,k<=29->Ok z n (b+k) (Λ+k) (S.OG z e n F k)/\(S.OG z e n F k).up=S.up:=λk hk=>h.OG az k az az;have Sc:∀k:Nat,k<=27->∃M,Rd z e n (b+k) M (Λ+k) (S.OG z e n F k) (((S.OG z e n F k).Ox z e n).Pc.dl z e ((S.OG z e n F k).Ox z e n).q) ((((S.OG z e n F k).Ox z e n).Pc.dl z e ((S.OG z e n F k).Ox z e n).q).Pc.dl z e (((S.OG z e n F k).Ox z e n).Pc.dl z e ((S.OG z e n F k).Ox z e n).q).q) (S.OG z e n F (k+1)):=λk hk2=>JP;have hno:∀k,1<=k->k<=26->∀i,S.up i=true->((S.OG z e n F k).nd i).Oy=false:=λk k1 k2 i hi=>by
  cases hl:((S.OG z e n F k).nd i).Oy with
  | false=>rfl
  | true =>
   exfalso;obtain ⟨k',rfl⟩:∃k',k=k'+1:=⟨k - 1,by omega⟩
   obtain ⟨M,hM⟩:=Sc k' az;exact hcon ⟨k'+1,k1,k2,M,i,hM.lead i (by rw [(hk k' az).2];exact hi) hl⟩
 by_cases PT:n=1
 ·subst PT;exact NJ h az az hno
 have hev:∃T,Ev T (S.OG z e n F 5):=by
  obtain ⟨y,y1,y2,y3⟩:=po (S.OG z e n F 1) n (by rw [(hk 1 az).2];exact h.up);have key:∀k,k<=4->(∃T,Ev T (S.OG z e n F (1+k)))\/((∀i,S.up i=true->((S.OG z e n F (1+k)).nd i).Ow<=((S.OG z e n F (1+k)).nd y).Ow)/\k<=((S.OG z e n F (1+k)).nd y).Ox/\k<=3):=by
   intro k;induction k with
   | zero =>
    intro _;refine .inr ⟨λi hi=>?_,aH _,by omega⟩;have hu:=(hk 1 az).2;have O9:i<n:=by obtain ⟨G,hG⟩:=h.wk;exact hG.up i hi
    exact y3 i O9 Bn
   | succ k ih =>
    intro hk4;obtain ⟨M,hM⟩:=Sc (1+k) az;have hu:=(hk (1+k) az).2;have hq:=(hk (1+k) az).1.q;have hyS:S.up y=true:=by rw [<-(hk 1 az).2];exact y2
    have PD:∀i,(S.OG z e n F (1+k)).up i=true->((S.OG z e n F (1+k+1)).nd i).Oy=false:=λi hi=>hno _ az az i ye;rcases ih az with ⟨T,hT⟩ | ⟨g1,g2,g3⟩
    ·exact .inl ⟨M,(oy (hk (1+k) az).1.wk hn PT az hT hM rfl rfl PD).ev⟩
    ·rcases CZ (hk (1+k) az).1.wk hn PT az ⟨hq,λi hi=>hno _ az az i ye⟩ hM rfl rfl hM.dr PD (by rw [hu];exact hyS) (λi hi=>g1 i ye) with g | ⟨q1,q2,q3⟩
     ·exact .inl g
     ·by_cases h3:k+1<=3
      ·refine .inr ⟨λi hi=>q1 i Bn,?_,h3⟩;have e1:((S.OG z e n F (1+(k+1))).nd y).Ox=((S.OG z e n F (1+k+1)).nd y).Ox:=rfl;omega
      ·exfalso;omega
  rcases key 4 az with g | g
  ·exact g
  ·exfalso;omega
 have hE:∀k,k<=21->∃T,Ev T (S.OG z e n F (5+k)):=by
  intro k;induction k with
  | zero=>intro _;exact hev
  | succ k ih =>
   intro hk2;obtain ⟨T,hT⟩:=ih az;obtain ⟨M,hM⟩:=Sc (5+k) az;have hu:=(hk (5+k) az).2;exact ⟨M,(oy (hk (5+k) az).1.wk hn PT az hT hM rfl rfl (λi hi=>hno _ az az i ye)).ev⟩
 have hR:∀k T,k<=20->Ev T (S.OG z e n F (5+k))->∃M,EvR T M (S.OG z e n F (5+k)) (S.OG z e n F (5+k+1)):=λk T hk2 hT=>by
  obtain ⟨M,hM⟩:=Sc (5+k) az;have hu:=(hk (5+k) az).2;exact ⟨M,oy (hk (5+k) az).1.wk hn PT az hT hM rfl rfl (λi hi=>hno _ az az i ye)⟩
 have O2:∀i,S.up i=true->i<n:=Hg;have Pz:∀k,k<=20->∀i,S.up i=true->((S.OG z e n F (5+k)).nd i).Oz=((S.OG z e n F 5).nd i).Oz:=by
  intro k;induction k with
  | zero=>intro _ i _;rfl
  | succ k ih =>
   intro hk2 i hi;obtain ⟨T,hT⟩:=hE k az;obtain ⟨M,hM⟩:=hR k T az hT;exact (hM.Oz i (by rw [(hk (5+k) az).2];exact hi)).trans (ih az i hi)
 have hhv:∀k:Nat,k<=20->Hv ((k:Int) - 1) (S.OG z e n F (5+k)):=by
  intro k;induction k with
  | zero =>
   intro _ i hi j h1 h2;exfalso;rw [(hk 5 az).2] at hi;obtain ⟨G,hG⟩:=(hk 5 az).1.wk;have:=((hG.ln i (O2 i hi)).ha j).2;have e1:S.OG z e n F (5+0)=S.OG z e n F 5:=rfl;rw [e1] at h2;omega
  | succ k ih =>
   intro hk2;obtain ⟨T,hT⟩:=hE k az;obtain ⟨M,hM⟩:=hR k T az hT;have:=(ih az).next hM;rw [show ((k+1:Nat):Int) - 1=(k:Int) - 1+1 by omega];exact this
 have hv3:∀k,4<=k->k<=20->Hv 3 (S.OG z e n F (5+k)):=λk k1 k2 i hi j h1 h2=>hhv k k2 i hi j h1 az;obtain ⟨l,l1,l2,l3⟩:=FG (S.OG z e n F 5) n (by rw [(hk 5 az).2];exact h.up);have hl:S.up l=true:=by rw [<-(hk 5 az).2];exact l2
 have hU:∀k,k<=20->∀i,S.up i=true->jL ((S.OG z e n F (5+k)).nd l).Oz ((S.OG z e n F (5+k)).nd i).Oz/\(jL ((S.OG z e n F (5+k)).nd i).Oz ((S.OG z e n F (5+k)).nd l).Oz->l<=i):=λk hk2 i hi=>by
  rw [Pz k hk2 i hi,Pz k hk2 l hl];exact l3 i (O2 i hi) (by rw [(hk 5 az).2];exact hi)
 have QW:∀k,k<=20->(S.OG z e n F (5+k)).up=S.up:=λk hk2=>(hk (5+k) az).2;have hown:∀k,k<=20->∀i,S.up i=true->((S.OG z e n F (5+k)).nd i).own=i:=λk hk2 i hi=>by
  obtain ⟨G,hG⟩:=(hk (5+k) az).1.wk;exact (hG.ni i (O2 i hi)).own
 have hbl:∀k,4<=k->k<=20->np { (S.OG z e n F (5+k)).nd l with OA:=((S.OG z e n F (5+k)).nd l).OA+1,Ox:=((S.OG z e n F (5+k)).nd l).Ox+1 }=true:=λk k1 k2 =>
  Ir (hv3 k k1 k2) (by rw [QW k k2];exact hl) (hown k k2 l hl) (λi hi=>hU k k2 i (by rw [<-QW k k2];exact hi))
 have hsync:∃p T,5<=p/\p<=12/\Ev T (S.OG z e n F (5+p))/\1<=T/\∀i,S.up i=true->((S.OG z e n F (5+p)).nd i).Ox=0:=by
  have key:∀k,k<=8->(∃p T,5<=p/\p<=4+k/\Ev T (S.OG z e n F (5+p))/\1<=T/\∀i,S.up i=true->((S.OG z e n F (5+p)).nd i).Ox=0)\/(k<=((S.OG z e n F (5+(4+k))).nd l).Ox/\k<=7):=by
   intro k;induction k with
   | zero=>intro _;exact .inr ⟨aH _,by omega⟩
   | succ k ih =>
    intro RG;rcases ih az with ⟨p,T,g1,g2,g3⟩ | ⟨g1,g2⟩
    ·exact .inl ⟨p,T,g1,by omega,g3⟩
    ·obtain ⟨T,hT⟩:=hE (4+k) az;obtain ⟨M,hM⟩:=hR (4+k) T az hT;have hu:=QW (4+k) az;have ZP:0<=T:=by
      obtain ⟨G,hG⟩:=(hk (5+(4+k)) az).1.wk;have:=(hG.ni l (O2 l hl)).t0;rw [(hT.nd l (by rw [hu];exact hl)).1] at this;exact this
     have sync:∀c,S.up c=true->eh (S.OG z e n F (5+(4+k))) c->jL ((S.OG z e n F (5+(4+k))).nd c).Oz ((S.OG z e n F (5+(4+k))).nd l).Oz->∃p T,5<=p/\p<=4+(k+1)/\Ev T (S.OG z e n F (5+p))/\1<=T/\∀i,S.up i=true->((S.OG z e n F (5+p)).nd i).Ox=0:=λc c1 c2 c3 =>
      ⟨4+(k+1),M,by omega,ah _,hM.ev,by have:=(hM.candT c (by rw [hu];exact c1) c2).1;omega,λi hi=>hM.OV c i (by rw [hu];exact c1) c2 Bn (su c3 (hU (4+k) az i hi).1)⟩
     by_cases hc:eh (S.OG z e n F (5+(4+k))) l
     ·exact .inl (sync l hl hc (nL _))
     ·rcases hM.Ox l (by rw [hu];exact hl) hc with g | ⟨g,c,c1,c2,c3⟩
      ·right;have hb4:=hbl (4+k) az az;have hlt:((S.OG z e n F (5+(4+k))).nd l).Ox+1<8:=by
        apply bz;intro Qv;exact hc ⟨by omega,hb4⟩
       refine ⟨?_,by omega⟩;show k+1<=((S.OG z e n F (5+(4+k)+1)).nd l).Ox;omega
      ·exact .inl (sync c (by rw [<-hu];exact c1) c2 c3)
  rcases key 8 az with ⟨p,T,g1,g2,g3⟩ | g
  ·exact ⟨p,T,g1,by omega,g3⟩
  ·exfalso;omega
 obtain ⟨p,T0,p1,p2,p3,p4,p5⟩:=hsync;have hgo:∀k,k<=7->(∃T,Ev T (S.OG z e n F (5+(p+k)))/\1<=T)/\(∀i,S.up i=true->((S.OG z e n F (5+(p+k))).nd i).Ox=k)/\(k=7->∀i j,S.up i=true->S.up j=true->i≠j->((S.OG z e n F (5+(p+k))).nd i).heard.getD j (0,0,0)=lW ((S.OG z e n F (5+(p+k))).nd j) (((S.OG z e n F (5+(p+k))).nd i).OA:Int)):=by
  intro k;induction k with
  | zero=>intro _;exact ⟨⟨T0,p3,p4⟩,p5,λh=>by omega⟩
  | succ k ih =>
   intro hk7;obtain ⟨⟨T,hT,hT1⟩,g2,_⟩:=ih az;obtain ⟨M,hM⟩:=hR (p+k) T az hT;have hu:=QW (p+k) az;have Si:∀i,S.up i=true->¬eh (S.OG z e n F (5+(p+k))) i:=λi hi hc=>by
    have h8:8<=((S.OG z e n F (5+(p+k))).nd i).Ox+1:=hc.1;rw [g2 i hi] at h8;omega
   refine ⟨⟨M,hM.ev,by rcases hM.M with g | g<;>omega⟩,λi hi=>?_,λhk6 i j hi hj YU=>?_⟩
   ·rcases hM.Ox i Bn (Si i hi) with g | ⟨_,c,c1,c2,_⟩
    ·show ((S.OG z e n F (5+(p+k)+1)).nd i).Ox=k+1;rw [g,g2 i hi]
    ·exact absurd c2 (Si c (by rw [<-hu];exact c1))
   ·have ht:=hM.told hT1 i j Bn (by rw [hu];exact hj) YU (Si j hj) (by rw [g2 j hj];omega);have Sw:=hM.OA i Bn;have YM:=hM.Oz j (by rw [hu];exact hj);show ((S.OG z e n F (5+(p+k)+1)).nd i).heard.getD j (0,0,0)=lW ((S.OG z e n F (5+(p+k)+1)).nd j) (((S.OG z e n F (5+(p+k)+1)).nd i).OA:Int);rw [ht,Sw];unfold lW;rw [YM]
 obtain ⟨⟨T,hT,hT1⟩,g2,g3⟩:=hgo 7 az;have hu:=QW (p+7) az;obtain ⟨M,hM⟩:=Sc (5+(p+7)) az;have Sw:eh (S.OG z e n F (5+(p+7))) l:=⟨by rw [g2 l hl];omega,hbl (p+7) az az⟩
 have PL:∀c,(S.OG z e n F (5+(p+7))).up c=true->eh (S.OG z e n F (5+(p+7))) c->c=l:=λc hc1 hc2=>by
  rw [hu] at hc1;apply bz;intro hne;obtain ⟨G,hG⟩:=(hk (5+(p+7)) az).1.wk;have Pr:=hG.ln c (O2 c hc1);have Tb:=(hG.ni c (O2 c hc1)).nn;have hclk:1<=((S.OG z e n F (5+(p+7))).nd c).OA:=by
   obtain ⟨T',hT'⟩:=hE (p+6) az;obtain ⟨M',hM'⟩:=hR (p+6) T' az hT';have:=hM'.OA c (by rw [QW (p+6) az];exact hc1);show 1<=((S.OG z e n F (5+(p+6)+1)).nd c).OA;omega
  have:=DI (S:=S.OG z e n F (5+(p+7))) (l:=l) (k:=c) (by rw [hu];exact hc1) (hown (p+7) az c hc1) (F5 hne) (by rw [Pr.hl,Tb];exact O2 l hl) (g3 rfl c l hc1 hl hne) hclk (hU (p+7) az c hc1);have hb2:np { (S.OG z e n F (5+(p+7))).nd c with OA:=((S.OG z e n F (5+(p+7))).nd c).OA+1,Ox:=((S.OG z e n F (5+(p+7))).nd c).Ox+1 }=true:=hc2.2;rw [this] at hb2;cases hb2
 have Ro:=Ik (hk (5+(p+7)) az).1.wk hn PT az hT hM rfl rfl (c:=l) (by rw [hu];exact hl) Sw PL (λi hi=>(hU (p+7) az i ye).1) (by rw [hu];exact Pm);have:=hno (5+(p+7)+1) az az l hl;rw [Ro] at this;cases this
end
section
variable {ρ:Type} {z:ρ->Bool} {e:ρ}
variable {n i F:Nat} {b b' M T:Int} {S S' S0 S1 S2 S3:Cs ρ} {G:Gh ρ} {m:Ms ρ} {s:Nd ρ} {r:List (Ms ρ)×Nd ρ} {ms q:List (Ms ρ)} {Λ:Nat}
structure Rep (s:Nd ρ) (m x:Ms ρ):Prop where
 kind:x.kind=4
 dst:x.dst=m.OD
 OD:x.OD=(s.own:Int)
 Ow:x.N.getD 0 0=m.N.getD 0 0
 what:(x.N.getD 1 0=1/\x.N.getD 2 0=m.N.getD 1 0+(m.B.length:Int))\/(x.N.getD 1 0=0/\1<=m.N.getD 1 0/\x.N.getD 2 0<m.N.getD 1 0)
theorem sT (hg:GI n G) (h:NI z n G i s) (hf:Fit i n m) (hm:MI n G m) (hk:m.kind=3) (ht:s.Ow<=m.N.getD 0 0) (hl:s.Oy=false\/s.Ow<m.N.getD 0 0) :
  ∃x,(X.get z e s m).1=[x]/\Rep s m x/\(x.N.getD 1 0=1->s.agreed<=(X.get z e s m).2.agreed/\(0<=m.N.getD 3 0->min (m.N.getD 3 0) (m.N.getD 1 0+(m.B.length:Int))<=((X.get z e s m).2.agreed:Int))):=by
 obtain ⟨f,hfn,Vw,_,_,h3,_⟩:=hm.f;obtain ⟨e1,p,a,e2,e3,e4,e5,e6,e7,e8⟩:=h3 hk;have key:∀s1:Nd ρ,NI z n G i s1->s1.Ow=m.N.getD 0 0->s1.Oy=false->s1.own=s.own->s1.agreed=s.agreed->∃x,(OJ z e s1 m).1=[x]/\Rep s m x/\(x.N.getD 1 0=1->s.agreed<=(OJ z e s1 m).2.agreed/\(0<=m.N.getD 3 0->min (m.N.getD 3 0) (m.N.getD 1 0+(m.B.length:Int))<=((OJ z e s1 m).2.agreed:Int))):=λs1 h1 h2 h4 h5 h6=>by
  rw [<-h2] at e1 e3 e5 e7 e8;unfold OJ;rw [am az,am az,ay hk];unfold lays;rw [am (by
   simp only [bi,bb,bq,ne_eq,aZ,bu,cE,h4];rintro ((h1 | h1) | ⟨_,h1⟩)
   ·exact h1 e6
   ·omega
   ·cases h1),am az]
  simp only;split
  ·rename_i O0;unfold nf at O0;simp only [bu,aZ,cE] at O0;rw [e2] at O0 ⊢;obtain ⟨f1,f2⟩:=O0;have f1:p<=s1.Oz.length:=by have f1:(p:Int)<=(s1.Oz.length:Int):=f1;omega
   have f2:bC s1.Oz p=bC (G.L s1.Ow) p:=G3;have hpp:=h1.ok.same (hg.ok s1.Ow) f1 az f2;have XF:s1.Oz.take s1.agreed=(G.L s1.Ow).take s1.agreed:=by
    rcases h1.ag.2 with h2 | ⟨u,k,k1,k2,k3,k4⟩
    ·rw [h2];simp
    ·rw [k4];exact (iz (hg.later k1 k2 (by rw [e1];simp)) k3).symm
   have YE:∀k,k<(G.L s1.Ow).length->bC (G.L s1.Ow) (k+1)<=s1.Ow:=λk hk=>by
    rcases hg.top s1.Ow with h2 | h2
    ·exact cK ((hg.ok s1.Ow).up _ _ az (ah _)) h2
    ·rw [h2] at hk;simp at hk
   have hpn:((p:Int)).toNat=p:=az;rw [hpn,e7];obtain ⟨c,lg,c1,c2⟩:=ug (hg.ok s1.Ow) YE p m.B.length 0 { s1 with Ox:=0 } rfl h1.ok hpp f1 h1.ag.1 XF e5;rw [eK] at c1;rw [c1];simp only [if_true];refine ⟨_,rfl,⟨rfl,rfl,?_,?_,.inl ⟨rfl,?_⟩⟩,λ_=>?_⟩
   ·show (((X.agree z { s1 with Ox:=0,Oz:=lg,cnt:=c } _).own:Nat):Int)=_;rw [(gE (z:=z) _ _).1];show ((s1.own:Nat):Int)=_;rw [h5]
   ·show (X.agree z { s1 with Ox:=0,Oz:=lg,cnt:=c } _).Ow=_;rw [(gE (z:=z) _ _).2.2.2.1];exact h2
   ·show (((p+m.B.length:Nat):Int))=m.N.getD 1 0+(m.B.length:Int)
    rw [e2];omega
   ·have QJ:∀k:Nat,s1.agreed<=(X.agree z { s1 with Ox:=0,Oz:=lg,cnt:=c } k).agreed/\k<=(X.agree z { s1 with Ox:=0,Oz:=lg,cnt:=c } k).agreed:=λk=>by
     unfold X.agree;split
     ·grind
     ·grind
    have:=QJ (min (m.N.getD 3 0) (((p+m.B.length:Nat):Int))).toNat;refine ⟨by rw [<-h6];exact this.1,λh0=>?_⟩;have h9:=this.2;show _<=(((X.agree z { s1 with Ox:=0,Oz:=lg,cnt:=c } (min (m.N.getD 3 0) (((p+m.B.length:Nat):Int))).toNat).agreed:Nat):Int);omega
  ·rename_i O0;refine ⟨_,rfl,⟨rfl,rfl,?_,h2,.inr ⟨rfl,?_,?_⟩⟩,λh9=>?_⟩
   ·show ((s1.own:Nat):Int)=_;rw [h5]
   ·exact MJ
   ·show min (s1.Oz.length:Int) (max (m.N.getD 1 0 - 1) 0)<m.N.getD 1 0;have:1<=m.N.getD 1 0:=MJ;omega
   ·have h9:(0:Int)=1:=h9;omega
 unfold X.get;rw [hf.ok h.own h.nn];simp only [bk,if_false];split
 ·rename_i h1;exact key _ (h.enter h1) rfl (fO _ h1) rfl rfl
 ·grind
inductive AnsK (s:Nd ρ) (f k:Nat):Bool->List (Ms ρ)×Nd ρ->Prop
 | no:∀ok,(ok=true->k<=s.OE.getD f 0)->(ok=false->s.next.getD f 0<=k)->AnsK s f k ok ([],s)
 | back:∀s1:Nd ρ,k<s.next.getD f 0->s1.Oz=s.Oz->s1.own=s.own->s1.OE=s.OE->(∀j,s1.next.getD j 0=if j=f then max k (s.OE.getD f 0) else s.next.getD j 0)->AnsK s f k false ([bI s1 f],s1)
 | on:∀(s1:Nd ρ) (ms:List (Ms ρ)),s.OE.getD f 0<k->k<=s.Oz.length->s1.Oz=s.Oz->s1.own=s.own->s1.n=s.n->(∀j,j≠s.own->s1.OE.getD j 0=if j=f then k else s.OE.getD j 0)->(∀j,s1.next.getD j 0=if j=f then max k (s.next.getD f 0) else s.next.getD j 0) ->
  (ms=cP s1 (bI s1)\/ms=[bI s1 f]\/(ms=[]/\s.Oz.length<=s1.next.getD f 0))->AnsK s f k true (ms,s1)
theorem rN (Pr:LN s) (ho:s.own<s.n) (hl:s.Oy=true) (hf:m.OD.toNat<s.n) (R5:m.OD.toNat≠s.own) (h0:m.N.getD 0 0=s.Ow) (h3:m.N.length=3) (h2:0<=m.N.getD 2 0) (h5:m.N.getD 2 0<=(s.Oz.length:Int)) :
  AnsK s m.OD.toNat (m.N.getD 2 0).toNat (m.N.getD 1 0 != 0) (answered z s m):=by
 unfold answered;rw [am (by
  simp only [bi,bb,bq,ne_eq,aZ];rintro ((((h | h) | h) | h) | h)
  ·rw [hl] at h;cases h
  ·exact h h0
  ·exact h h3
  ·omega
  ·omega)]
 simp only;split
 ·rename_i Sk;rw [show (m.N.getD 1 0 != 0)=false by rw [Sk];rfl];split
  ·rename_i hk;exact .no _ (λh=>by cases h) (λ_=>hk)
  ·rename_i hk;refine .back _ az rfl rfl rfl (λj=>?_);show (s.next.set m.OD.toNat _).getD j 0=_;rw [eE _ _ _ _ (by rw [Pr.nl];exact hf)]
 ·rename_i Sk;rw [show (m.N.getD 1 0 != 0)=true by simpa using Sk];split
  ·rename_i hk;exact .no _ (λ_=>hk) (λh=>by cases h)
  ·rename_i hk;obtain ⟨g1,g2,g3,g4,g5,g6,g7,g8,g9,ZU,g11,g12,g13⟩:=df (z:=z) (s:={ s with OE:=s.OE.set m.OD.toNat (m.N.getD 2 0).toNat,next:=s.next.set m.OD.toNat (max (m.N.getD 2 0).toNat (s.next.getD m.OD.toNat 0))});have Ve:∀j,j≠s.own->(X.settle z { s with OE:=s.OE.set m.OD.toNat (m.N.getD 2 0).toNat,next:=s.next.set m.OD.toNat (max (m.N.getD 2 0).toNat (s.next.getD m.OD.toNat 0))}).2.OE.getD j 0=if j=m.OD.toNat then (m.N.getD 2 0).toNat else s.OE.getD j 0:=λj hj=>by
    rw [g13];show ((s.OE.set m.OD.toNat _).set s.own _).getD j 0=_;rw [eE _ _ _ _ (by rw [cY,Pr.ml];exact ho),am hj,eE _ _ _ _ (by rw [Pr.ml];exact hf)]
   have Rm:∀j,(X.settle z { s with OE:=s.OE.set m.OD.toNat (m.N.getD 2 0).toNat,next:=s.next.set m.OD.toNat (max (m.N.getD 2 0).toNat (s.next.getD m.OD.toNat 0))}).2.next.getD j 0=if j=m.OD.toNat then max (m.N.getD 2 0).toNat (s.next.getD m.OD.toNat 0) else s.next.getD j 0:=λj=>by
    grind [Pr.nl]
   split
   ·exact .on _ _ az az g8 g1 g2 Ve Rm (.inl rfl)
   ·split
    ·exact .on _ _ az az g8 g1 g2 Ve Rm (.inr (.inl rfl))
    ·rename_i Sh;refine .on _ _ az az g8 g1 g2 Ve Rm (.inr (.inr ⟨rfl,?_⟩));rw [g8] at Sh;have Sh:¬(X.settle z { s with OE:=s.OE.set m.OD.toNat (m.N.getD 2 0).toNat,next:=s.next.set m.OD.toNat (max (m.N.getD 2 0).toNat (s.next.getD m.OD.toNat 0))}).2.next.getD m.OD.toNat 0<s.Oz.length:=Sh;omega
end
end Go.Proofs.YtnhefallmioefaaGreat.X
