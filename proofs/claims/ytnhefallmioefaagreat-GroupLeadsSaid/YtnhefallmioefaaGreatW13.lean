/- What the law leans on. No condition. -/
import Derived.Test.YtnhefallmioefaaGreatW0
import Derived.Test.YtnhefallmioefaaGreatW1
import Derived.Test.YtnhefallmioefaaGreatW12
import Derived.Test.YtnhefallmioefaaGreatW9
import Derived.Test.YtnhefallmioefaaGreatW6
import Derived.Test.YtnhefallmioefaaGreatW7
set_option maxHeartbeats 8000000
set_option linter.unusedVariables false
set_option linter.unusedSimpArgs false
namespace Go.Proofs.YtnhefallmioefaaGreat.X
set_option maxRecDepth 20000
section
variable {ρ:Type} {z:ρ->Bool} {e:ρ}
variable {n i F l len:Nat} {b b' M T:Int} {S S' S0 S1 S2 S3:Cs ρ} {G:Gh ρ} {m:Ms ρ} {s:Nd ρ} {r:List (Ms ρ)×Nd ρ} {ms q:List (Ms ρ)} {Λ:Nat}
structure Ei (l len:Nat) (M:Int) (S:Cs ρ):Prop where
 u:S.up l=true
 lead:(S.nd l).Oy=true
 ll:(S.nd l).Oz.length=len
 q3:∀x∈S.q,x.kind=3->x.OD=(l:Int)/\x.N.getD 0 0=M/\0<=x.N.getD 1 0/\x.N.getD 1 0<=(len:Int)/\x.B.length=min 20 (len - (x.N.getD 1 0).toNat)/\∀d:Nat,x.dst=(d:Int)->(((S.nd l).next.getD d 0:Nat):Int)<=x.N.getD 1 0\/(S.nd l).next.getD d 0=(S.nd l).OE.getD d 0
 q4:∀x∈S.q,x.kind=4->x.dst=(l:Int)/\x.N.getD 0 0=M/\x.N.getD 2 0<=(len:Int)/\(x.N.getD 1 0≠0->∀f:Nat,x.OD=(f:Int)->(((S.nd l).next.getD f 0:Nat):Int)<=x.N.getD 2 0\/(S.nd l).next.getD f 0=(S.nd l).OE.getD f 0)
 ef:∀j:Nat,S.up j=true->j≠l->(S.nd l).OE.getD j 0=len\/(∃x∈S.q,x.kind=3/\x.dst=(j:Int)/\x.N.getD 1 0=(((S.nd l).next.getD j 0:Nat):Int))\/(∃x∈S.q,x.kind=4/\x.OD=(j:Int)/\x.N.getD 1 0≠0/\(((S.nd l).OE.getD j 0:Nat):Int)<x.N.getD 2 0)\/(∃x∈S.q,x.kind=4/\x.OD=(j:Int)/\x.N.getD 1 0=0/\x.N.getD 2 0<(((S.nd l).next.getD j 0:Nat):Int))
theorem fx (s:Nd ρ) (d:Nat):(bI s d).kind=3/\(bI s d).dst=(d:Int)/\(bI s d).OD=(s.own:Int)/\(bI s d).N.getD 0 0=s.Ow/\(bI s d).N.getD 1 0=((s.next.getD d 0:Nat):Int)/\(bI s d).N.getD 3 0=(s.agreed:Int)/\(bI s d).B.length=min 20 (s.Oz.length - s.next.getD d 0):=by
 refine ⟨rfl,rfl,rfl,rfl,rfl,rfl,?_⟩;show (((s.Oz.drop (s.next.getD d 0)).take 20).map Prod.snd).length=_;rw [aW,aQ,cH]
theorem Ei.step (h:Ei l len M S) (hp:P3 z n b M S) (hn:n<=5) (hb:b<=1099511627776) (hq:S.q=m::q) (st:St3 z e n b M S m q ((S.wq q).bring z e m)):Ei l len M ((S.wq q).bring z e m):=by
 obtain ⟨i,c1,c2,c3,c4,c5⟩:=st.cut;have Sj:m∈S.q:=Bl;have O1:∀x∈q,x∈S.q:=λx hx=>yg;obtain ⟨G,hG⟩:=hp.wk;obtain ⟨mi,fm⟩:=hG.mi m Sj;have Pr:=hG.up l h.u;have PD:=hG.ni l Pr;have Vg:=hG.ln l Pr;have hMl:=hp.ld l h.u h.lead;have hMp:1<=M:=by
  have:=(hG.gi.O7 _ _ (PD.UC h.lead).1).2;rw [hMl] at this;exact this
 have rest:∀{P:Ms ρ->Prop},(∃x∈S.q,P x)->(∃x∈q,P x)\/P m:=λ⟨x,hx,hP⟩=>by
  grind
 have kl:=st.kp.lead l h.u h.lead;have ku:((S.wq q).bring z e m).up=S.up:=st.kp.up;rcases hp.kd m Sj with hk | ⟨hk,Ye,Wc⟩
 ·-- it is laid before another one
  obtain ⟨d1,d2,d3,d4,d5,d6⟩:=h.q3 m Sj hk;have hil:i≠l:=λe1=>by
   grind [fm.f]
  cases hu:S.up i with
  | false =>
   rw [c5 hu];refine ⟨h.u,h.lead,h.ll,λx hx=>h.q3 x (O1 x hx),λx hx=>h.q4 x (O1 x hx),λj hj PI=>?_⟩;have YU:i≠j:=λe1=>by
    grind
   rcases h.ef j hj PI with g | g | g | g
   ·exact .inl g
   ·rcases rest g with g | ⟨_,g,_⟩
    ·exact .inr (.inl g)
    ·omega
   ·rcases rest g with g | ⟨g,_⟩
    ·exact .inr (.inr (.inl g))
    ·omega
   ·rcases rest g with g | ⟨g,_⟩
    ·exact .inr (.inr (.inr g))
    ·omega
  | true =>
   obtain ⟨i5,_,e5,_,O0⟩:=fm.fit hb az;obtain rfl:i5=i:=az;have OP:=hG.ni i5 c1;have WO:(S.nd i5).Oy=false:=by
    grind [hG.one,h.lead,hp.ld]
   have hti:=hp.ub.nd i5 hu;obtain ⟨x,x1,x2,_⟩:=sT (z:=z) (e:=e) hG.gi OP O0 mi hk az (.inl WO);obtain ⟨y1,y2,y3,y4,y5⟩:=x2;have hbr:(S.wq q).bring z e m=(S.wq q).call i5 (X.get z e (S.nd i5) m):=c4 hu;have Vb:((S.wq q).bring z e m).q=q++[x]:=by rw [hbr,dS,x1];rfl
   have RF:((S.wq q).bring z e m).nd l=S.nd l:=by rw [hbr,bf,am (F5 hil)];rfl
   have hd6:=d6 i5 c2;have hxk:x.OD=(i5:Int):=by rw [y3,OP.own]
   refine ⟨by rw [ku];exact h.u,by rw [RF];exact h.lead,by rw [RF];exact h.ll,λw hw hk3=>?_,λw hw hk4=>?_,λj hj PI=>?_⟩
   ·rw [Vb] at hw;rw [RF];rcases aA.1 hw with hw | hw
    ·exact h.q3 w (O1 w hw) hk3
    ·rw [aj.1 hw] at hk3;omega
   ·rw [Vb] at hw;rw [RF];rcases aA.1 hw with hw | hw
    ·exact h.q4 w (O1 w hw) hk4
    ·rw [aj.1 hw];refine ⟨by rw [y2,d1],by rw [y4,d2],?_,λh1 f hf=>?_⟩
     ·omega
     ·grind
   ·rw [ku] at hj;rw [RF,Vb];have up1:∀{P:Ms ρ->Prop},(∃x∈q,P x)->∃y∈q++[x],P y:=λ⟨y,hy,hP⟩=>⟨y,aI _ hy,hP⟩
    rcases h.ef j hj PI with g | g | g | g
    ·exact .inl g
    ·rcases rest g with g | ⟨_,g,g'⟩
     ·exact .inr (.inl (up1 g))
     ·obtain rfl:i5=j:=by omega
      have ZM:=Vg.mn h.lead i5 (by rw [PD.own];exact hil);have Sh:=PD.next h.lead i5;rw [h.ll] at Sh;rcases y5 with ⟨h1,h2⟩ | ⟨h1,h2,h3⟩
      ·by_cases UE:(S.nd l).OE.getD i5 0=len
       ·exact .inl UE
       ·right;right;left;refine ⟨x,aR _ (eR _),y1,hxk,by rw [h1];decide,?_⟩;rw [h2,d5,g'];omega
      ·grind
    ·grind
    ·grind
 ·-- it is an answer
  obtain ⟨d1,d2,d3,d4⟩:=h.q4 m Sj hk;obtain rfl:i=l:=az;obtain ⟨i5,_,e5,_,O0⟩:=fm.fit hb az;obtain rfl:i5=i:=az;have hbr:(S.wq q).bring z e m=(S.wq q).call i5 (X.get z e (S.nd i5) m):=c4 h.u;have X0:X.get z e (S.nd i5) m=answered z (S.nd i5) m:=kJ hk az (O0.ok PD.own PD.nn);obtain ⟨f,f1,f2,f3⟩:=O0.f;have hfn:m.OD.toNat=f:=az;have R7:=rN (z:=z) (m:=m) Vg (by rw [PD.own,PD.nn];exact c1) h.lead (by rw [hfn,PD.nn];exact f1) (by rw [hfn,PD.own];exact f3) (by rw [d2,hMl]) Ye Wc (by rw [h.ll];exact d3);rw [hfn] at R7;have Vb:((S.wq q).bring z e m).q=q++(answered z (S.nd i5) m).1:=by rw [hbr,dS,X0];rfl
  have RF:((S.wq q).bring z e m).nd i5=(answered z (S.nd i5) m).2:=by rw [hbr,bf,ay rfl,X0]
  have WU:m.N.getD 1 0=0->(((S.nd i5).OE.getD f 0:Nat):Int)<=m.N.getD 2 0:=λh1=>hp.fb m Sj hk h1 d2 i5 f h.u h.lead d1 f2;have ZM:=Vg.mn h.lead f (by rw [PD.own];exact f3);have hnxt:∀j,(S.nd i5).next.getD j 0<=len:=λj=>by have:=PD.next h.lead j;rw [h.ll] at this;exact this
  rw [RF] at kl;generalize hR:answered z (S.nd i5) m=R at *;generalize hb1:(m.N.getD 1 0 != 0)=ok at *;have Qo:(ok=true↔m.N.getD 1 0≠0):=by rw [<-hb1];simp
  refine ⟨by rw [ku];exact h.u,by rw [RF];exact kl.1,by rw [RF,kl.2.1];exact h.ll,λw hw hk3=>?_,λw hw hk4=>?_,λj hj PI=>?_⟩
  ·rw [Vb] at hw;rw [RF];cases R7 with
   | no _ _ _ =>
    rw [dq] at hw;exact h.q3 w (O1 w hw) hk3
   | back s1 g1 g2 g3 g4 g5 =>
    have WT:m.N.getD 1 0=0:=bz λh9=>by have:=Qo.2 h9;cases this
    have WR:=WU WT;rcases aA.1 hw with hw | hw
    ·obtain ⟨a1,a2,a3,a4,a5,a6⟩:=h.q3 w (O1 w hw) hk3;refine ⟨a1,a2,a3,a4,a5,λd hd=>?_⟩;show ((s1.next.getD d 0:Nat):Int)<=_\/s1.next.getD d 0=s1.OE.getD d 0;rw [g5,g4];by_cases e1:d=f
     ·grind
     ·rw [am e1];exact a6 d hd
    ·rw [aj.1 hw];obtain ⟨p1,p2,p3,p4,p5,_,p7⟩:=fx s1 f;have Va:s1.next.getD f 0<=len:=by rw [g5,ay rfl];have:=hnxt f;omega
     refine ⟨by rw [p3,g3,PD.own],by rw [p4];exact kl.2.2.1.trans hMl,by rw [p5];omega,by rw [p5];omega,by rw [p7,p5,g2,h.ll];omega,λd hd=>?_⟩;rw [p2] at hd;obtain rfl:f=d:=az;left;rw [p5];exact aP _
   | on s1 ms g1 g2 g3 g4 g5 g6 g7 g8 =>
    have WT:m.N.getD 1 0≠0:=Qo.1 rfl;have hkk:s1.next.getD f 0=s1.OE.getD f 0:=Kz;have newl:∀d,d≠i5->(bI s1 d).OD=(i5:Int)/\(bI s1 d).N.getD 0 0=M/\0<=(bI s1 d).N.getD 1 0/\(bI s1 d).N.getD 1 0<=(len:Int)/\(bI s1 d).B.length=min 20 (len - ((bI s1 d).N.getD 1 0).toNat)/\∀d':Nat,(bI s1 d).dst=(d':Int)->((s1.next.getD d' 0:Nat):Int)<=(bI s1 d).N.getD 1 0\/s1.next.getD d' 0=s1.OE.getD d' 0:=λd hd=>by
     obtain ⟨p1,p2,p3,p4,p5,_,p7⟩:=fx s1 d;have Va:s1.next.getD d 0<=len:=by
      rw [g7];split
      ·have:=hnxt f;rw [h.ll] at g2;omega
      ·exact hnxt d
     refine ⟨by rw [p3,g4,PD.own],by rw [p4];exact kl.2.2.1.trans hMl,by rw [p5];omega,by rw [p5];omega,by rw [p7,p5,g3,h.ll];omega,λd' hd'=>?_⟩;rw [p2] at hd';obtain rfl:d=d':=az;left;rw [p5];exact aP _
    rcases aA.1 hw with hw | hw
    ·obtain ⟨a1,a2,a3,a4,a5,a6⟩:=h.q3 w (O1 w hw) hk3;refine ⟨a1,a2,a3,a4,a5,λd hd=>?_⟩;by_cases e1:d=f
     ·subst e1;exact .inr hkk
     ·have hdl:d≠i5:=λe2=>I9;rw [g7,am e1,g6 d (by rw [PD.own];exact hdl),am e1];exact a6 d hd
    ·rcases g8 with g8 | g8 | g8
     ·rw [g8] at hw;obtain ⟨d,_,dd,rfl⟩:=cT _ _ _ hw;exact newl d (by rw [g4,PD.own] at dd;exact dd)
     ·grind
     ·rw [g8.1] at hw;cases hw
  ·rw [Vb] at hw;rw [RF];cases R7 with
   | no _ _ _ =>
    rw [dq] at hw;exact h.q4 w (O1 w hw) hk4
   | back s1 g1 g2 g3 g4 g5 =>
    have WT:m.N.getD 1 0=0:=bz λh9=>by have:=Qo.2 h9;cases this
    have WR:=WU WT;rcases aA.1 hw with hw | hw
    ·obtain ⟨a1,a2,a3,a4⟩:=h.q4 w (O1 w hw) hk4;refine ⟨a1,a2,a3,λh1 d hd=>?_⟩;show ((s1.next.getD d 0:Nat):Int)<=_\/s1.next.getD d 0=s1.OE.getD d 0;rw [g5,g4];by_cases e1:d=f
     ·grind
     ·rw [am e1];exact a4 h1 d hd
    ·grind [aj.1,fx]
   | on s1 ms g1 g2 g3 g4 g5 g6 g7 g8 =>
    have WT:m.N.getD 1 0≠0:=Qo.1 rfl;have hkk:s1.next.getD f 0=s1.OE.getD f 0:=Kz;rcases aA.1 hw with hw | hw
    ·obtain ⟨a1,a2,a3,a4⟩:=h.q4 w (O1 w hw) hk4;refine ⟨a1,a2,a3,λh1 d hd=>?_⟩;by_cases e1:d=f
     ·subst e1;exact .inr hkk
     ·have hdl:d≠i5:=λe2=>I9;rw [g7,am e1,g6 d (by rw [PD.own];exact hdl),am e1];exact a4 h1 d hd
    ·rcases g8 with g8 | g8 | g8
     ·rw [g8] at hw;obtain ⟨d,_,_,rfl⟩:=cT _ _ _ hw;have:=(fx s1 d).1;omega
     ·grind [aj.1,fx]
     ·rw [g8.1] at hw;cases hw
  ·rw [ku] at hj;rw [RF,Vb];have Vv:=hG.up j hj;cases R7 with
   | no _ n1 n2 =>
    rw [dq];rcases h.ef j hj PI with g | g | g | g
    ·exact .inl g
    ·grind
    ·rcases rest g with g | ⟨_,g2,g3,g4⟩
     ·exact .inr (.inr (.inl g))
     ·obtain rfl:f=j:=by omega
      have:=n1 (Qo.2 g3);omega
    ·grind
   | back s1 g1 g2 g3 g4 g5 =>
    by_cases e1:j=f
    ·subst e1;right;left;exact ⟨_,aR _ (eR _),rfl,rfl,rfl⟩
    ·grind [h.ef]
   | on s1 ms g1 g2 g3 g4 g5 g6 g7 g8 =>
    have WT:m.N.getD 1 0≠0:=Qo.1 rfl;have hkk:s1.next.getD f 0=s1.OE.getD f 0:=Kz;by_cases e1:j=f
    ·subst e1;rcases g8 with g8 | g8 | ⟨_,g8⟩
     ·right;left;refine ⟨bI s1 j,aR _ ?_,rfl,rfl,rfl⟩;rw [g8];exact fX _ _ j (by rw [g5,PD.nn];exact f1) (by rw [g4,PD.own];exact f3)
     ·right;left;exact ⟨bI s1 j,aR _ (by rw [g8];exact eR _),rfl,rfl,rfl⟩
     ·grind [PD.own,h.ll]
    ·rw [g6 j (by rw [PD.own];exact PI),am e1,g7,am e1];have up1:∀{P:Ms ρ->Prop},(∃x∈q,P x)->∃y∈q++ms,P y:=λ⟨y,hy,hP⟩=>⟨y,aI _ hy,hP⟩
     rcases h.ef j hj PI with g | g | g | g
     ·exact .inl g
     ·rcases rest g with g | ⟨g,_⟩
      ·exact .inr (.inl (up1 g))
      ·omega
     ·rcases rest g with g | ⟨_,g,_⟩
      ·exact .inr (.inr (.inl (up1 g)))
      ·omega
     ·rcases rest g with g | ⟨_,g,_⟩
      ·exact .inr (.inr (.inr (up1 g)))
      ·omega
end
section
variable {ρ:Type} {z:ρ->Bool} {e:ρ}
variable {n i F l len:Nat} {b b' M T:Int} {S S' S0 S1 S2 S3:Cs ρ} {G:Gh ρ} {m:Ms ρ} {s:Nd ρ} {r:List (Ms ρ)×Nd ρ} {ms q:List (Ms ρ)} {Λ:Nat}
theorem FQ (s:Nd ρ) (k:Nat):s.agreed<=(X.agree z s k).agreed:=by
 unfold X.agree;split
 ·rename_i h;exact gc h
 ·exact ah _
theorem EJ (p:Nat) (l:List (Int×ρ)):∀(j:Nat) (s:Nd ρ),(bH p l j s).2.agreed=s.agreed:=by
 induction l with
 | nil=>intro j s;rfl
 | cons x l ih =>
  exact I5
theorem Fe:s.agreed<=(X.get z e s m).2.agreed:=by
 have O9:∀s1:Nd ρ,s1.agreed<=(OJ z e s1 m).2.agreed:=λs1=>by
  unfold OJ;split
  ·unfold asked;split
   ·simp only;split
    ·split<;>exact ah _
    ·exact ah _
   ·exact ah _
  ·split
   ·unfold O4;split
    ·exact ah _
    ·simp only;split
     ·exact sC (z:=z) (s:=place { s1 with OB:=s1.OB.set m.OD.toNat true,Oy:=true,next:=List.replicate s1.n s1.Oz.length,OE:=List.replicate s1.n 0 } s1.Oz.length (s1.Ow,e))
     ·exact ah _
   ·split
    ·unfold lays;split
     ·exact ah _
     ·split
      ·exact ah _
      ·simp only;split
       ·grind [EJ,bH,FQ]
       ·exact ah _
    ·split
     ·unfold answered;split
      ·exact ah _
      ·simp only;split
       ·split<;>exact ah _
       ·split
        ·exact ah _
        ·have h1:=sC (z:=z) (s:={ s1 with OE:=s1.OE.set m.OD.toNat (m.N.getD 2 0).toNat,next:=s1.next.set m.OD.toNat (max (m.N.getD 2 0).toNat (s1.next.getD m.OD.toNat 0))});split
         ·exact h1
         ·split<;>exact h1
     ·grind
 unfold X.get;split
 ·exact ah _
 ·grind [enter]
structure Sb (z:ρ->Bool) (n:Nat) (b M:Int) (Λ l:Nat) (S:Cs ρ):Prop where
 wk:Wk z n b S
 lead:Ti M S l
 q:∀x∈S.q,∃d,d≠l/\x=bI (S.nd l) d
 ql:S.q.length<=4
 Oz:∀i,S.up i=true->(S.nd i).Oz.length<=Λ
structure SbR (z:ρ->Bool) (e:ρ) (n:Nat) (b M:Int) (Λ l:Nat) (S S3:Cs ρ):Prop where
 sb:Sb z n (b+1) M Λ l S3
 q:S3.q=[]
 up:S3.up=S.up
 Oz:(S3.nd l).Oz=(S.nd l).Oz
 OE:∀j,S.up j=true->j≠l->(S3.nd l).OE.getD j 0=(S.nd l).Oz.length
 ag:(S3.nd l).agreed=(S.nd l).Oz.length
 all:(∀j,S.up j=true->j≠l->(S.nd l).OE.getD j 0=(S.nd l).Oz.length)->(S.nd l).agreed=(S.nd l).Oz.length->∀j,S.up j=true->(S3.nd j).agreed=(S.nd l).Oz.length
 small:∀j,(Cs.drain z e j (S.Ox z e n)).q.length<=30+3*Λ
 p3:P3 z n (b+1) M (S.Ox z e n)
 dr:∃k,S3=Cs.drain z e k (S.Ox z e n)/\Ul n (S.Ox z e n)<=k
 tk:∀j,S.up j=true->((S.Ox z e n).nd j).Oy=(S.nd j).Oy/\((S.Ox z e n).nd j).Oz=(S.nd j).Oz/\((S.Ox z e n).nd j).Ow=(S.nd j).Ow/\((S.Ox z e n).nd j).cnt=(S.nd j).cnt/\((S.Ox z e n).nd j).OC=(S.nd j).OC
theorem vj (hG:QS z n b G S) {j:Nat} (hl:S.up l=true) (hj:S.up j=true) (h1:(S.nd l).Oy=true) (h2:(S.nd j).Ow<=(S.nd l).Ow):(S.nd j).agreed<=(S.nd l).Oz.length/\(S.nd j).Oz.take (S.nd j).agreed=(S.nd l).Oz.take (S.nd j).agreed:=by
 have PD:=hG.ni l (hG.up l hl);have hnj:=hG.ni j (hG.up j hj);obtain ⟨d1,d2⟩:=PD.UC h1;rcases hnj.ag.2 with g | ⟨u,k,k1,k2,k3,k4⟩
 ·rw [g];simp
 ·have h3:=hG.gi.later k1 (t':=(S.nd l).Ow) (cK k2 h2) (by rw [d1];simp);rw [<-d2] at h3;have h4:=qJ h3.symm k1.kl;exact ⟨by omega,by rw [k4];exact (iz h3 k3).symm⟩
theorem jg (h:Sb z n b M Λ l S) (hn:n<=5) (hb:b+1<=1099511627776) (Pm:RO n λj=>S.up j) (hF:100+22*Λ<=F):SbR z e n b M Λ l S (S.Sr z e n F):=by
 obtain ⟨t1,t2,t3⟩:=dL (z:=z) (e:=e) n S;have hw:=h.wk.Ox (e:=e) hb;have O2:∀i,S.up i=true->i<n:=Hg;have hl:=h.lead.up;have Pr:=O2 l hl;have PO:∀i,S.up i=true->(S.Ox z e n).nd i=(X.tick z e (S.nd i)).2:=λi hi=>by rw [t1,ay ⟨O2 i hi,hi⟩]
 have htl:X.tick z e (S.nd l)=(cP { S.nd l with OA:=(S.nd l).OA+1 } (bI { S.nd l with OA:=(S.nd l).OA+1 }),{ S.nd l with OA:=(S.nd l).OA+1 }):=by
  rcases dT (z:=z) (e:=e) (S.nd l) with ⟨_,g⟩ | ⟨g,_⟩ | ⟨g,_⟩ | ⟨g,_⟩
  ·exact g
  ·rw [h.lead.Oy] at g;cases g
  ·rw [h.lead.Oy] at g;cases g
  ·rw [h.lead.Oy] at g;cases g
 have htj:∀j,S.up j=true->j≠l->X.tick z e (S.nd j)=([],nx (S.nd j)):=λj hj PI=>by
  obtain ⟨g1,g2,g3⟩:=h.lead.XU j hj PI;rcases dT (z:=z) (e:=e) (S.nd j) with ⟨g,_⟩ | ⟨_,g,_⟩ | ⟨_,_,g,_⟩ | ⟨_,_,_,g⟩
  ·rw [g3] at g;cases g
  ·rw [g2] at g;omega
  ·rw [g2] at g;omega
  ·exact g
 have YP:(S.Ox z e n).nd l={ S.nd l with OA:=(S.nd l).OA+1 }:=by rw [PO l hl,htl]
 have hjA:∀j,S.up j=true->j≠l->(S.Ox z e n).nd j=nx (S.nd j):=λj hj PI=>by rw [PO j hj,htj j hj PI]
 have hown:(S.nd l).own=l/\(S.nd l).n=n:=by obtain ⟨G,hG⟩:=h.wk;exact ⟨(hG.ni l Pr).own,(hG.ni l Pr).nn⟩
 have hqA:∀x∈(S.Ox z e n).q,∃d,d≠l/\x=bI (S.nd l) d:=λx hx=>by
  rcases (t3 x).1 hx with g | ⟨i,i1,i2,i3⟩
  ·exact h.q x g
  ·by_cases e1:i=l
   ·subst e1;rw [htl] at i3;obtain ⟨d,_,d2,rfl⟩:=cT _ _ _ i3;exact ⟨d,by rw [hown.1] at d2;exact d2,rfl⟩
   ·rw [htj i i2 e1] at i3;cases i3
 have hqN:∀d,d<n->d≠l->bI (S.nd l) d∈(S.Ox z e n).q:=λd d1 d2=>by
  refine (t3 _).2 (.inr ⟨l,Pr,hl,?_⟩);rw [htl];exact fX _ (bI { S.nd l with OA:=(S.nd l).OA+1 }) d (by show d<(S.nd l).n;rw [hown.2];exact d1) (by show d≠(S.nd l).own;rw [hown.1];exact d2)
 have hlen:=lI (e:=e) h.wk hn hb n (ah _);have Vb:=h.ql;generalize Wb:S.Ox z e n=SA at *;have hldA:∀i,SA.up i=true->(SA.nd i).Oy=true->i=l:=λi hi hle=>by
  rw [t2] at hi;apply bz;intro hne;rw [hjA i hi hne] at hle;have hle:(S.nd i).Oy=true:=hle;rw [(h.lead.XU i hi hne).2.2] at hle;cases hle
 have htA:∀i,SA.up i=true->(SA.nd i).Ow=M:=λi hi=>by
  rw [t2] at hi;by_cases e1:i=l
  ·subst e1;rw [YP];exact h.lead.Ow
  ·rw [hjA i hi e1];exact (h.lead.XU i hi e1).1
 have P:P3 z n (b+1) M SA:=by
  refine ⟨hw,⟨λi hi=>nI (htA i hi),λm hm=>?_⟩,λm hm=>?_,λi hi _=>htA i hi,λm hm _ i hi hle hf=>?_,λi hi hle=>?_,λm hm hk=>?_⟩
  ·obtain ⟨d,_,rfl⟩:=hqA m hm;exact nI h.lead.Ow
  ·obtain ⟨d,_,rfl⟩:=hqA m hm;exact .inl rfl
  ·obtain ⟨d,_,rfl⟩:=hqA m hm;exact h.lead.Ow
  ·refine List.Pairwise.imp_of_mem (R:=λ_ _=>True) (λ{a b} ha hb' _ h5=>?_) (List.pairwise_of_forall (λ_ _=>trivial));obtain ⟨d,_,rfl⟩:=hqA a ha;cases h5
  ·obtain ⟨d,_,rfl⟩:=hqA m hm;cases hk
 have hnlS:∀j,(S.nd l).next.getD j 0<=(S.nd l).Oz.length:=by obtain ⟨G,hG⟩:=h.wk;exact (hG.ni l Pr).next h.lead.Oy
 have E0:Ei l (S.nd l).Oz.length M SA:=by
  refine ⟨by rw [t2];exact hl,by rw [YP];exact h.lead.Oy,by rw [YP],λx hx hk=>?_,λx hx hk=>?_,λj hj PI=>?_⟩
  ·obtain ⟨d,d1,rfl⟩:=hqA x hx;obtain ⟨p1,p2,p3,p4,p5,_,p7⟩:=fx (S.nd l) d;have:=hnlS d;refine ⟨by rw [p3,hown.1],by rw [p4];exact h.lead.Ow,by rw [p5];omega,by rw [p5];omega,by rw [p7,p5];omega,λd' hd'=>?_⟩;rw [p2] at hd';obtain rfl:d=d':=az;left;rw [YP,p5];exact aP _
  ·obtain ⟨d,d1,rfl⟩:=hqA x hx;cases hk
  ·rw [t2] at hj;right;left;exact ⟨_,hqN j (O2 j hj) PI,rfl,rfl,by rw [YP];rfl⟩
 obtain ⟨φ1,φ2⟩:=Dz (M:=M) hw hn P.ld (Λ:=Λ) (λi hi hle=>by
  have:=hldA i hi hle;subst this;rw [YP];exact h.Oz i hl)
 have hlenΛ:(S.nd l).Oz.length<=Λ:=h.Oz l hl;have hLd:=P.lead (e:=e) hn hb ⟨by rw [t2];exact hl,by rw [YP];exact h.lead.Oy⟩ (λj hj PI=>.inr ⟨_,hqN j (O2 j (by rw [<-t2];exact hj)) PI,rfl,rfl,h.lead.Ow⟩) F az;obtain ⟨c1,c2,c3,c4,c5⟩:=P3.end_ (z:=z) (e:=e) (Inv:=λS'=>(S'.up=S.up/\Ei l (S.nd l).Oz.length M S')/\(∀i,S'.up i=true->(S'.nd i).Oz.length<=Λ)/\((∀j,S.up j=true->j≠l->(S.nd l).OE.getD j 0=(S.nd l).Oz.length)->(S.nd l).agreed=(S.nd l).Oz.length->(∀j,S.up j=true->j≠l->(S'.nd l).OE.getD j 0=(S.nd l).Oz.length)/\∀j,S.up j=true->j≠l->(S.nd l).Oz.length<=(S'.nd j).agreed\/∃x∈S'.q,x.kind=3/\x.dst=(j:Int)/\x.N.getD 1 0=((S.nd l).Oz.length:Int)/\x.N.getD 3 0=((S.nd l).Oz.length:Int))) hn hb (λS' m q p hi hq st=>by
  obtain ⟨⟨i0,i1⟩,i2,i3⟩:=hi;refine ⟨⟨st.kp.up.trans i0,i1.step p hn hb hq st⟩,λj hj=>?_,λUo Qb=>?_⟩
  ·obtain ⟨i,k1,k2,k3,k4,k5⟩:=st.cut;rw [st.kp.up] at hj;cases hu:S'.up i with
   | false=>rw [k5 hu];exact i2 j hj
   | true =>
    rw [k4 hu,bf];split
    ·rename_i e1;subst e1;have gl:=na (z:=z) (e:=e) (s:=S'.nd j) (m:=m);have h1:=i2 j hj;have Sj:m∈S'.q:=Bl;rcases gl.len with g | ⟨g,_⟩
     ·have h2:(if m.kind=3 then (m.N.getD 1 0).toNat+m.B.length else 0)<=Λ:=by
       split
       ·rename_i hk;obtain ⟨_,_,g1,g2,g3,_⟩:=i1.q3 m Sj hk;omega
       ·exact aH _
      omega
     ·rcases p.kd m Sj with g7 | g7<;>omega
    ·exact i2 j hj
  ·obtain ⟨a1,a2⟩:=i3 Uo Qb;obtain ⟨i,k1,k2,k3,k4,k5⟩:=st.cut;have Sj:m∈S'.q:=Bl;obtain ⟨G,hG⟩:=p.wk;have PD:=hG.ni l Pr;have Vg:=hG.ln l Pr;have hmat2:∀j,S.up j=true->j≠l->(((S'.wq q).bring z e m).nd l).OE.getD j 0=(S.nd l).Oz.length:=λj hj PI=>by
    cases hu:S'.up i with
    | false=>rw [k5 hu];exact a1 j hj PI
    | true =>
     rw [k4 hu,bf];split
     ·rename_i e1;subst e1;rcases p.kd m Sj with hk | ⟨hk,Ye,Wc⟩
      ·have:=p.ub.q m Sj;rw [qZ hk i1.lead (by rw [p.ld l hu i1.lead];exact this)];exact a1 j hj PI
      ·obtain ⟨d1,d2,d3,d4⟩:=i1.q4 m Sj hk;obtain ⟨mi,fm⟩:=hG.mi m Sj;obtain ⟨i6,f,_,f1,f3,f4,f5⟩:=fm.f;have hMl:=p.ld l hu i1.lead;have hMp:1<=M:=Jd;obtain ⟨i5,_,e5,_,O0⟩:=fm.fit hb az;obtain rfl:i5=l:=az;rw [kJ hk az (O0.ok PD.own PD.nn)];rcases oD (z:=z) (m:=m) (s:=S'.nd i5) Vg.ml (by rw [PD.nn];omega) j (by rw [PD.own];exact PI) (by rw [PD.own,PD.nn];exact Pr) with g | ⟨g1,g2,g3,g4⟩
       ·rw [g];exact a1 j hj PI
       ·grind [bf,answered,kJ,rN,back]
     ·exact a1 j hj PI
   refine ⟨hmat2,λj hj PI=>?_⟩;have hagj:(S'.nd j).agreed<=(((S'.wq q).bring z e m).nd j).agreed:=by
    cases hu:S'.up i with
    | false=>rw [k5 hu];exact ah _
    | true =>
     rw [k4 hu,bf];split
     ·rename_i e1;subst e1;exact Fe
     ·exact ah _
   rcases a2 j hj PI with g | ⟨x,x1,x2,x3,x4,x5⟩
   ·exact .inl (aF g hagj)
   ·by_cases hxm:x=m
    ·subst hxm;left;obtain rfl:i=j:=az;have hu:S'.up i=true:=by rw [i0];exact hj
     rw [k4 hu,bf,ay rfl];obtain ⟨mi,fm⟩:=hG.mi x Sj;have hMl:=p.ld l i1.u i1.lead;have hMp:1<=M:=Jd;obtain ⟨d1,d2,_⟩:=i1.q3 x Sj x2;obtain ⟨i5,_,e5,_,O0⟩:=fm.fit hb az;obtain rfl:i5=i:=az;have OP:=hG.ni i5 k1;have hti:=p.ub.nd i5 hu;have WO:(S'.nd i5).Oy=false:=by
      grind [hG.one,i1.lead,p.ld]
     have h1l:1<=(S.nd l).Oz.length:=by have:=(Vg.lt i1.lead).1;rw [i1.ll] at this;exact this
     have UI:=PD.OE i1.lead i5 k1 PI (by rw [a1 i5 hj PI];omega);rw [a1 i5 hj PI,hMl] at UI;obtain ⟨w,w1,w2,w3⟩:=sT (z:=z) (e:=e) hG.gi OP O0 mi x2 az (.inl WO);rcases w2.what with ⟨g1,g2⟩ | ⟨g1,g2,g3⟩
     ·omega
     ·exfalso;have:=zU (z:=z) (e:=e) hG.gi OP mi O0 x2 (.inl WO) az w (by rw [w1];exact eR _) g1 _ (by rw [d2];exact UI);omega
    ·right;rw [hq] at x1;have hx:x∈q:=by
      grind
     cases hu:S'.up i with
     | false=>rw [k5 hu];exact ⟨x,hx,x2,x3,x4,x5⟩
     | true=>rw [k4 hu];exact ⟨x,aI _ hx,x2,x3,x4,x5⟩) F SA P ⟨⟨t2,E0⟩,λi hi=>by
    rw [t2] at hi;by_cases e1:i=l
    ·subst e1;rw [YP];exact h.Oz i hi
    ·rw [hjA i hi e1];exact h.Oz i hi,λUo Qb=>⟨λj hj PI=>by rw [YP];exact Uo j hj PI,λj hj PI=>by
     right;refine ⟨_,hqN j (O2 j hj) PI,rfl,rfl,?_,?_⟩
     ·have h1:=hnlS j;have h2:(S.nd l).OE.getD j 0<=(S.nd l).next.getD j 0:=by
       obtain ⟨G,hG⟩:=h.wk;exact (hG.ln l Pr).mn h.lead.Oy j (by rw [hown.1];exact PI)
      rw [Uo j hj PI] at h2;show (((S.nd l).next.getD j 0:Nat):Int)=_;omega
     ·show ((S.nd l).agreed:Int)=_;rw [Qb]⟩⟩ az
 obtain ⟨⟨u3,E3⟩,L3,A3⟩:=c4;have hrnd:S.Sr z e n F=Cs.drain z e F SA:=by show Cs.drain z e F (S.Ox z e n)=_;rw [Wb]
 rw [hrnd];have hmat3:∀j,S.up j=true->j≠l->((Cs.drain z e F SA).nd l).OE.getD j 0=(S.nd l).Oz.length:=λj hj PI=>by
  rcases E3.ef j (by rw [u3];exact hj) PI with g | ⟨x,g,_⟩ | ⟨x,g,_⟩ | ⟨x,g,_⟩
  ·exact g
  ·rw [c2] at g;cases g
  ·rw [c2] at g;cases g
  ·rw [c2] at g;cases g
 have Vg:((Cs.drain z e F SA).nd l).Oz=(S.nd l).Oz:=by
  rw [(c3.lead l (by rw [t2];exact hl) (by rw [YP];exact h.lead.Oy)).2.1,YP]
 obtain ⟨G,hG⟩:=c1.wk;have hnl3:=hG.ni l Pr;have hln3:=hG.ln l Pr;have hag3:((Cs.drain z e F SA).nd l).agreed=(S.nd l).Oz.length:=by
  have h1:=hnl3.ag.1;rw [Vg] at h1;apply bz;intro hne;obtain ⟨q1,q2⟩:=hln3.qs E3.lead;obtain ⟨q3,q4⟩:=hln3.lt E3.lead;rw [Vg] at q1 q2 q3 q4;obtain ⟨k,hk⟩:∃k,(S.nd l).Oz.length=k+1:=⟨(S.nd l).Oz.length - 1,by omega⟩
  rw [hk] at q1 q2 q4 hne h1;unfold OQ at q1;rw [ay ⟨by omega,by rw [Vg];exact q4⟩] at q1;have hcount:dF ((Cs.drain z e F SA).nd l) (fI ((Cs.drain z e F SA).nd l).OE (k+1))=true:=by
   unfold dF fI;rw [hnl3.nn];apply aO;have ef:=ka ((Cs.drain z e F SA).nd l).OE (λm=>decide (k+1<=m)) 0;rw [hnl3.ml] at ef;rw [ef];have:=Pm.mono (q:=λj=>decide (k+1<=((Cs.drain z e F SA).nd l).OE.getD j 0)) (λj hj hu=>by
    apply aO;by_cases e1:j=l
    ·subst e1;rw [hnl3.own] at q2;rw [q2];exact ah _
    ·rw [hmat3 j hu e1,hk];exact ah _)
   exact this
  rw [hcount] at q1;simp at q1
 refine ⟨⟨c1.wk,hLd,λx hx=>(by rw [c2] at hx;cases hx),by rw [c2];exact aH _,L3⟩,c2,u3,Vg,hmat3,hag3,λUo Qb j hj=>?_,λj=>?_,by rw [Wb];exact P,⟨F,by rw [Wb],by rw [Wb];omega⟩,λj hj=>by
  rw [Wb];by_cases e1:j=l
  ·grind
  ·rw [hjA j hj e1];exact ⟨rfl,rfl,rfl,rfl,rfl⟩⟩
 ·by_cases e1:j=l
  ·subst e1;exact hag3
  ·rcases (A3 Uo Qb).2 j hj e1 with g | ⟨x,g,_⟩
   ·have PU:(Cs.drain z e F SA).up j=true:=by rw [u3];exact hj
    have:=(vj hG (l:=l) (j:=j) hLd.up PU hLd.Oy (by rw [(hLd.XU j PU e1).1,hLd.Ow];exact aP _)).1;rw [Vg] at this;omega
   ·rw [c2] at g;cases g
 ·grind
end
section
variable {ρ:Type} {z:ρ->Bool} {e:ρ}
variable {n i F l len:Nat} {b b' M T:Int} {S S' S0 S1 S2 S3:Cs ρ} {G:Gh ρ} {m:Ms ρ} {s:Nd ρ} {r:List (Ms ρ)×Nd ρ} {ms q:List (Ms ρ)} {Λ:Nat}
structure Sd (z:ρ->Bool) (n:Nat) (b M:Int) (Λ l:Nat) (S:Cs ρ):Prop where
 sb:Sb z n b M Λ l S
 q:S.q=[]
 OE:∀j,S.up j=true->j≠l->(S.nd l).OE.getD j 0=(S.nd l).Oz.length
 ag:∀j,S.up j=true->(S.nd j).agreed=(S.nd l).Oz.length
theorem Sd.Sr (h:Sd z n b M Λ l S) (hn:n<=5) (hb:b+1<=1099511627776) (Pm:RO n λj=>S.up j) (hF:100+22*Λ<=F):Sd z n (b+1) M Λ l (S.Sr z e n F)/\((S.Sr z e n F).nd l).Oz=(S.nd l).Oz/\(S.Sr z e n F).up=S.up:=by
 have r:=jg (e:=e) h.sb hn hb Pm hF;exact ⟨⟨r.sb,r.q,λj hj PI=>by rw [r.Oz];exact r.OE j (by rw [<-r.up];exact hj) PI,λj hj=>by rw [r.Oz];exact r.all h.OE (h.ag l h.sb.lead.up) j (by rw [<-r.up];exact hj)⟩,r.Oz,r.up⟩
theorem Dj (h:Sb z n b M Λ l S) (hn:n<=5) (hb:b+2<=1099511627776) (Pm:RO n λj=>S.up j) (hF:100+22*Λ<=F):Sd z n (b+2) M Λ l (S.OG z e n F 2)/\((S.OG z e n F 2).nd l).Oz=(S.nd l).Oz/\(S.OG z e n F 2).up=S.up:=by
 have r1:=jg (e:=e) h hn az Pm hF;have r2:=jg (e:=e) r1.sb hn az (by rw [r1.up];exact Pm) hF;have hb2:b+2=b+1+1:=az;rw [hb2];refine ⟨⟨r2.sb,r2.q,λj hj PI=>?_,λj hj=>?_⟩,r2.Oz.trans r1.Oz,r2.up.trans r1.up⟩
 ·have e1:((S.OG z e n F 2).nd l).Oz=((S.Sr z e n F).nd l).Oz:=r2.Oz;rw [e1];exact r2.OE j (by rw [<-r2.up];exact hj) PI
 ·have e1:((S.OG z e n F 2).nd l).Oz=((S.Sr z e n F).nd l).Oz:=r2.Oz;rw [e1];refine r2.all (λj hj PI=>?_) ?_ j (by rw [<-r2.up];exact hj)
  ·grind [r1.Oz,r1.OE,r1.up]
  ·rw [r1.Oz];exact r1.ag
theorem jU (a c:Nat) (S:Cs ρ):S.OG z e n F (a+c)=(S.OG z e n F a).OG z e n F c:=by
 induction c with
 | zero=>rfl
 | succ c ih=>show Cs.Sr z e n F (S.OG z e n F (a+c))=_;rw [ih];rfl
theorem Sd.OG (h:Sd z n b M Λ l S) (hn:n<=5) (Pm:RO n λj=>S.up j) (hF:100+22*Λ<=F):∀k:Nat,b+k<=1099511627776->Sd z n (b+k) M Λ l (S.OG z e n F k)/\((S.OG z e n F k).nd l).Oz=(S.nd l).Oz/\(S.OG z e n F k).up=S.up:=by
 intro k;induction k with
 | zero=>intro _;rw [show b+((0:Nat):Int)=b by omega];exact ⟨h,rfl,rfl⟩
 | succ k ih =>
  intro hb;obtain ⟨h1,h2,h3⟩:=ih az;obtain ⟨g1,g2,g3⟩:=h1.Sr (e:=e) hn az (by rw [h3];exact Pm) hF;rw [show b+((k+1:Nat):Int)=b+(k:Int)+1 by omega];exact ⟨g1,g2.trans h2,g3.trans h3⟩
theorem Sb.mono (h:Sb z n b M Λ l S) {Λ':Nat} (hb:b<=b') (hL:Λ<=Λ'):Sb z n b' M Λ' l S:=⟨h.wk.mono hb,h.lead,h.q,h.ql,λi hi=>aF (h.Oz i hi) hL⟩
theorem Sd.give (h:Sd z n b M Λ l S) (hn:n<=5) (hΛ:Λ<=1900) (x:ρ):(X.OH z (S.nd l) x).2.1=true/\Sb z n b M (Λ+1) l (S.call l ((X.OH z (S.nd l) x).1,(X.OH z (S.nd l) x).2.2))/\(X.OH z (S.nd l) x).2.2.Oz=(S.nd l).Oz++[(M,x)]:=by
 have hl:=h.sb.lead;obtain ⟨G,hG⟩:=h.sb.wk;have Pr:=hG.up l hl.up;have OP:=hG.ni l Pr;have hagl:=h.ag l hl.up;have hopen:vx z (S.nd l)=0:=by
  unfold vx;rw [hagl,nH (ah _)];rfl
 have RM:(S.nd l).many<=Λ:=by
  rw [OP.many];unfold recs;rw [aW];have h1:=cX (λx => !z x.2) ((S.nd l).Oz.take (S.nd l).agreed);have h2:=h.sb.Oz l hl.up;rw [aQ] at h1;omega
 have O1:X.OH z (S.nd l) x=(cP (X.settle z (place (S.nd l) (S.nd l).Oz.length ((S.nd l).Ow,x))).2 (bI (X.settle z (place (S.nd l) (S.nd l).Oz.length ((S.nd l).Ow,x))).2),true,(X.settle z (place (S.nd l) (S.nd l).Oz.length ((S.nd l).Ow,x))).2):=by
  unfold X.OH;rw [am (by rw [hl.Oy];simp),am az]
 obtain ⟨g1,g2,g3,g4,g5,g6,g7,g8,_⟩:=df (z:=z) (s:=place (S.nd l) (S.nd l).Oz.length ((S.nd l).Ow,x));have Pz:(X.settle z (place (S.nd l) (S.nd l).Oz.length ((S.nd l).Ow,x))).2.Oz=(S.nd l).Oz++[(M,x)]:=by
  rw [g8];show (S.nd l).Oz.take (S.nd l).Oz.length++[((S.nd l).Ow,x)]=_;rw [bW,hl.Ow]
 rw [O1];refine ⟨rfl,?_,Pz⟩;have hstp:=oW (z:=z) hG.gi OP x;rw [O1] at hstp;have hlnn:=(hG.ln l Pr).OH (z:=z) (by rw [OP.own,OP.nn];exact Pr) x;rw [O1] at hlnn;have hlt:(X.settle z (place (S.nd l) (S.nd l).Oz.length ((S.nd l).Ow,x))).2.Ow=(S.nd l).Ow:=g6;have UX:=OP.t0;have SV:=hG.tb l Pr;obtain ⟨G',_,UK⟩:=hG.call Pr hstp hlnn (by show (X.settle z (place (S.nd l) (S.nd l).Oz.length ((S.nd l).Ow,x))).2.Ow<=b;rw [hlt];exact SV) (λy hy=>by
  obtain ⟨d,d1,d2,rfl⟩:=cT _ _ _ hy;rw [g2] at d1;rw [g1] at d2;have d1:d<(S.nd l).n:=d1;have d2:d≠(S.nd l).own:=d2;rw [OP.nn] at d1;rw [OP.own] at d2;refine ⟨⟨d,l,d1,Pr,F5 d2,rfl,?_⟩,by unfold bI;simp,?_,?_⟩
  ·show (((X.settle z (place (S.nd l) (S.nd l).Oz.length ((S.nd l).Ow,x))).2.own:Nat):Int)=_;rw [g1];show ((S.nd l).own:Int)=_;rw [OP.own]
  ·show 0<=(X.settle z (place (S.nd l) (S.nd l).Oz.length ((S.nd l).Ow,x))).2.Ow;rw [hlt];exact UX
  ·show (X.settle z (place (S.nd l) (S.nd l).Oz.length ((S.nd l).Ow,x))).2.Ow<=b;rw [hlt];exact SV)
 have RF:((S.call l (cP (X.settle z (place (S.nd l) (S.nd l).Oz.length ((S.nd l).Ow,x))).2 (bI (X.settle z (place (S.nd l) (S.nd l).Oz.length ((S.nd l).Ow,x))).2),(X.settle z (place (S.nd l) (S.nd l).Oz.length ((S.nd l).Ow,x))).2)).nd l)=(X.settle z (place (S.nd l) (S.nd l).Oz.length ((S.nd l).Ow,x))).2:=Bp;refine ⟨⟨G',UK⟩,⟨hl.up,by rw [RF,g5];exact hl.Oy,by rw [RF,hlt];exact hl.Ow,λj hj PI=>by rw [bf,am PI];exact hl.XU j hj PI⟩,λy hy=>?_,?_,λj hj=>?_⟩
 ·rw [dS,h.q,cC] at hy;obtain ⟨d,_,d2,rfl⟩:=cT _ _ _ hy;rw [g1] at d2;have d2:d≠(S.nd l).own:=d2;rw [OP.own] at d2;exact ⟨d,d2,by rw [RF]⟩
 ·rw [dS,h.q,cC];have:=gd (X.settle z (place (S.nd l) (S.nd l).Oz.length ((S.nd l).Ow,x))).2 (bI (X.settle z (place (S.nd l) (S.nd l).Oz.length ((S.nd l).Ow,x))).2) (by rw [g1,g2];show (S.nd l).own<(S.nd l).n;rw [OP.own,OP.nn];exact Pr);rw [g2] at this;have this:_+1<=(S.nd l).n:=this;rw [OP.nn] at this;show (cP _ _).length<=4;omega
 ·rw [bf];split
  ·show (X.settle z (place (S.nd l) (S.nd l).Oz.length ((S.nd l).Ow,x))).2.Oz.length<=_;rw [Pz,aE];have:=h.sb.Oz l hl.up;simp;exact this
  ·have:=h.sb.Oz j hj;omega
theorem Nu (h:Sd z n b M Λ l S) (hn:n<=5) (Pm:RO n λj=>S.up j) (hΛ:Λ<=1900) (hb:b+20<=1099511627776) (hF:100+22*(Λ+1)<=F) (x:ρ):∃S',S'=(S.call l ((X.OH z (S.nd l) x).1,(X.OH z (S.nd l) x).2.2)).OG z e n F 10/\Sd z n (b+10) M (Λ+1) l S'/\S'.up=S.up/\(S'.nd l).Oz=(S.nd l).Oz++[(M,x)]:=by
 obtain ⟨h1,h2,h3⟩:=h.give hn hΛ x;obtain ⟨g1,g2,g3⟩:=Dj (e:=e) (F:=F) h2 hn az Pm hF;obtain ⟨q1,q2,q3⟩:=g1.OG (e:=e) (F:=F) hn (by rw [g3];exact Pm) hF 8 az;refine ⟨_,rfl,?_⟩;rw [show (10:Nat)=2+8 from rfl,jU];refine ⟨⟨q1.sb.mono (b':=b+10) az (ah _),q1.q,q1.OE,q1.ag⟩,q3.trans g3,?_⟩;rw [q2,g2,bf,ay rfl];exact h3
end
section
variable {ρ:Type} {z:ρ->Bool} {e:ρ}
variable {n i F l len:Nat} {b b' M T:Int} {S S' S0 S1 S2 S3:Cs ρ} {G:Gh ρ} {m:Ms ρ} {s s':Nd ρ} {r:List (Ms ρ)×Nd ρ} {ms q:List (Ms ρ)} {Λ:Nat}
def pl (s:Nd ρ):Int:=(s.cnt:Int) - 2*s.Ow - (if s.OC = -1 then 0 else 1)
theorem qL (s:Nd ρ):(s.cnt:Int)<=pl s+2*s.Ow+1:=by unfold pl;split<;>omega
theorem qe (h1:s'.cnt=s.cnt) (h2:s'.Ow=s.Ow) (h3:s'.OC=s.OC):pl s'=pl s:=by unfold pl;rw [h1,h2,h3]
theorem jV (t w:Int) (h:s.Ow<t):pl (enter s t w)<=pl s:=by
 unfold pl;show ((s.cnt+1:Nat):Int) - 2*t - (if w = -1 then 0 else 1)<=_;split<;>split<;>omega
theorem GD (w:Int) (h:s.OC = -1) (hw:w ≠ -1):pl (enter s s.Ow w)=pl s:=by
 unfold pl;show ((s.cnt+1:Nat):Int) - 2*s.Ow - (if w = -1 then 0 else 1)=_;rw [am hw,ay h];omega
theorem tX (s:Nd ρ):pl (lead z e s).2=pl s+1:=by
 obtain ⟨h1,h2,h3,h4,h5,h6,h7,h8,h9,h10,h11,Y9,h13⟩:=df (z:=z) (s:=place { s with Oy:=true,next:=List.replicate s.n s.Oz.length,OE:=List.replicate s.n 0 } s.Oz.length (s.Ow,e));unfold pl;show (((X.settle z _).2.cnt:Nat):Int) - 2*(X.settle z _).2.Ow - (if (X.settle z _).2.OC = -1 then 0 else 1)=_;rw [Y9,h6,h7];exact Ju
theorem qN (s:Nd ρ) (k:Nat):pl (X.agree z s k)=pl s:=by
 refine qe ?_ ?_ ?_<;>(unfold X.agree;split<;>rfl)
def EL (p:Nat):List (Int×ρ)->Nat->Nd ρ->Nat
 | [],_,_=>0
 | (t,rec)::l,i,s =>
  if p+i<s.Oz.length/\bC s.Oz (p+i+1)=t then EL p l (i+1) s
  else if t<1\/s.Ow<t\/p+i<s.agreed then 0
  else EL p l (i+1) (place s (p+i) (t,rec))+1
theorem EH (p:Nat) (l:List (Int×ρ)):∀(j:Nat) (s:Nd ρ),pl (bH p l j s).2=pl s+EL p l j s/\EL p l j s<=l.length:=by
 induction l with
 | nil=>intro j s;exact ⟨by show pl s=pl s+((0:Nat):Int);omega,ah _⟩
 | cons x l ih =>
  intro j s;unfold bH EL;rw [aX];split
  ·grind
  ·split
   ·grind
   ·grind [place,pl]
theorem m0 (hf:0<=m.OD):pl (X.get z e s m).2<=pl s+(if m.kind=3 then (m.B.length:Int) else if m.kind=2 then 1 else 0)/\(m.kind=2->(X.get z e s m).2.Oy=false\/s.Oy=true->pl (X.get z e s m).2<=pl s)/\(m.kind=3->m.N.getD 0 0<s.Ow->pl (X.get z e s m).2<=pl s):=by
 have O9:∀s1:Nd ρ,m.N.getD 0 0<=s1.Ow->pl (OJ z e s1 m).2<=pl s1+(if m.kind=3 then (m.B.length:Int) else if m.kind=2 then 1 else 0)/\(m.kind=2->(OJ z e s1 m).2.Oy=false\/s1.Oy=true->pl (OJ z e s1 m).2<=pl s1)/\(m.kind=3->m.N.getD 0 0<s1.Ow->pl (OJ z e s1 m).2<=pl s1):=λs1 hN=>by
  unfold OJ;split
  ·grind [asked,pl,enter,GD]
  ·split
   ·unfold O4;split
    ·grind
    ·rename_i hy;simp only;split
     ·have h1:=tX (z:=z) (e:=e) { s1 with OB:=s1.OB.set m.OD.toNat true };have h2:pl { s1 with OB:=s1.OB.set m.OD.toNat true }=pl s1:=rfl;refine ⟨by rw [h1,h2];omega,λ_ h=>?_,λh=>by omega⟩;exact MN
     ·exact ⟨by show pl s1<=_;omega,λ_ _=>aP _,λh=>by omega⟩
   ·split
    ·unfold lays;split
     ·grind
     ·split
      ·grind
      ·rename_i hlt;refine ⟨?_,λh=>by omega,λ_ h=>absurd h hlt⟩;simp only;split
       ·obtain ⟨h1,h2⟩:=EH (m.N.getD 1 0).toNat ((m.N.drop 4).zip m.B) 0 { s1 with Ox:=0 };have hz:((m.N.drop 4).zip m.B).length<=m.B.length:=G9;have h0:pl ({ s1 with Ox:=0 }:Nd ρ)=pl s1:=rfl;rw [h0] at h1;generalize bH (m.N.getD 1 0).toNat ((m.N.drop 4).zip m.B) 0 { s1 with Ox:=0 }=p at *;split
        ·grind [pl,qN]
        ·show pl p.2<=_;rw [h1];omega
       ·show pl s1<=_;omega
    ·grind [answered,pl,df,qe]
 unfold X.get;split
 ·grind
 ·split
  ·rename_i ht;have h1:=jV (s:=s) (m.N.getD 0 0) (-1) ht;obtain ⟨a1,a2,a3⟩:=O9 (enter s (m.N.getD 0 0) (-1)) (aP _);refine ⟨by omega,λhk hl=>?_,λ_ h=>by omega⟩;have hv:(OJ z e (enter s (m.N.getD 0 0) (-1)) m).2.Oy=false:=by
    have hc:(enter s (m.N.getD 0 0) (-1)).OC = -1:=rfl;unfold OJ;rw [am az,ay hk];unfold O4;rw [ay (by
     rw [hc];simp only [bi,bb,bq];exact .inl (.inr az))]
    exact fO _ ht
   have:=a2 hk (.inl hv);omega
  ·exact O9 s az
theorem za (hb:s.own<s.n) (ht:s.Ow<1099511627776):pl (X.tick z e s).2<=pl s+(if s.n=1 then 1 else 0):=by
 rcases dT (z:=z) (e:=e) s with ⟨h1,h2⟩ | ⟨h1,h2,h3,h4⟩ | ⟨h1,h2,h3,h4⟩ | ⟨h1,h2,h3,h4⟩
 ·rw [h2];show pl s<=_;omega
 ·rw [h4,fu hb ht];have hst:pl (dc s)<=pl s:=jV (s:={ s with OA:=s.OA+1,Ox:=s.Ox+1 }) (s.Ow+1) (s.own:Int) (by show s.Ow<s.Ow+1;omega);split
  ·rw [tX];omega
  ·show pl (dc s)<=_;omega
 ·rw [h4];show pl s<=_;omega
 ·rw [h4];show pl s<=_;omega
theorem sA (x:ρ):pl (X.OH z s x).2.2<=pl s+1:=by
 unfold X.OH;split
 ·show pl s<=_;omega
 ·grind [pl,df,place,qe]
theorem zY:pl (X.back s)=pl s:=rfl
end
section
variable {ρ:Type} {z:ρ->Bool} {e:ρ}
variable {n i F l len:Nat} {b b' M T:Int} {S S' S0 S1 S2 S3:Cs ρ} {G:Gh ρ} {m:Ms ρ} {s s':Nd ρ} {r:List (Ms ρ)×Nd ρ} {ms q:List (Ms ρ)} {Λ:Nat}
def bN (i:Nat) (q:List (Ms ρ)):Nat:=((q.filter λx=>x.dst==(i:Int)&&x.kind==3).map λx=>x.B.length).sum
theorem nv:bN i ([]:List (Ms ρ))=0:=rfl
theorem jK (a c:List (Ms ρ)):bN i (a++c)=bN i a+bN i c:=by unfold bN;rw [cz,cy,IG]
theorem lS (x:Ms ρ) (c:List (Ms ρ)):bN i (x::c)=(if x.dst=(i:Int)/\x.kind=3 then x.B.length else 0)+bN i c:=by
 grind [bN]
theorem lF (q:List (Ms ρ)) (h:∀x∈q,x.kind≠3):bN i q=0:=by
 induction q with
 | nil=>rfl
 | cons x q ih =>
  rw [lS,am (λg=>h x bd g.2),ih λy hy=>h y (aM _ hy)]
theorem pm (s:Nd ρ) (d:Nat):(bI s d).B.length<=20:=by rw [(fx s d).2.2.2.2.2.2];omega
theorem pE (s:Nd ρ) (i:Nat):bN i (cP s (bI s))<=20:=by
 unfold cP;have key:∀k,(bN i (((List.range k).filter λj=>j != s.own).map (bI s))<=if i<k then 20 else 0):=by
  intro k;induction k with
  | zero=>exact aH _
  | succ k ih =>
   rw [dp,cz,cy,jK];have h1:bN i (([k].filter λj=>j != s.own).map (bI s))<=if i=k then 20 else 0:=by
    by_cases hk:(k != s.own)=true
    ·rw [show [k].filter (λj=>j != s.own)=[k] by simp [hk]];show bN i [bI s k]<=_;rw [lS,nv];by_cases e1:i=k
     ·grind [pm]
     ·rw [am e1,am (λg=>e1 (by have:((k:Nat):Int)=(i:Int):=g.1;omega))];exact ah _
    ·rw [show [k].filter (λj=>j != s.own)=[] by simp [hk]];exact aH _
   by_cases e1:i<k
   ·grind
   ·grind
 have:=key s.n;split at this<;>omega
theorem FL (s:Nd ρ) (d:Nat):bN i [bI s d]<=20:=by
 grind [lS,nv,pm]
theorem yD (i:Nat):bN i (X.get z e s m).1<=20/\(m.kind=2->bN i (X.get z e s m).1≠0->¬Zz s/\Zz (X.get z e s m).2)/\∀x∈(X.get z e s m).1,x.B.length<=20:=by
 have hs:∀(s1:Nd ρ) (d k:Int) (N:List Int),k≠3->bN i [say s1 d k N]=0:=λs1 d k N hk=>lF _ λx hx=>by rw [aj.1 hx];exact hk
 have hsB:∀(s1:Nd ρ) (d k:Int) (N:List Int),∀x∈[say s1 d k N],x.B.length<=20:=λs1 d k N x hx=>by rw [aj.1 hx];exact aH _
 have hoB:∀s1:Nd ρ,∀x∈cP s1 (bI s1),x.B.length<=20:=λs1 x hx=>by obtain ⟨d,_,_,rfl⟩:=cT _ _ _ hx;exact pm s1 d
 have hlB:∀(s1:Nd ρ) (d:Nat),∀x∈[bI s1 d],x.B.length<=20:=λs1 d x hx=>by rw [aj.1 hx];exact pm s1 d
 have hnB:∀x∈([]:List (Ms ρ)),x.B.length<=20:=λx hx=>by cases hx
 have O9:∀s1:Nd ρ,bN i (OJ z e s1 m).1<=20/\(m.kind=2->bN i (OJ z e s1 m).1≠0->¬Zz s1/\Zz (OJ z e s1 m).2)/\∀x∈(OJ z e s1 m).1,x.B.length<=20:=λs1=>by
  unfold OJ;split
  ·unfold asked;split
   ·grind
   ·exact ⟨aH _,λh=>by omega,hnB⟩
  ·split
   ·unfold O4;split
    ·exact D8
    ·rename_i hy;simp only [bi,bb,bq,not_or,ne_eq,dJ,gp] at hy;obtain ⟨⟨⟨TE,UD⟩,U9⟩,TZ⟩:=hy;have hz:¬Zz s1:=λh=>IP;simp only;split
     ·have h:=ee (z:=z) (e:=e) { s1 with OB:=s1.OB.set m.OD.toNat true };rw [h.ms];exact ⟨pE _ _,λ_ _=>⟨hz,.inl h.Oy⟩,hoB _⟩
     ·exact D8
   ·rename_i h1 h2;split
    ·unfold lays;split
     ·exact yc
     ·split
      ·grind
      ·simp only;split
       ·split
        ·grind
        ·exact yc
       ·grind
    ·split
     ·unfold answered;split
      ·exact yc
      ·simp only;split
       ·split
        ·exact yc
        ·grind [FL]
       ·split
        ·exact yc
        ·split
         ·grind [pE]
         ·split
          ·grind [FL]
          ·exact yc
     ·split
      ·split<;>exact ⟨aH _,λh=>absurd h h2,hnB⟩
      ·exact yc
 unfold X.get;split
 ·exact D8
 ·split
  ·obtain ⟨a1,a2,a3⟩:=O9 (enter s (m.N.getD 0 0) (-1));refine ⟨a1,λhk hne=>?_,a3⟩;exfalso;exact (a2 hk hne).1 (.inr (by show (-1:Int)≠(s.own:Int);omega))
  ·exact O9 s
theorem zc (i:Nat) (ho:s.own<s.n) (ht:s.Ow<1099511627776):bN i (X.tick z e s).1<=(if s.Oy=true then 20 else 0)/\∀x∈(X.tick z e s).1,x.B.length<=20:=by
 have ht5:∀(s1:Nd ρ) (k:Int),k≠3->bN i (cP s1 (br s1 k))=0/\∀x∈cP s1 (br s1 k),x.B.length<=20:=λs1 k hk =>
  ⟨lF _ λx hx=>by obtain ⟨d,_,_,rfl⟩:=cT _ _ _ hx;exact hk,λx hx=>by obtain ⟨d,_,_,rfl⟩:=cT _ _ _ hx;exact aH _⟩
 rcases dT (z:=z) (e:=e) s with ⟨h1,h2⟩ | ⟨h1,h2,h3,h4⟩ | ⟨h1,h2,h3,h4⟩ | ⟨h1,h2,h3,h4⟩
 ·grind [pE,cT,pm]
 ·rw [h4,fu ho ht];split
  ·have h:=ee (z:=z) (e:=e) (dc s);have:(lead z e (dc s)).1=[]:=by
    rw [h.ms,dg];intro x hx;obtain ⟨d,d1,d2,_⟩:=cT _ _ _ hx;rw [h.n] at d1;rw [h.own] at d2;have d1:d<s.n:=d1;have d2:d≠s.own:=d2;omega
   rw [this];exact ⟨aH _,λx hx=>by cases hx⟩
  ·grind
 ·grind
 ·rw [h4];exact ⟨aH _,λx hx=>by cases hx⟩
end
section
variable {ρ:Type} {z:ρ->Bool} {e:ρ}
variable {n i F l len:Nat} {b b' M T:Int} {S S' S0 S1 S2 S3:Cs ρ} {G:Gh ρ} {m:Ms ρ} {s s':Nd ρ} {r:List (Ms ρ)×Nd ρ} {ms q:List (Ms ρ)} {Λ:Nat}
theorem Fm.frm0 (h:Fm n b m):0<=m.OD/\0<=m.dst:=by
 grind [h.f]
theorem Wk.fm (h:Wk z n b S) (hm:m∈S.q):Fm n b m:=by obtain ⟨G,hG⟩:=h;exact (hG.mi m hm).2
theorem FE (hf:0<=m.OD/\0<=m.dst) (i:Nat) (S:Cs ρ):pl ((S.bring z e m).nd i)<=pl (S.nd i)+bN i [m]+(if m.kind=2 then 1 else 0)/\bN i (S.bring z e m).q<=bN i S.q+20:=by
 unfold Cs.bring;split
 ·refine ⟨?_,?_⟩
  ·rw [bf];split
   ·rename_i e1;have hg:=(m0 (z:=z) (e:=e) (s:=S.nd m.dst.toNat) hf.1).1;rw [lS,nv];subst e1;by_cases h3:m.kind=3
    ·grind
    ·omega
   ·omega
  ·grind [dS,jK,yD]
 ·exact ⟨by omega,by omega⟩
theorem zX (i:Nat) (ms:List (Ms ρ)):∀S:Cs ρ,(∀m∈ms,0<=m.OD/\0<=m.dst)->pl ((S.dl z e ms).nd i)<=pl (S.nd i)+bN i ms+ms.length/\((∀m∈ms,m.kind≠2)->pl ((S.dl z e ms).nd i)<=pl (S.nd i)+bN i ms)/\bN i (S.dl z e ms).q<=bN i S.q+20*ms.length:=by
 induction ms with
 | nil=>intro S _;exact ⟨by show pl (S.nd i)<=_;simp [nv],λ_=>by show pl (S.nd i)<=_;simp [nv],ah _⟩
 | cons m ms ih =>
  intro S h;obtain ⟨a1,a2⟩:=FE (z:=z) (e:=e) (h m bd) i S;obtain ⟨b1,b2,b3⟩:=ih (S.bring z e m) λx hx=>h x (aM _ hx);have e1:bN i (m::ms)=bN i [m]+bN i ms:=by rw [show m::ms=[m]++ms from rfl,jK]
  rw [e1,aX];refine ⟨?_,λhk=>?_,?_⟩
  ·show pl (((S.bring z e m).dl z e ms).nd i)<=_;omega
  ·show pl (((S.bring z e m).dl z e ms).nd i)<=_;have:=b2 λx hx=>hk x (aM _ hx);rw [am (hk m bd)] at a1;omega
  ·show bN i ((S.bring z e m).dl z e ms).q<=_;omega
theorem tI (p2:P3 z n b M S2) (hn:n<=5) (hb:b<=1099511627776) (PD:∀l,S2.up l=true->(S2.nd l).Oy=false) (k:Nat) (hk:Ul n S2<=k) (i:Nat):pl ((Cs.drain z e k S2).nd i)<=pl (S2.nd i)+bN i S2.q:=by
 obtain ⟨_,_,_,q4,_⟩:=P3.end_ (z:=z) (e:=e) (Inv:=λS'=>S'.up=S2.up/\(∀l,S2.up l=true->(S'.nd l).Oy=false)/\pl (S'.nd i)+bN i S'.q<=pl (S2.nd i)+bN i S2.q) hn hb (λS' m q p hi hq st=>by
  obtain ⟨i1,i2,i3⟩:=hi;obtain ⟨j,c1,c2,c3,c4,c5⟩:=st.cut;have kp:=st.kp;have nl2:∀l,S2.up l=true->(((S'.wq q).bring z e m).nd l).Oy=false:=λl l1=>by
   grind [kp.back]
  have hqq:bN i S'.q=bN i [m]+bN i q:=by rw [hq,show m::q=[m]++q from rfl,jK]
  refine ⟨kp.up.trans i1,nl2,?_⟩;cases hu:S'.up j with
  | false =>
   rw [c5 hu];show pl (S'.nd i)+bN i q<=_;omega
  | true =>
   have hb2:=nl2 j (by rw [<-i1];exact hu);rw [c4 hu] at hb2 ⊢;rw [bf,ay rfl] at hb2;have Sj:m∈S'.q:=Bl;have hg:=(m0 (z:=z) (e:=e) (s:=S'.nd j) (p.wk.fm Sj).frm0.1).1;have hk2:m.kind≠2:=by rcases p.kd m Sj with g | g<;>omega
   rw [am hk2] at hg;have h0:bN i (X.get z e (S'.nd j) m).1=0:=lF _ λx hx hx3=>by
    obtain ⟨_,_,_,_,o5⟩:=c3.out x hx;have:=o5 hx3;rw [hb2] at this;cases this
   rw [dS,jK,h0,bf];show pl (if i=j then _ else S'.nd i)+((bN i q+0:Nat):Int)<=_;rw [lS,nv] at hqq;split
   ·grind
   ·omega) k S2 p2 ⟨rfl,PD,aP _⟩ hk
 have:=q4.2.2;omega
theorem C4 (hw:Wk z n b S) (hb:b+1<=1099511627776) (hq:S.q=[]) (i:Nat):∀k,k<=n->bN i (S.Ox z e k).q<=20*k:=by
 intro k;induction k with
 | zero=>intro _;show bN i S.q<=_;rw [hq];exact ah _
 | succ k ih =>
  intro hk;have e0:S.Ox z e (k+1)=(S.Ox z e k).tick z e k:=Et;obtain ⟨t1,t2,_⟩:=dL (z:=z) (e:=e) k S;have e1:(S.Ox z e k).nd k=S.nd k:=by rw [t1,am az]
  rw [e0];unfold Cs.tick;split
  ·rw [dS,jK,e1];obtain ⟨h2,h3,h4⟩:=hw.tk (e:=e) hb k az;obtain ⟨G,hG⟩:=hw;have SV:=hG.tb k az;have:=(zc (z:=z) (e:=e) (s:=S.nd k) i (by rw [h3,h4];omega) az).1;split at this<;>omega
  ·omega
theorem nP (hw:Wk z n b S) (hb:b+1<=1099511627776) (i:Nat):pl ((S.Ox z e n).nd i)<=pl (S.nd i)+(if n=1 then 1 else 0):=by
 obtain ⟨t1,_,_⟩:=dL (z:=z) (e:=e) n S;rw [t1];split
 ·rename_i h;obtain ⟨h2,h3,h4⟩:=hw.tk (e:=e) hb i h.1;obtain ⟨G,hG⟩:=hw;have SV:=hG.tb i h.1;have:=za (z:=z) (e:=e) (s:=S.nd i) (by rw [h3,h4];exact h.1) az;rw [h4] at this;exact this
 ·omega
theorem sF (hw:Wk z n b S) (hn:n<=5) (hb:b+1<=1099511627776) (hq:S.q=[]) (h:Rd z e n b M Λ S S1 S2 S3) (h1:S1=(S.Ox z e n).Pc.dl z e (S.Ox z e n).q) (h2:S2=S1.Pc.dl z e S1.q) (i:Nat):pl (S2.nd i)+bN i S2.q<=pl (S.nd i)+521:=by
 have hwA:=hw.Ox (e:=e) hb;have a0:=nP (e:=e) hw hb i;have a1:=C4 (e:=e) hw hb hq i n (ah _);have a5:=lI (e:=e) hw hn hb n (ah _);rw [hq] at a5;have a5:(S.Ox z e n).q.length<=0+4*n:=a5;have YS:∀x∈(S.Ox z e n).q,x.kind≠2:=λx hx=>by
  obtain ⟨t1,t2,t3⟩:=dL (z:=z) (e:=e) n S;rcases (t3 x).1 hx with g | ⟨c,d1,d2,d3⟩
  ·rw [hq] at g;cases g
  ·obtain ⟨_,_,_,_,o⟩:=(hw.tk (e:=e) hb c d1).1.out x d3;rcases o with o | o | o<;>omega
 obtain ⟨_,b2,_⟩:=zX (z:=z) (e:=e) i (S.Ox z e n).q (S.Ox z e n).Pc λm hm=>(hwA.fm hm).frm0;have b2:=b2 YS;rw [<-h1] at b2;obtain ⟨c1,_,c3⟩:=zX (z:=z) (e:=e) i S1.q S1.Pc λm hm=>(h.ra.w1.fm hm).frm0;rw [<-h2] at c1 c3;have d1:bN i S1.q=0:=lF _ λx hx hx3=>by rcases h.ra.k1 x hx with g | g<;>omega
 have d2:=h.ra.q1;have e1:(S.Ox z e n).Pc.nd i=(S.Ox z e n).nd i:=rfl;have e2:S1.Pc.nd i=S1.nd i:=rfl;have e3:bN i S1.Pc.q=0:=rfl;rw [e1] at b2;rw [e2,d1] at c1;rw [e3] at c3;omega
theorem Rd.nol (h:Rd z e n b M Λ S S1 S2 S3) (PD:∀i,S.up i=true->(S3.nd i).Oy=false):∀l,S2.up l=true->(S2.nd l).Oy=false:=λl l1=>by
 have u2:S2.up=S.up:=h.ra.u2.trans (dL (z:=z) (e:=e) n S).2.1;cases hc:(S2.nd l).Oy with
 | false=>rfl
 | true =>
  have:=(h.kp.lead l l1 hc).1;rw [PD l (by rw [<-u2];exact l1)] at this;cases this
theorem Dp (hw:Wk z n b S) (hn:n<=5) (hb:b+1<=1099511627776) (hq:S.q=[]) (h:Rd z e n b M Λ S S1 S2 S3) (h1:S1=(S.Ox z e n).Pc.dl z e (S.Ox z e n).q) (h2:S2=S1.Pc.dl z e S1.q) (PD:∀i,S.up i=true->(S3.nd i).Oy=false) (i:Nat):pl (S3.nd i)<=pl (S.nd i)+521:=by
 obtain ⟨k,k1,k2⟩:=h.dr;have a4:=tI (e:=e) h.p2 hn hb (h.nol PD) k k2 i;rw [<-k1] at a4;have:=sF hw hn hb hq h h1 h2 i;omega
end
section
variable {ρ:Type} {z:ρ->Bool} {e:ρ}
variable {n i F l len:Nat} {b b' M T:Int} {S S' S0 S1 S2 S3:Cs ρ} {G:Gh ρ} {m:Ms ρ} {s s':Nd ρ} {r:List (Ms ρ)×Nd ρ} {ms q:List (Ms ρ)} {Λ:Nat}
instance:Decidable (Zz s):=by unfold Zz;infer_instance
def nz (n:Nat) (S:Cs ρ):Nat:=db n λj=>if Zz (S.nd j) then 0 else 1
theorem LW:nz n S<=n:=by
 have:=mw n 1 (λj=>if Zz (S.nd j) then 0 else 1) λj _=>by show (if _ then 0 else 1)<=1;split<;>omega
 unfold nz;omega
theorem NA (i:Nat) (ms:List (Ms ρ)):∀S:Cs ρ,(∀m∈ms,m.kind=2/\m.dst.toNat<n)->bN i (S.dl z e ms).q+20*nz n (S.dl z e ms)<=bN i S.q+20*nz n S:=by
 induction ms with
 | nil=>intro S _;exact ah _
 | cons m ms ih =>
  intro S h;have h1:=ih (S.bring z e m) λx hx=>h x (aM _ hx);refine aF h1 ?_;obtain ⟨k2,dn⟩:=h m bd;unfold Cs.bring;split
  ·obtain ⟨g1,g2,_⟩:=yD (z:=z) (e:=e) (s:=S.nd m.dst.toNat) (m:=m) i;have gl:=(na (z:=z) (e:=e) (s:=S.nd m.dst.toNat) (m:=m)).zz;rw [dS,jK];have hle:∀j,j<n->j≠m.dst.toNat->(if Zz ((S.call m.dst.toNat (X.get z e (S.nd m.dst.toNat) m)).nd j) then 0 else 1)<=(if Zz (S.nd j) then 0 else 1):=λj _ hne=>by rw [bf,am hne];exact ah _
   by_cases h0:bN i (X.get z e (S.nd m.dst.toNat) m).1=0
   ·have:=kY n m.dst.toNat 0 (λj=>if Zz (S.nd j) then 0 else 1) (λj=>if Zz ((S.call m.dst.toNat (X.get z e (S.nd m.dst.toNat) m)).nd j) then 0 else 1) dn (by
     show (if Zz ((S.call m.dst.toNat (X.get z e (S.nd m.dst.toNat) m)).nd m.dst.toNat) then 0 else 1)+0<=(if Zz (S.nd m.dst.toNat) then 0 else 1);rw [bf,ay rfl];by_cases hz:Zz (S.nd m.dst.toNat)
     ·grind
     ·rw [am hz];split<;>omega) hle
    unfold nz;omega
   ·obtain ⟨z1,z2⟩:=g2 k2 h0;have:=kY n m.dst.toNat 1 (λj=>if Zz (S.nd j) then 0 else 1) (λj=>if Zz ((S.call m.dst.toNat (X.get z e (S.nd m.dst.toNat) m)).nd j) then 0 else 1) dn (by
     show (if Zz ((S.call m.dst.toNat (X.get z e (S.nd m.dst.toNat) m)).nd m.dst.toNat) then 0 else 1)+1<=(if Zz (S.nd m.dst.toNat) then 0 else 1);rw [bf,ay rfl,ay z2,am z1];exact ah _) hle
    unfold nz;omega
  ·exact ah _
theorem vE (hw:Wk z n b S) (PT:n≠1) (hb:b+1<=1099511627776) (hv:Nl S):∀x∈(S.Ox z e n).q,(x.kind=1/\∃c,S.up c=true/\x.N.getD 0 0=((S.Ox z e n).nd c).Ow/\((S.Ox z e n).nd c).Ow=(S.nd c).Ow+1)\/x.kind=5:=λx hx=>by
 obtain ⟨t1,t2,t3⟩:=dL (z:=z) (e:=e) n S;rcases (t3 x).1 hx with g | ⟨c,d1,d2,d3⟩
 ·rw [hv.1] at g;cases g
 ·have Wa:=hw.tk (e:=e) hb c d1;have PO:(S.Ox z e n).nd c=(X.tick z e (S.nd c)).2:=by rw [t1,ay ⟨d1,d2⟩]
  obtain ⟨_,o2,_,_,o⟩:=Wa.1.out x d3;rcases o with o | o | o
  ·exact .inl ⟨o.1,c,d2,by rw [o2,PO],by rw [PO];exact o.2.2.1⟩
  ·exfalso;have hlc:=o.2;rcases dT (z:=z) (e:=e) (S.nd c) with ⟨g1,g2⟩ | ⟨g1,g2,g3,g4⟩ | ⟨g1,g2,g3,g4⟩ | ⟨g1,g2,g3,g4⟩
   ·rw [hv.2 c d2] at g1;cases g1
   ·have ZK:=Wa.2;obtain ⟨G,hG⟩:=hw;have SV:=hG.tb c d1;rw [g4,fu (by rw [ZK.1,ZK.2];exact d1) az,am (by rw [ZK.2];exact PT)] at hlc;have hlc:((S.nd c).Oy&&_)=true:=hlc;rw [g1] at hlc;cases hlc
   ·rw [g4] at hlc;have hlc:(S.nd c).Oy=true:=hlc;rw [g1] at hlc;cases hlc
   ·rw [g4] at hlc;have hlc:(S.nd c).Oy=true:=hlc;rw [g1] at hlc;cases hlc
  ·exact .inr o.1
theorem NB (hb:b<=1099511627776) (h:UL z ms n b S) (hk:∀m∈ms,m.kind=1\/m.kind=5) (hq:∀x∈S.q,x.kind=2):(∀x∈(S.dl z e ms).q,x.kind=2)/\((∀m∈ms,m.kind=5)->S.q=[]->(S.dl z e ms).q=[]):=by
 constructor
 ·exact (fH (z:=z) (e:=e) (ms:=ms) (Inv:=λS'=>UL z ms n b S'/\∀x∈S'.q,x.kind=2) (λS' m hI hm=>by
   obtain ⟨a1,a2⟩:=hI;obtain ⟨g1,i,g2,g3,g4,g5,g6⟩:=a1.take (e:=e) hb hm;refine ⟨g1,?_⟩;cases hu:S'.up i with
   | false=>rw [g6 hu];exact a2
   | true =>
    rw [g5 hu];intro x hx;rw [dS] at hx;rcases aA.1 hx with hx | hx
    ·exact a2 x hx
    ·obtain ⟨_,_,_,o,_⟩:=g4.out x hx;rcases hk m hm with g | g<;>rcases o with o | o | o | o<;>omega) ⟨h,hq⟩).2
 ·intro h5 h0;exact (fH (z:=z) (e:=e) (ms:=ms) (Inv:=λS'=>UL z ms n b S'/\S'.q=[]) (λS' m hI hm=>by
   obtain ⟨a1,a2⟩:=hI;obtain ⟨g1,i,g2,g3,g4,g5,g6⟩:=a1.take (e:=e) hb hm;refine ⟨g1,?_⟩;cases hu:S'.up i with
   | false=>rw [g6 hu];exact a2
   | true =>
    rw [g5 hu,dS,a2,cC,dg];intro x hx;obtain ⟨_,_,_,o,_⟩:=g4.out x hx;have:=h5 m hm;rcases o with o | o | o | o<;>omega) ⟨h,h0⟩).2
theorem IK (hw:Wk z n b S) (PT:n≠1) (hb:b+1<=1099511627776) (hv:Nl S) (h1:S1=(S.Ox z e n).Pc.dl z e (S.Ox z e n).q):(∀x∈S1.q,x.kind=2)/\(∀i,pl (S1.nd i)<=pl (S.nd i))/\((∀m∈(S.Ox z e n).q,m.kind=5)->S1.q=[]):=by
 have hwA:=hw.Ox (e:=e) hb;have hk:=vE (e:=e) hw PT hb hv;obtain ⟨a1,a2⟩:=NB (e:=e) hb hwA.Ys (λm hm=>by
  rcases hk m hm with g | g
  ·exact .inl g.1
  ·exact .inr g) (λx hx=>by cases hx)
 rw [<-h1] at a1 a2;refine ⟨a1,λi=>?_,λh=>a2 h rfl⟩;have a0:=nP (e:=e) hw hb i;rw [am PT] at a0;obtain ⟨_,b2,_⟩:=zX (z:=z) (e:=e) i (S.Ox z e n).q (S.Ox z e n).Pc λm hm=>(hwA.fm hm).frm0;have b2:=b2 λm hm=>by rcases hk m hm with g | g<;>omega
 rw [<-h1,lF (S.Ox z e n).q λm hm=>by rcases hk m hm with g | g<;>omega] at b2;have e1:(S.Ox z e n).Pc.nd i=(S.Ox z e n).nd i:=rfl;rw [e1] at b2;omega
theorem qw (hw:Wk z n b S) (hn:n<=5) (PT:n≠1) (hb:b+1<=1099511627776) (hv:Nl S) (h:Rd z e n b M Λ S S1 S2 S3) (h1:S1=(S.Ox z e n).Pc.dl z e (S.Ox z e n).q) (h2:S2=S1.Pc.dl z e S1.q) (i:Nat):pl (S2.nd i)+bN i S2.q<=pl (S.nd i)+120:=by
 obtain ⟨g1,g2,_⟩:=IK (e:=e) hw PT hb hv h1;have a5:=lI (e:=e) hw hn hb n (ah _);rw [hv.1] at a5;have a5:(S.Ox z e n).q.length<=0+4*n:=a5;have d2:=h.ra.q1;obtain ⟨c1,_,_⟩:=zX (z:=z) (e:=e) i S1.q S1.Pc λm hm=>(h.ra.w1.fm hm).frm0;rw [<-h2,lF S1.q λx hx hx3=>by have:=g1 x hx;omega] at c1;have c3:=NA (z:=z) (e:=e) (n:=n) i S1.q S1.Pc λm hm=>⟨g1 m hm,by
  obtain ⟨j,f,f1,_,_,f4,_⟩:=(h.ra.w1.fm hm).f;omega⟩
 rw [<-h2] at c3;have e2:S1.Pc.nd i=S1.nd i:=rfl;have e3:bN i S1.Pc.q=0:=rfl;rw [e2] at c1;rw [e3] at c3;have:=LW (n:=n) (S:=S1.Pc);have:=g2 i;omega
theorem Al (hw:Wk z n b S) (hn:n<=5) (PT:n≠1) (hb:b+1<=1099511627776) (hv:Nl S) (h:Rd z e n b M Λ S S1 S2 S3) (h1:S1=(S.Ox z e n).Pc.dl z e (S.Ox z e n).q) (h2:S2=S1.Pc.dl z e S1.q) (PD:∀i,S.up i=true->(S3.nd i).Oy=false) (i:Nat):pl (S3.nd i)<=pl (S.nd i)+120:=by
 obtain ⟨k,k1,k2⟩:=h.dr;have a4:=tI (e:=e) h.p2 hn hb (h.nol PD) k k2 i;rw [<-k1] at a4;have:=qw hw hn PT hb hv h h1 h2 i;omega
theorem Nx (hw:Wk z n b S) (hn:n<=5) (PT:n≠1) (hb:b+1<=1099511627776) (hv:Ev T S) (h:Rd z e n b M Λ S S1 S2 S3) (h1:S1=(S.Ox z e n).Pc.dl z e (S.Ox z e n).q) (h2:S2=S1.Pc.dl z e S1.q) (PD:∀i,S.up i=true->(S3.nd i).Oy=false) (i:Nat):pl (S3.nd i)<=pl (S.nd i):=by
 have hvn:Nl S:=⟨hv.q,λi hi=>(hv.nd i hi).2⟩
 obtain ⟨k,k1,k2⟩:=h.dr;have nol:=h.nol PD;have a4:=tI (e:=e) h.p2 hn hb nol k k2 i;rw [<-k1] at a4;obtain ⟨g1,g2,g3⟩:=IK (e:=e) hw PT hb hvn h1;have g2:=g2 i;have hk:=vE (e:=e) hw PT hb hvn;obtain ⟨t1,t2,t3⟩:=dL (z:=z) (e:=e) n S;have O2:∀i,S.up i=true->i<n:=Hf;by_cases hex:∃x∈(S.Ox z e n).q,x.kind=1
 ·obtain ⟨x,x1,x2⟩:=hex;obtain ⟨w,w1,w2,w3⟩:∃c,S.up c=true/\x.N.getD 0 0=((S.Ox z e n).nd c).Ow/\((S.Ox z e n).nd c).Ow=(S.nd c).Ow+1:=by
   rcases hk x x1 with g | g
   ·exact g.2
   ·omega
  have Wa:=λj (hj:S.up j=true)=>hw.tk (e:=e) hb j (O2 j hj);have PO:∀j,S.up j=true->(S.Ox z e n).nd j=(X.tick z e (S.nd j)).2:=λj hj=>by rw [t1,ay ⟨O2 j hj,hj⟩]
  have hwM:((S.Ox z e n).nd w).Ow=M:=by
   obtain ⟨y,y1,y2,y3⟩:=h.top;have c1:=h.Ow w;have c2:=h.ub w w1;have c3:=(Wa y y2).1.Ow;rw [<-PO y y2] at c3;have c4:=(hv.nd y y2).1;have c5:=(hv.nd w w1).1;rcases c3 with g | g<;>omega
  have UX:0<=(S.nd w).Ow:=by obtain ⟨G,hG⟩:=hw;exact (hG.ni w (O2 w w1)).t0
  have hall:=h.all1 w w1 hwM az λd d1 d2=>by
   obtain ⟨tk,ho,Tb⟩:=Wa w w1;obtain ⟨x,x1,x2,_⟩:=tk.OV (by rw [<-PO w w1];exact w3) d (by rw [Tb];exact d1) (by rw [ho];exact d2);obtain ⟨_,o2,_⟩:=tk.out x x1;exact ⟨x,(t3 x).2 (.inr ⟨w,O2 w w1,w1,x1⟩),x2,by rw [o2,<-PO w w1];exact hwM⟩
  have u1:S1.up=S.up:=h.ra.u1.trans t2;have u2:S2.up=S.up:=h.ra.u2.trans t2;have Yt:UB M S1.Pc:=⟨h.ra.b1.nd,λm hm=>by cases hm⟩
  have p1:Ph z n (b+1) M S1.q S1.Pc S1.Pc:=Ph.start h.ra.w1.Ys Yt;have Vy:=h.ra.b1.q;have J:=fH (z:=z) (e:=e) (ms:=S1.q) (S:=S1.Pc) (Inv:=λS'=>Ph z n (b+1) M S1.q S1.Pc S'/\((∃l,S.up l=true/\(S'.nd l).Oy=true/\(S'.nd l).Ow=M)\/(pl (S'.nd i)<=pl (S1.nd i)/\bN i S'.q=0))) (λS' m hI hm=>by
   obtain ⟨a1,a2⟩:=hI;obtain ⟨q1,j,q2,q3,q4,q5,q6⟩:=a1.take (e:=e) hb hm (Vy m hm);refine ⟨q1,?_⟩;rcases a2 with ⟨l,l1,l2⟩ | ⟨a2,a3⟩
   ·exact .inl ⟨l,l1,a1.lead hb hm (Vy m hm) KQ l2⟩
   ·cases hu:S'.up j with
    | false=>rw [q6 hu];exact .inr ⟨a2,a3⟩
    | true =>
     have huj:S.up j=true:=KT;have Xu:=q1.ub.nd j (by rw [jq];exact hu);rw [q5 hu,bf,ay rfl] at Xu;rw [q5 hu];cases hc:(X.get z e (S'.nd j) m).2.Oy with
     | true =>
      refine .inl ⟨j,huj,?_⟩;rw [bf,ay rfl];refine ⟨hc,?_⟩;have c1:=q4.up;have c2:=a1.Ow j;have c3:=hall j huj;have e1:(S1.Pc.nd j).Ow=(S1.nd j).Ow:=rfl;omega
     | false =>
      have hk2:=g1 m hm;have hp:=(m0 (z:=z) (e:=e) (s:=S'.nd j) (h.ra.w1.fm hm).frm0.1).2.1 hk2 (.inl hc);have h0:bN i (X.get z e (S'.nd j) m).1=0:=lF _ λx hx hx3=>by
       obtain ⟨_,_,_,_,o5⟩:=q4.out x hx;have:=o5 hx3;rw [hc] at this;cases this
      refine .inr ⟨?_,by rw [dS,jK,h0,a3]⟩;rw [bf];split
      ·rename_i e1;subst e1;omega
      ·exact a2) ⟨p1,.inr ⟨aP _,rfl⟩⟩
  rw [<-h2] at J;rcases J.2 with ⟨l,l1,l2,_⟩ | ⟨c1,c2⟩
  ·rw [nol l (by rw [u2];exact l1)] at l2;cases l2
  ·rw [c2] at a4;omega
 ·have h0:=g3 λm hm=>by
   rcases hk m hm with g | g
   ·exact absurd ⟨m,hm,g.1⟩ hex
   ·exact g
  rw [h0] at h2;have e1:S2=S1.Pc:=h2;rw [e1] at a4;have e2:pl (S1.Pc.nd i)=pl (S1.nd i):=rfl;have e3:bN i S1.Pc.q=0:=rfl;rw [e2,e3] at a4;omega
end
section
variable {ρ:Type} {z:ρ->Bool} {e:ρ}
variable {n i F l len:Nat} {b b' M T:Int} {S S' S0 S1 S2 S3:Cs ρ} {G:Gh ρ} {m:Ms ρ} {s s':Nd ρ} {r:List (Ms ρ)×Nd ρ} {ms q:List (Ms ρ)} {Λ:Nat}
theorem Fs (P:Nat->Prop):∀k,P k->∃k',k'<=k/\P k'/\∀j,j<k'->¬P j:=by
 intro k;induction k using Nat.strongRecOn with
 | _ k ih =>
  intro hk;by_cases h:∃j,j<k/\P j
  ·grind
  ·grind
theorem Kk (hw:Wk z 1 b S) (hb:b+1<=1099511627776) (hq:S.q=[]) (i:Nat):pl ((S.Sr z e 1 F).nd i)<=pl (S.nd i)+1:=by
 have h0:(S.Ox z e 1).q=[]:=MS;unfold Cs.Sr;rw [eO _ h0];have:=nP (e:=e) hw hb i;rw [ay rfl] at this;exact this
theorem Fu (h:Ok z n b Λ S) (hn:n<=5) (Pm:RO n λj=>S.up j) (hb:b+30<=1099511627776) (hF:200+22*(Λ+30)<=F):∃k,k<=25/\(∃M l,Ti M (S.OG z e n F (k+1)) l)/\(1<=k->∀i,S.up i=true->((S.OG z e n F k).nd i).Oy=false)/\∀i,pl ((S.OG z e n F k).nd i)<=pl (S.nd i)+1001:=by
 obtain ⟨k0,c1,c2,c3⟩:=B0 (e:=e) h hn Pm hb hF;obtain ⟨k,e1,e2,e3⟩:=Fs (λk=>∃M l,Ti M (S.OG z e n F (k+1)) l) (k0 - 1) (by rw [show k0 - 1+1=k0 by omega];exact c3);have hk:∀k:Nat,k<=29->Ok z n (b+k) (Λ+k) (S.OG z e n F k)/\(S.OG z e n F k).up=S.up:=λk hk=>h.OG az k az az;have Sc:∀k:Nat,k<=27->∃M,Rd z e n (b+k) M (Λ+k) (S.OG z e n F k) (((S.OG z e n F k).Ox z e n).Pc.dl z e ((S.OG z e n F k).Ox z e n).q) ((((S.OG z e n F k).Ox z e n).Pc.dl z e ((S.OG z e n F k).Ox z e n).q).Pc.dl z e (((S.OG z e n F k).Ox z e n).Pc.dl z e ((S.OG z e n F k).Ox z e n).q).q) (S.OG z e n F (k+1)):=λk hk2=>JP;have hno:∀j,1<=j->j<=k->∀i,S.up i=true->((S.OG z e n F j).nd i).Oy=false:=λj j1 j2 i hi=>by
  cases hl:((S.OG z e n F j).nd i).Oy with
  | false=>rfl
  | true =>
   exfalso;obtain ⟨j',rfl⟩:∃j',j=j'+1:=⟨j - 1,by omega⟩
   obtain ⟨M,hM⟩:=Sc j' az;exact e3 j' az ⟨M,i,hM.lead i (by rw [(hk j' az).2];exact hi) hl⟩
 refine ⟨k,by omega,e2,λh1=>hno k h1 (ah _),λi=>?_⟩;by_cases PT:n=1
 ·subst PT;have key:∀j:Nat,j<=k->pl ((S.OG z e 1 F j).nd i)<=pl (S.nd i)+j:=by
   intro j;induction j with
   | zero=>intro _;show pl (S.nd i)<=_;omega
   | succ j ih =>
    intro hj;have h2:=Kk (e:=e) (F:=F) (hk j az).1.wk az (hk j az).1.q i;show pl (((S.OG z e 1 F j).Sr z e 1 F).nd i)<=_;omega
  have:=key k (ah _);omega
 by_cases WT:k=0
 ·subst WT;show pl (S.nd i)<=_;omega
 have PD:∀j,j+1<=k->∀i,(S.OG z e n F j).up i=true->((S.OG z e n F (j+1)).nd i).Oy=false:=λj hj i hi=>hno (j+1) az hj i (by rw [<-(hk j az).2];exact hi);have hnq:∀j,1<=j->j<=k->Nl (S.OG z e n F j):=λj j1 j2=>⟨(hk j az).1.q,λi hi=>hno j j1 j2 i (by rw [<-(hk j az).2];exact hi)⟩
 obtain ⟨M0,SY⟩:=Sc 0 az;have hp1:=Dp (hk 0 az).1.wk hn az (hk 0 az).1.q SY rfl rfl (PD 0 az) i;have hp1:pl ((S.OG z e n F 1).nd i)<=pl (S.nd i)+521:=hp1;obtain ⟨y,y1,y2,y3⟩:=po (S.OG z e n F 1) n (by rw [(hk 1 az).2];exact h.up);have hyS:S.up y=true:=by rw [<-(hk 1 az).2];exact y2
 have O2:∀i,S.up i=true->i<n:=Hg;have key:∀t:Nat,1+t<=k->((∃T,Ev T (S.OG z e n F (1+t)))/\pl ((S.OG z e n F (1+t)).nd i)<=pl (S.nd i)+1001)\/((∀i,S.up i=true->((S.OG z e n F (1+t)).nd i).Ow<=((S.OG z e n F (1+t)).nd y).Ow)/\t<=((S.OG z e n F (1+t)).nd y).Ox/\t<=3/\pl ((S.OG z e n F (1+t)).nd i)<=pl (S.nd i)+521+120*(t:Int)):=by
  intro t;induction t with
  | zero =>
   intro _;exact .inr ⟨λi hi=>y3 i (O2 i hi) (by rw [(hk 1 az).2];exact hi),aH _,by omega,by show pl ((S.OG z e n F 1).nd i)<=_;omega⟩
  | succ t ih =>
   intro ht;obtain ⟨M,hM⟩:=Sc (1+t) az;have hu:=(hk (1+t) az).2;have PD:=PD (1+t) az;rcases ih az with ⟨⟨T,hT⟩,hp⟩ | ⟨g1,g2,g3,hp⟩
   ·have h1:=Nx (hk (1+t) az).1.wk hn PT az hT hM rfl rfl PD i;refine .inl ⟨⟨M,(oy (hk (1+t) az).1.wk hn PT az hT hM rfl rfl PD).ev⟩,?_⟩;show pl ((S.OG z e n F (1+t+1)).nd i)<=_;omega
   ·have h1:=Al (hk (1+t) az).1.wk hn PT az (hnq (1+t) az az) hM rfl rfl PD i;rcases CZ (hk (1+t) az).1.wk hn PT az (hnq (1+t) az az) hM rfl rfl hM.dr PD (by rw [hu];exact hyS) (λi hi=>g1 i ye) with g | ⟨q1,q2,q3⟩
    ·grind
    ·grind
 have:=key (k - 1) az;rw [show 1+(k - 1)=k by omega] at this;rcases this with ⟨_,g⟩ | ⟨_,_,g1,g2⟩
 ·exact g
 ·omega
end
section
variable {ρ:Type} {z:ρ->Bool} {e:ρ}
variable {n i F l len:Nat} {b b' M T B:Int} {S S' S0 S1 S2 S3:Cs ρ} {G:Gh ρ} {m:Ms ρ} {s s':Nd ρ} {r:List (Ms ρ)×Nd ρ} {ms q:List (Ms ρ)} {Λ:Nat} {Lt:Lg ρ}
def Wn (B:Int) (Lt:Lg ρ) (s:Nd ρ):Prop:=∃A:Nat,A<=s.Oz.length/\A<=Lt.length/\s.Oz.take A=Lt.take A/\pl s<=B+A
theorem Wn.of (h:Wn B Lt s) (h1:s'.Oz=s.Oz) (h2:pl s'<=pl s):Wn B Lt s':=by
 obtain ⟨A,a1,a2,a3,a4⟩:=h;exact ⟨A,by rw [h1];exact a1,a2,by rw [h1];exact a3,by omega⟩
theorem Wn.start:Wn (pl s) Lt s:=⟨0,aH _,aH _,by simp,by omega⟩
theorem Wn.le (h:Wn B Lt s):pl s<=B+Lt.length:=by obtain ⟨A,_,a2,_,a4⟩:=h;omega
theorem zI {L:Int->Lg ρ} (Qo:SF L Lt) (p:Nat):∀(r j:Nat) (s:Nd ρ),SF L s.Oz->s.Oz.take (p+j)=Lt.take (p+j)->p+j<=s.Oz.length->p+j+r<=Lt.length->Wn B Lt s->Wn B Lt (bH p ((Lt.drop (p+j)).take r) j s).2:=by
 intro r;induction r with
 | zero=>intro j s _ _ _ _ h;exact h
 | succ r ih =>
  intro j s hs hl hj hr h;have hq:p+j<Lt.length:=az;rw [pA hq];have e0:Lt[p+j]=(Lt[p+j].1,Lt[p+j].2):=rfl;rw [e0];unfold bH;by_cases hc:p+j<s.Oz.length/\bC s.Oz (p+j+1)=Lt[p+j].1
  ·rw [ay hc];have Q3:=hs.same Qo (k:=p+j+1) az az (by rw [hc.2,iK hq]);exact ih (j+1) s hs Q3 az az h
  ·rw [am hc];split
   ·exact h
   ·have Pz:(place s (p+j) (Lt[p+j].1,Lt[p+j].2)).Oz=Lt.take (p+(j+1)):=by
     show s.Oz.take (p+j)++[(Lt[p+j].1,Lt[p+j].2)]=_;rw [hl,<-e0,oQ hq];rfl
    have hpl:pl (place s (p+j) (Lt[p+j].1,Lt[p+j].2))=pl s+1:=by
     unfold pl;exact Ju
    have hlen:(Lt.take (p+(j+1))).length=p+(j+1):=yd;refine ih (j+1) _ (by rw [Pz];exact Qo.take _) (by rw [Pz,dv,tv]) (by rw [Pz,hlen];exact ah _) az ?_;obtain ⟨A,a1,a2,a3,a4⟩:=h;have hA:A<=p+j:=by
     apply bz;intro hn;refine hc ⟨by omega,?_⟩;rw [ws a3 az a1,iK hq]
    exact ⟨p+(j+1),by rw [Pz,hlen];exact ah _,by omega,by rw [Pz,dv,tv],by rw [hpl];omega⟩
theorem pF (s:Nd ρ) (k:Nat):(X.agree z s k).Oz=s.Oz:=Hb
theorem yr (p:Nat) (l:List (Int×ρ)):∀(j:Nat) (s:Nd ρ),(bH p l j s).2.Ow=s.Ow:=by
 induction l with
 | nil=>intro j s;rfl
 | cons x l ih =>
  intro j s;unfold bH;split
  ·exact ih _ _
  ·split
   ·rfl
   ·exact (ih _ _).trans rfl
theorem pj (s:Nd ρ):(lays z s m).2.Ow=s.Ow:=by
 unfold lays;split
 ·rfl
 ·split
  ·rfl
  ·simp only;split
   ·have h:=yr (m.N.getD 1 0).toNat ((m.N.drop 4).zip m.B) 0 { s with Ox:=0 };generalize bH (m.N.getD 1 0).toNat ((m.N.drop 4).zip m.B) 0 { s with Ox:=0 }=P at *;split
    ·refine Eq.trans ?_ h;unfold X.agree;split<;>rfl
    ·exact h
   ·rfl
theorem ED (hg:GI n G) (h:NI z n G i s) (hm:MI n G m) (h3:m.kind=3) (ht:m.N.getD 0 0<=s.Ow) (hw:Wn B (G.L s.Ow) s):Wn B (G.L s.Ow) (lays z s m).2:=by
 unfold lays;split
 ·exact hw
 ·split
  ·exact hw
  ·obtain ⟨f,hfn,Vw,_,_,h1,_⟩:=hm.f;obtain ⟨e1,p,a,e2,e3,e4,e5,e6,e7,e8⟩:=h1 h3;have hT:m.N.getD 0 0=s.Ow:=az;rw [hT] at e1 e3 e5 e7 e8;simp only;split
   ·rename_i O0;unfold nf at O0;simp only [bu,aZ,cE] at O0;rw [e2] at O0 ⊢;obtain ⟨f1,f2⟩:=O0;have f1:p<=s.Oz.length:=KY;have f2:bC s.Oz p=bC (G.L s.Ow) p:=G3;have hpp:=h.ok.same (hg.ok s.Ow) f1 az f2;have hpn:((p:Int)).toNat=p:=az;rw [hpn,e7];have w:=zI (B:=B) (hg.ok s.Ow) p m.B.length 0 { s with Ox:=0 } h.ok hpp f1 e5 (hw.of rfl (aP _));rw [eK] at w;generalize bH p (((G.L s.Ow).drop p).take m.B.length) 0 { s with Ox:=0 }=P at *;split
    ·exact w.of (pF _ _) (nI (qN _ _))
    ·exact w.of rfl (aP _)
   ·exact hw.of rfl (aP _)
theorem Nv (hg:GI n G) (h:NI z n G i s) (hm:MI n G m) (hf:0<=m.OD) (hk:m.kind≠2) (hM:s.Ow<=M) (hN:m.N.getD 0 0<=M) (hr:(X.get z e s m).2.Ow=M) (hl:(X.get z e s m).2.Oy=false\/s.Oy=true) (hw:Wn B (G.L M) s):Wn B (G.L M) (X.get z e s m).2:=by
 by_cases h3:m.kind=3
 ·unfold X.get at hr ⊢;split
  ·exact hw
  ·rename_i hb;rw [am hb] at hr;have O9:∀s1:Nd ρ,OJ z e s1 m=lays z s1 m:=λs1=>by
    unfold OJ;rw [am az,am hk,ay h3]
   split
   ·rename_i ht;have hT:(enter s (m.N.getD 0 0) (-1)).Ow=M:=by
     rw [ay ht,O9] at hr;have e1:(lays z (enter s (m.N.getD 0 0) (-1)) m).2.Ow=(enter s (m.N.getD 0 0) (-1)).Ow:=pj _;rw [<-e1];exact hr
    rw [O9];have:=ED (B:=B) hg (h.enter ht) hm h3 (aP _) (by rw [hT];exact hw.of rfl (jV _ _ ht));rw [hT] at this;exact this
   ·rename_i ht;have hT:s.Ow=M:=by
     rw [am ht,O9] at hr;have e1:(lays z s m).2.Ow=s.Ow:=pj s;rw [<-e1];exact hr
    rw [O9];have:=ED (B:=B) hg h hm h3 az (by rw [hT];exact hw);rw [hT] at this;exact this
 ·have hp:=(m0 (z:=z) (e:=e) (s:=s) hf).1;rw [am h3,am hk] at hp;exact hw.of (iw h3 hl) az
def bM (M:Int) (i:Nat) (q:List (Ms ρ)):Nat:=bN i (q.filter λx=>decide (x.N.getD 0 0<M))
theorem yW (a c:List (Ms ρ)):bM M i (a++c)=bM M i a+bM M i c:=by unfold bM;rw [cz,jK]
theorem ND (q:List (Ms ρ)):bM M i q<=bN i q:=by
 induction q with
 | nil=>exact ah _
 | cons x q ih =>
  rw [show x::q=[x]++q from rfl,yW,jK];have:bM M i [x]<=bN i [x]:=by
   unfold bM;rw [fA];split
   ·exact ah _
   ·exact aH _
  omega
theorem Lx (q:List (Ms ρ)) (h:∀x∈q,x.kind=3->M<=x.N.getD 0 0):bM M i q=0:=by
 refine lF _ λx hx hk=>?_;obtain ⟨h1,h2⟩:=rY.1 hx;have:=h x h1 hk;simp only [aZ] at h2;omega
theorem C8 (p2:P3 z n b M S2) (hn:n<=5) (hb:b<=1099511627776) (hl:S2.up l=true) (h1:(S2.nd l).Oy=true) (k:Nat) (hk:Ul n S2<=k) (j:Nat) (hj:S2.up j=true) (hw:((S2.nd j).Ow<M/\pl (S2.nd j)+bM M j S2.q<=B)\/((S2.nd j).Ow=M/\Wn B (S2.nd l).Oz (S2.nd j))) :
  (((Cs.drain z e k S2).nd j).Ow<M/\pl ((Cs.drain z e k S2).nd j)<=B)\/(((Cs.drain z e k S2).nd j).Ow=M/\Wn B (S2.nd l).Oz ((Cs.drain z e k S2).nd j)):=by
 obtain ⟨_,_,_,q4,_⟩:=P3.end_ (z:=z) (e:=e) (Inv:=λS'=>S'.up=S2.up/\(S'.nd l).Oy=true/\(S'.nd l).Oz=(S2.nd l).Oz/\(((S'.nd j).Ow<M/\pl (S'.nd j)+bM M j S'.q<=B)\/((S'.nd j).Ow=M/\Wn B (S2.nd l).Oz (S'.nd j)))) hn hb (λS' m q p hi hq st=>by
  obtain ⟨i1,i2,i3,i5⟩:=hi;obtain ⟨i,c1,c2,c3,c4,c5⟩:=st.cut;have kp:=st.kp;have hlu:S'.up l=true:=by rw [i1];exact hl
  have PU:S'.up j=true:=by rw [i1];exact hj
  obtain ⟨k1,k2,k3,_⟩:=kp.lead l hlu i2;have hqq:bM M j S'.q=bM M j [m]+bM M j q:=by rw [hq,show m::q=[m]++q from rfl,yW]
  have Xu:=st.p.ub.nd j (by rw [kp.up];exact PU);have P9:=st.p.ld;refine ⟨kp.up.trans i1,k1,k2.trans i3,?_⟩;cases hu:S'.up i with
  | false =>
   rw [c5 hu];rcases i5 with ⟨g1,g2⟩ | g
   ·exact .inl ⟨g1,by show pl (S'.nd j)+((bM M j q:Nat):Int)<=B;omega⟩
   ·exact .inr g
  | true =>
   have hldi:=P9 i (by rw [kp.up];exact hu);rw [c4 hu] at Xu hldi ⊢;rw [bf,ay rfl] at hldi;have h0:bM M j (X.get z e (S'.nd i) m).1=0:=Lx _ λx hx hx3=>by
    obtain ⟨_,o2,_,_,o5⟩:=c3.out x hx;rw [o2,hldi (o5 hx3)];exact aP _
   rw [dS,yW,h0];rw [bf] at Xu ⊢;split
   ·rename_i e1;subst e1;rw [ay rfl] at Xu;obtain ⟨G,hG⟩:=p.wk;have Sj:m∈S'.q:=Bl;have hLt:G.L M=(S2.nd l).Oz:=by
     have d2:=((hG.ni l (hG.up l hlu)).UC i2).2;rw [p.ld l hlu i2] at d2;rw [<-d2,i3]
    have hk2:m.kind≠2:=by rcases p.kd m Sj with g | g<;>omega
    have hN:=p.ub.q m Sj;have T7:=(p.wk.fm Sj).frm0.1;have g1:=c3.up;have hw2:(X.get z e (S'.nd j) m).2.Ow=M->Wn B (S2.nd l).Oz (S'.nd j)->Wn B (S2.nd l).Oz (X.get z e (S'.nd j) m).2:=λht h=>by
     have:=Nv (z:=z) (e:=e) (B:=B) (M:=M) hG.gi (hG.ni j c1) (hG.mi m Sj).1 T7 hk2 az hN ht (by
      cases hc:(X.get z e (S'.nd j) m).2.Oy with
      | false=>exact .inl rfl
      | true =>
       rcases c3.Oy hc with g | g
       ·exact .inr g.1
       ·exact absurd g.1 hk2) (by rw [hLt];exact h)
     rw [hLt] at this;exact this
    rcases i5 with ⟨g2,g3⟩ | ⟨g2,g3⟩
    ·by_cases ht:(X.get z e (S'.nd j) m).2.Ow=M
     ·refine .inr ⟨ht,hw2 ht ⟨0,aH _,aH _,by simp,by omega⟩⟩
     ·refine .inl ⟨by omega,?_⟩;have hp:=(m0 (z:=z) (e:=e) (s:=S'.nd j) T7).1;rw [am hk2] at hp;have hr:=c3.reach;show pl (X.get z e (S'.nd j) m).2+((bM M j q+0:Nat):Int)<=B;by_cases h3:m.kind=3
      ·have Uo:bM M j [m]=m.B.length:=by
        unfold bM;rw [fA,ay (by simp only [aZ];omega),List.filter_nil,lS,nv,ay ⟨c2,h3⟩];rfl
       rw [ay h3] at hp;omega
      ·rw [am h3] at hp;omega
    ·have ht:(X.get z e (S'.nd j) m).2.Ow=M:=by omega
     exact .inr ⟨ht,hw2 ht g3⟩
   ·rcases i5 with ⟨g1,g2⟩ | g
    ·exact .inl ⟨g1,by show pl (S'.nd j)+((bM M j q+0:Nat):Int)<=B;omega⟩
    ·exact .inr g) k S2 p2 ⟨rfl,h1,rfl,hw⟩ hk
 rcases q4.2.2.2 with ⟨g1,g2⟩ | g
 ·exact .inl ⟨g1,by omega⟩
 ·exact .inr g
end
section
variable {ρ:Type} {z:ρ->Bool} {e:ρ}
variable {n i F l len:Nat} {b b' M T B:Int} {S S' S0 S1 S2 S3:Cs ρ} {G:Gh ρ} {m:Ms ρ} {s s':Nd ρ} {r:List (Ms ρ)×Nd ρ} {ms q:List (Ms ρ)} {Λ:Nat} {Lt:Lg ρ}
theorem Wn.more (h:Wn B Lt s) {B':Int} (hB:B<=B'):Wn B' Lt s:=by
 obtain ⟨A,a1,a2,a3,a4⟩:=h;exact ⟨A,a1,a2,a3,by omega⟩
theorem Wn.on (h:Wn B Lt s) (x:Int×ρ):Wn B (Lt++[x]) s:=by
 obtain ⟨A,a1,a2,a3,a4⟩:=h;exact ⟨A,a1,by rw [aE];omega,by rw [cS a2];exact a3,a4⟩
theorem K2 (hn:n<=5) (hb:b+1<=1099511627776) (h:Rd z e n b M Λ S S1 S2 S3) (hl:Ti T S3 l) (j:Nat) (hj:S.up j=true) (hB:pl (S2.nd j)+bN j S2.q<=B):Wn B (S3.nd l).Oz (S3.nd j):=by
 have u2:S2.up=S.up:=h.ra.u2.trans (dL (z:=z) (e:=e) n S).2.1;have hlu:S2.up l=true:=by rw [<-h.kp.up];exact hl.up
 have h1:=h.kp.back l hl.Oy;obtain ⟨k,k1,k2⟩:=h.dr;obtain ⟨g1,g2,g3,_⟩:=h.kp.lead l hlu h1;have hTM:T=M:=by rw [<-hl.Ow,g3];exact h.p2.ld l hlu h1
 have hjb:=h.p2.ub.nd j (by rw [u2];exact hj);have hbM:=ND (M:=M) (i:=j) S2.q;have w:=C8 (e:=e) (B:=B) h.p2 hn hb hlu h1 k k2 j (by rw [u2];exact hj) (by
  by_cases ht:(S2.nd j).Ow=M
  ·exact .inr ⟨ht,0,aH _,aH _,by simp,by omega⟩
  ·exact .inl ⟨by omega,by omega⟩)
 rw [<-k1] at w;rw [g2];have hj3:(S3.nd j).Ow=M:=by
  grind [hl.Ow,hl.XU,h.up]
 exact IO
theorem NS (h:Sb z n b M Λ l S) (hn:n<=5) (hb:b+1<=1099511627776) (Pm:RO n λj=>S.up j) (hF:100+22*Λ<=F) (j:Nat) (hj:S.up j=true) (hw:Wn B (S.nd l).Oz (S.nd j)):Wn B ((S.Sr z e n F).nd l).Oz ((S.Sr z e n F).nd j):=by
 have r:=jg (e:=e) h hn hb Pm hF;obtain ⟨k,k1,k2⟩:=r.dr;have u:=(dL (z:=z) (e:=e) n S).2.1;obtain ⟨t1,t2,t3,t4,t5⟩:=r.tk j hj;obtain ⟨l1,l2,l3,l4,l5⟩:=r.tk l h.lead.up;have hjM:(S.nd j).Ow=M:=by
  by_cases e1:j=l
  ·subst e1;exact h.lead.Ow
  ·exact (h.lead.XU j hj e1).1
 have w:=C8 (e:=e) (B:=B) r.p3 hn hb (by rw [u];exact h.lead.up) (by rw [l1];exact h.lead.Oy) k k2 j (by rw [u];exact hj) (.inr ⟨by rw [t3];exact hjM,by rw [l2];exact hw.of t2 (nI (qe t4 t3 t5))⟩);rw [<-k1,l2] at w;rw [r.Oz];have hj3:((S.Sr z e n F).nd j).Ow=M:=by
  by_cases e1:j=l
  ·subst e1;exact r.sb.lead.Ow
  ·exact (r.sb.lead.XU j (by rw [r.up];exact hj) e1).1
 exact IO
theorem zh (h:Sb z n b M Λ l S) (hn:n<=5) (Pm:RO n λj=>S.up j) (hF:100+22*Λ<=F) (j:Nat) (hj:S.up j=true) (hw:Wn B (S.nd l).Oz (S.nd j)):∀k:Nat,b+k<=1099511627776->Sb z n (b+k) M Λ l (S.OG z e n F k)/\(S.OG z e n F k).up=S.up/\Wn B ((S.OG z e n F k).nd l).Oz ((S.OG z e n F k).nd j):=by
 intro k;induction k with
 | zero=>intro _;exact ⟨by rw [show b+((0:Nat):Int)=b by omega];exact h,rfl,hw⟩
 | succ k ih =>
  intro hb;obtain ⟨a1,a2,a3⟩:=ih az;have r:=jg (e:=e) (F:=F) a1 hn az (by rw [a2];exact Pm) hF;refine ⟨by rw [show b+((k+1:Nat):Int)=b+(k:Int)+1 by omega];exact r.sb,r.up.trans a2,?_⟩;exact NS (e:=e) (F:=F) a1 hn az (by rw [a2];exact Pm) hF j (by rw [a2];exact hj) a3
end
section
variable {ρ:Type} {z:ρ->Bool} {e:ρ}
variable {n i F l len:Nat} {b b' M T B:Int} {S S' S0 S1 S2 S3:Cs ρ} {G:Gh ρ} {m:Ms ρ} {s s':Nd ρ} {r:List (Ms ρ)×Nd ρ} {ms q:List (Ms ρ)} {Λ:Nat} {Lt:Lg ρ}
theorem LV (hw:Wk z 1 b S) (hb:b+1<=1099511627776) (hq:S.q=[]):(S.Ox z e 1).q=[]:=MS
theorem GF (hw:Wk z 1 b S) (hb:b+1<=1099511627776) (hq:S.q=[]) (h1:S1=(S.Ox z e 1).Pc.dl z e (S.Ox z e 1).q) (h2:S2=S1.Pc.dl z e S1.q) (i:Nat):pl (S2.nd i)+bN i S2.q<=pl (S.nd i)+1:=by
 rw [LV hw hb hq] at h1;subst h1;subst h2;have:=nP (e:=e) hw hb i;rw [ay rfl] at this;show pl ((S.Ox z e 1).nd i)+((0:Nat):Int)<=_;omega
theorem Fa (h:Sd z n b M Λ l S) (hn:n<=5) (Pm:RO n λj=>S.up j) (hΛ:Λ<=1900) (hb:b+20<=1099511627776) (hF:100+22*(Λ+1)<=F) (x:ρ) (j:Nat) (hj:S.up j=true) (hw:Wn B (S.nd l).Oz (S.nd j)):∀k:Nat,k<=10->Wn B (((S.call l ((X.OH z (S.nd l) x).1,(X.OH z (S.nd l) x).2.2)).OG z e n F k).nd l).Oz (((S.call l ((X.OH z (S.nd l) x).1,(X.OH z (S.nd l) x).2.2)).OG z e n F k).nd j):=λk hk=>by
 obtain ⟨_,h2,h3⟩:=h.give hn hΛ x;have hp:=sA (z:=z) (s:=S.nd l) x;refine (zh (e:=e) (F:=F) h2 hn Pm hF j hj ?_ k az).2.2;rw [bf,ay rfl,bf];show Wn B (X.OH z (S.nd l) x).2.2.Oz (if j=l then (X.OH z (S.nd l) x).2.2 else S.nd j);rw [h3];split
 ·rename_i e1;subst e1;obtain ⟨A,a1,a2,a3,a4⟩:=hw;exact ⟨(S.nd j).Oz.length+1,by rw [h3];simp,by simp,by rw [h3],by omega⟩
 ·exact hw.on _
theorem Wn.cnt (h:Wn B Lt s):(s.cnt:Int)<=B+Lt.length+2*s.Ow+1:=by
 have:=h.le;have:=qL s;omega
end
end Go.Proofs.YtnhefallmioefaaGreat.X
namespace Go.Proofs.YtnhefallmioefaaGreat
set_option maxRecDepth 20000
def sQ {ρ:Type} (f:ρ->List UInt8) (x:Int×ρ):Po:=⟨x.1,f x.2⟩
def du {ρ:Type} (f:ρ->List UInt8) (m:X.Ms ρ):OM:=⟨m.OD,m.dst,m.kind,m.N,m.B.map f⟩
def uH (k:Dk):Prop:=∀l q,k.file=some (l,q)->q=l.length
structure Qa {ρ:Type} (f:ρ->List UInt8) (s:Rp) (k:Dk) (c:X.Nd ρ):Prop where
 own:s.own=c.own
 n:s.n=c.n
 Ow:s.Ow=c.Ow
 OC:s.OC=c.OC
 Oz:s.Oz=c.Oz.map (sQ f)
 agreed:s.agreed=c.agreed
 many:s.many=c.many
 Oy:s.Oy=c.Oy
 OB:s.OB=c.OB
 next:s.next=c.next
 OE:s.OE=c.OE
 Ox:s.Ox=c.Ox
 OA:s.OA=c.OA
 heard:s.heard=c.heard
 done:s.done=false
 SC:s.lives=k.lives
 Uz:s.wl.lives=k.lives
 Rj:s.wl.done=false
 off:k.off=false
 room:k.room=1048576
 RQ:k.total<=c.cnt*344
structure Rel {ρ:Type} (f:ρ->List UInt8) (s:Rp) (k:Dk) (c:X.Nd ρ):Prop where
 u:Qa f s k c
 UT:uH k
structure Qf {ρ:Type} (f:ρ->List UInt8) (p:List OM×Rp×Dk) (q:List (X.Ms ρ)×X.Nd ρ):Prop where
 ms:p.1=q.1.map (du f)
 rel:Rel f p.2.1 p.2.2 q.2
section
variable {ρ:Type} {f:ρ->List UInt8} {z:ρ->Bool} {e:ρ} {s:Rp} {k:Dk} {c:X.Nd ρ}
theorem JW {s:Wl} (h:s.done=false):lB s 0=s:=by
 unfold lB;rw [h];obtain ⟨a,b,c⟩:=s;simp only at h;rw [h];rfl
theorem vy (h:Qa f s k c):n8 s.wl k=false:=by
 unfold n8;rw [h.Rj,h.Uz,h.off];simp
theorem Qa.SM (h:Qa f s k c):eG s k=false/\bw s k=s:=by
 have hd:eG s k=false:=by
  unfold eG;rw [h.done,h.off,h.SC];simp
 refine ⟨hd,?_⟩;unfold bw;rw [hd,<-h.done]
theorem Qa.wl (h:Qa f s k c) {w':Wl} {k':Dk} (h1:w'.lives=k'.lives) (h2:w'.done=false) (h3:k'.lives=k.lives) (h4:k'.off=k.off) (h5:k'.room=k.room) {m:Nat} (h6:k'.total<=m*344):Qa f { s with wl:=w',done:=false } k' { c with cnt:=m } :=
 ⟨h.own,h.n,h.Ow,h.OC,h.Oz,h.agreed,h.many,h.Oy,h.OB,h.next,h.OE,h.Ox,h.OA,h.heard,rfl,h.SC.trans h3.symm,h1,h2,h4.trans h.off,h5.trans h.room,h6⟩
theorem sr (h:Qa f s k c) (b:List UInt8) (hb:b.length<=332) (hc:c.cnt<=3030) :
  ∃s' k',bQ s k b=(s',k')/\Qa f s' k' { c with cnt:=c.cnt+1 }:=by
 have ht:=h.RQ;have hr:=h.room;have ha:gx s.wl k b=(0,{ s.wl with recs:=s.wl.recs++[b]},nw k (F.cM b)):=by
  grind [gx,vy,JW,bk,h.Rj]
 refine ⟨{ s with wl:={ s.wl with recs:=s.wl.recs++[b]},done:=false },nw k (F.cM b),?_,h.wl (w':={ s.wl with recs:=s.wl.recs++[b]}) (k':=nw k (F.cM b)) h.Uz h.Rj rfl rfl rfl ?_⟩
 ·unfold bQ;rw [h.done,ha];simp
 ·rw [fV] at ht ⊢;rw [rM,aE,F.dG];omega
theorem qz (h:Qa f s k c):∃s' k',cO s k=(s',k')/\Rel f s' k' c:=by
 unfold cO gX;rw [h.done,vy h,JW h.Rj];have ht:=h.RQ;cases hk:k.file with
 | none=>exact ⟨{ s with wl:=s.wl,done:=false },k,by simp,⟨h.wl (w':=s.wl) (k':=k) h.Uz h.Rj rfl rfl rfl ht,λl q e=>by rw [hk] at e;cases e⟩⟩
 | some p =>
  obtain ⟨l,q⟩:=p;refine ⟨{ s with wl:=s.wl,done:=false },{ k with file:=some (l,l.length)},by simp,⟨h.wl (w':=s.wl) (k':={ k with file:=some (l,l.length)}) h.Uz h.Rj rfl rfl rfl ?_,λl2 q2 e2=>by cases e2;rfl⟩⟩;unfold Dk.total at ht ⊢;rw [hk] at ht;exact ht
theorem py (h:Qa f s k c) (t w:Int) (hc:c.cnt<=3030):∃s' k',bB s k t w=(true,s',k')/\Rel f s' k' (X.enter c t w):=by
 obtain ⟨s1,k1,e1,h1⟩:=sr h (ez t w) (by rw [jX];omega) hc;obtain ⟨s2,k2,e2,h2⟩:=qz h1;unfold bB;rw [e1];simp only [h1.done,bk,if_false];rw [e2];simp only [h2.u.done,bk,if_false];refine ⟨_,k2,rfl,⟨⟨h2.u.own,h2.u.n,rfl,rfl,h2.u.Oz,h2.u.agreed,h2.u.many,?_,h2.u.OB,h2.u.next,h2.u.OE,h2.u.Ox,h2.u.OA,h2.u.heard,rfl,h2.u.SC,h2.u.Uz,h2.u.Rj,h2.u.off,h2.u.room,h2.u.RQ⟩,h2.UT⟩⟩;show (s2.Oy && !decide (s2.Ow<t))=(c.Oy && !decide (c.Ow<t))
 rw [h2.u.Oy,h2.u.Ow]
theorem sI (h:Qa f s k c) (p:Nat) (x:Int×ρ) (hx:(f x.2).length<=300) (hc:c.cnt<=3030):∃s' k',cR s k p (sQ f x)=(true,s',k')/\Qa f s' k' (X.place c p x):=by
 obtain ⟨s1,k1,e1,h1⟩:=sr h (dY p (sQ f x)) (by rw [i7];show 32+(f x.2).length<=332;omega) hc;unfold cR;rw [e1];simp only [h1.done,bk,if_false];refine ⟨_,k1,rfl,⟨h1.own,h1.n,h1.Ow,h1.OC,?_,h1.agreed,h1.many,h1.Oy,h1.OB,h1.next,h1.OE,h1.Ox,h1.OA,h1.heard,rfl,h1.SC,h1.Uz,h1.Rj,h1.off,h1.room,h1.RQ⟩⟩;show s1.Oz.take p++[sQ f x]=(c.Oz.take p++[x]).map (sQ f);rw [h1.Oz,cy,jv];rfl
theorem zp (h:Qa f s k c) (x:Int×ρ) (hx:(f x.2).length<=300) (hc:c.cnt<=3030):∃s' k',gt s k (sQ f x)=(true,s',k')/\Rel f s' k' (X.place c c.Oz.length x):=by
 have hl:s.Oz.length=c.Oz.length:=by rw [h.Oz,aW]
 obtain ⟨s1,k1,e1,h1⟩:=sI h s.Oz.length x hx hc;obtain ⟨s2,k2,e2,h2⟩:=qz h1;unfold gt;rw [e1];simp only [if_true];rw [e2];refine ⟨s2,k2,by simp [h2.u.done],?_⟩;rw [<-hl];exact h2
theorem iu (l:List (Int×ρ)) (n:Nat):bV (l.map (sQ f)) n=X.bC l n:=by
 unfold bV X.bC;cases n with
 | zero=>rfl
 | succ n =>
  rw [am az];simp only [Nat.add_sub_cancel,tx,aL,fT];cases l[n]? with
  | none=>rfl
  | some x=>rfl
theorem Ar (l:List (Int×ρ)):(l.map (sQ f)).map Po.Ow=l.map Prod.fst:=by
 rw [tx];rfl
theorem Lw (l:List (Int×ρ)):(l.map (sQ f)).map Po.bs=(l.map Prod.snd).map f:=by
 rw [tx,tx];rfl
theorem ir (h:Qa f s k c) (d:Nat):cF s d=du f (X.bI c d):=by
 unfold cF X.bI du;simp only [h.own,h.Ow,h.next,h.agreed,h.Oz,iu,<-N6,<-jv,Ar,Lw]
theorem pH (h:Qa f s k c) (kd:Int) (d:Nat):br s kd d=du f (X.br c kd d):=by
 unfold br X.br du dQ X.say;simp only [h.own,h.Ow,h.Oz,iu,aW,iU]
theorem lJ (h:Qa f s k c) (d kd:Int) (N:List Int):dQ s d kd N=du f (X.say c d kd N):=by
 unfold dQ X.say du;simp only [h.own,iU]
theorem mK (h:Qa f s k c) (g:Nat->OM) (g':Nat->X.Ms ρ) (hg:∀i,g i=du f (g' i)):dB s g=(X.cP c g').map (du f):=by
 unfold dB X.cP;rw [h.own,h.n,tx];exact kP (λi _=>hg i)
section
variable (hz:∀x,z x=(f x).isEmpty)
include hz
theorem qI (l:List (Int×ρ)):recs (l.map (sQ f))=(X.recs z l).map f:=by
 induction l with
 | nil=>rfl
 | cons a l ih =>
  unfold recs X.recs at *;simp only [bJ,fA];have e1:(sQ f a).bs.isEmpty=z a.2:=(hz a.2).symm;rw [e1];split
  ·simp only [bJ,ih];rfl
  ·exact ih
theorem tq (h:Rel f s k c) (m:Nat):Rel f (cI s m) k (X.agree z c m):=by
 have e:(recs ((s.Oz.take m).drop s.agreed)).length=(X.recs z ((c.Oz.take m).drop c.agreed)).length:=by
  rw [h.u.Oz,h.u.agreed,<-jv,<-N6,qI hz,aW]
 unfold cI X.agree;rw [e,h.u.agreed];split
 ·exact ⟨⟨h.u.own,h.u.n,h.u.Ow,h.u.OC,h.u.Oz,rfl,by show s.many+_=c.many+_;rw [h.u.many],h.u.Oy,h.u.OB,h.u.next,h.u.OE,h.u.Ox,h.u.OA,h.u.heard,h.u.done,h.u.SC,h.u.Uz,h.u.Rj,h.u.off,h.u.room,h.u.RQ⟩,h.UT⟩
 ·exact h
omit hz in
theorem vi (h:Qa f s k c) (m:Nat):_root_.Go.Proofs.YtnhefallmioefaaGreat.OQ s m=X.OQ c m:=by
 induction m with
 | zero=>rfl
 | succ m ih =>
  unfold _root_.Go.Proofs.YtnhefallmioefaaGreat.OQ X.OQ;rw [ih,h.agreed,h.Oz,iu,h.Ow];have e:kO s (fI s.OE (m+1))=X.dF c (fI c.OE (m+1)):=by
   unfold kO X.dF;rw [h.n,h.OE]
  rw [e]
theorem mx (h:Rel f s k c):(bZ s).1=(X.settle z c).1/\Rel f (bZ s).2 k (X.settle z c).2:=by
 have h1:Rel f { s with OE:=s.OE.set s.own s.Oz.length } k { c with OE:=c.OE.set c.own c.Oz.length } :=
  ⟨⟨h.u.own,h.u.n,h.u.Ow,h.u.OC,h.u.Oz,h.u.agreed,h.u.many,h.u.Oy,h.u.OB,h.u.next,by show s.OE.set s.own s.Oz.length=c.OE.set c.own c.Oz.length;rw [h.u.OE,h.u.own,h.u.Oz,aW],h.u.Ox,h.u.OA,h.u.heard,h.u.done,h.u.SC,h.u.Uz,h.u.Rj,h.u.off,h.u.room,h.u.RQ⟩,h.UT⟩
 have e:=vi h1.u s.Oz.length;have hl:s.Oz.length=c.Oz.length:=by rw [h.u.Oz,aW]
 unfold bZ X.settle;simp only;rw [e,hl];cases X.OQ { c with OE:=c.OE.set c.own c.Oz.length } c.Oz.length with
 | none=>exact ⟨rfl,by rw [hl] at h1;exact h1⟩
 | some m=>exact ⟨rfl,by have:=tq hz h1 m;rw [hl] at this;exact this⟩
end
end
section
variable {ρ:Type} {f:ρ->List UInt8} {z:ρ->Bool} {e:ρ} {s:Rp} {k:Dk} {c:X.Nd ρ}
theorem Qa.Yx (h:Qa f s k c) {s':Rp} {c':X.Nd ρ} (h1:s'.own=c'.own) (h2:s'.n=c'.n) (h3:s'.Ow=c'.Ow) (h4:s'.OC=c'.OC) (h5:s'.Oz=c'.Oz.map (sQ f)) (h6:s'.agreed=c'.agreed) (h7:s'.many=c'.many) (h8:s'.Oy=c'.Oy) (h9:s'.OB=c'.OB) (h10:s'.next=c'.next) (h11:s'.OE=c'.OE) (Y9:s'.Ox=c'.Ox) (h13:s'.OA=c'.OA) (h14:s'.heard=c'.heard) (g1:s'.done=s.done) (g2:s'.lives=s.lives) (g3:s'.wl=s.wl) (g4:c'.cnt=c.cnt):Qa f s' k c' :=
 ⟨h1,h2,h3,h4,h5,h6,h7,h8,h9,h10,h11,Y9,h13,h14,g1.trans h.done,g2.trans h.SC,by rw [g3];exact h.Uz,by rw [g3];exact h.Rj,h.off,h.room,by rw [g4];exact h.RQ⟩
theorem Qa.len (h:Qa f s k c):s.Oz.length=c.Oz.length:=by rw [h.Oz,aW]
theorem rF (h:Qa f s k c):gI s=X.jp c:=by
 unfold gI kO X.jp X.dF;rw [h.n,h.OB]
theorem FF (h:Qa f s k c):lC s=X.np c:=by
 unfold lC X.np;rw [h.heard];congr 1;funext i;unfold _root_.Go.Proofs.YtnhefallmioefaaGreat.Qs X.Qs;rw [h.OA,h.Oz,iu,aW,h.own]
theorem fd (h:Rel f s k c):Qf f ([],s,k) ([],c):=⟨rfl,h⟩
theorem iG (h:Rel f s k c) {m:OM} {m':X.Ms ρ} (e:m=du f m'):Qf f ([m],s,k) ([m'],c):=⟨by rw [e];rfl,h⟩
theorem nX (h:Rel f s k c) (g:Nat->OM) (g':Nat->X.Ms ρ) (hg:∀i,g i=du f (g' i)):Qf f (dB s g,s,k) (X.cP c g',c):=⟨mK h.u g g' hg,h⟩
theorem zM {P Q:Prop} [Decidable P] [Decidable Q] {a b:List OM×Rp×Dk} {a' b':List (X.Ms ρ)×X.Nd ρ} (e:P=Q) (ha:Q->Qf f a a') (hb:¬Q->Qf f b b'):Qf f (if P then a else b) (if Q then a' else b'):=by
 grind
section
variable (hz:∀x,z x=(f x).isEmpty) (he:f e=[])
include hz he
theorem vV (h:Rel f s k c) (hc:c.cnt<=3030):Qf f (hJ s k) (X.lead z e c):=by
 have h1:Rel f { s with Oy:=true,next:=List.replicate s.n s.Oz.length,OE:=List.replicate s.n 0 } k { c with Oy:=true,next:=List.replicate c.n c.Oz.length,OE:=List.replicate c.n 0 } :=
  ⟨h.u.Yx h.u.own h.u.n h.u.Ow h.u.OC h.u.Oz h.u.agreed h.u.many rfl h.u.OB (by show List.replicate s.n s.Oz.length=List.replicate c.n c.Oz.length;rw [h.u.n,h.u.len]) (by show List.replicate s.n 0=List.replicate c.n 0;rw [h.u.n]) h.u.Ox h.u.OA h.u.heard rfl rfl rfl rfl,h.UT⟩
 obtain ⟨s2,k2,e2,h2⟩:=zp h1.u (c.Ow,e) (by rw [he];simp) hc;have e3:sQ f (c.Ow,e)=⟨s.Ow,[]⟩:=by unfold sQ;rw [he,h.u.Ow]
 rw [e3] at e2;have h3:=(mx hz h2).2;unfold hJ X.lead;simp only;rw [e2];exact nX h3 _ _ (λi=>ir h3.u i)
theorem AA (h:Rel f s k c) (hc:c.cnt<=3020):Qf f (gZ s k) (X.stand z e c):=by
 unfold gZ X.stand;rw [h.u.Ow];split
 ·exact fd h
 ·obtain ⟨s1,k1,e1,h1⟩:=py h.u (c.Ow+1) (c.own:Int) az;rw [h.u.own,e1];simp only [if_true];have h2:Rel f { s1 with Ox:=0,OB:=(List.replicate s.n false).set c.own true } k1 { X.enter c (c.Ow+1) (c.own:Int) with Ox:=0,OB:=(List.replicate c.n false).set c.own true } :=
   ⟨h1.u.Yx h1.u.own h1.u.n h1.u.Ow h1.u.OC h1.u.Oz h1.u.agreed h1.u.many h1.u.Oy (by show (List.replicate s.n false).set c.own true=_;rw [h.u.n]) h1.u.next h1.u.OE rfl h1.u.OA h1.u.heard rfl rfl rfl rfl,h1.UT⟩
  rw [rF h2.u];split
  ·exact vV hz he h2 (by show c.cnt+1<=3030;omega)
  ·grind [nX,pH,h2.u]
theorem kX (h:Rel f s k c) (hc:c.cnt<=3020):Qf f (eM s k) (X.tick z e c):=by
 have h1:Rel f { s with OA:=s.OA+1 } k { c with OA:=c.OA+1 } :=
  ⟨h.u.Yx h.u.own h.u.n h.u.Ow h.u.OC h.u.Oz h.u.agreed h.u.many h.u.Oy h.u.OB h.u.next h.u.OE h.u.Ox (by show s.OA+1=c.OA+1;rw [h.u.OA]) h.u.heard rfl rfl rfl rfl,h.UT⟩
 have h2:Rel f { s with OA:=s.OA+1,Ox:=s.Ox+1 } k { c with OA:=c.OA+1,Ox:=c.Ox+1 } :=
  ⟨h.u.Yx h.u.own h.u.n h.u.Ow h.u.OC h.u.Oz h.u.agreed h.u.many h.u.Oy h.u.OB h.u.next h.u.OE (by show s.Ox+1=c.Ox+1;rw [h.u.Ox]) (by show s.OA+1=c.OA+1;rw [h.u.OA]) h.u.heard rfl rfl rfl rfl,h.UT⟩
 have hb:=FF h2.u;have ht:s.Ox+1=c.Ox+1:=by rw [h.u.Ox]
 unfold eM X.tick;rw [h.u.SM.2,am (by rw [h.u.done];simp)];refine zM (by rw [h.u.Oy]) (λ_=>nX h1 _ _ (λi=>ir h1.u i)) λ_=>?_;refine zM (by rw [hb,ht]) (λ_=>AA hz he h2 hc) λ_=>?_;exact zM (by rw [ht]) (λ_=>nX h2 _ _ (λi=>pH h2.u 5 i)) (λ_=>fd h2)
omit hz he in
theorem B9 (h:Rel f s k c) (hc:c.cnt<=3020) (m:X.Ms ρ):Qf f (eX s k (du f m)) (X.asked c m):=by
 refine zM rfl (λ_=>?_) (λ_=>fd h);refine zM ?_ (λ_=>?_) (λ_=>iG h (by rw [h.u.Ow];exact lJ h.u _ _ _))
 ·rw [h.u.Oz,iu,aW,h.u.Ow,h.u.OC];rfl
 ·refine zM (by rw [h.u.OC]) (λ_=>?_) (λ_=>?_)
  ·obtain ⟨s1,k1,e1,h1⟩:=py h.u c.Ow m.OD az;have h2:Rel f { s1 with Ox:=0 } k1 { X.enter c c.Ow m.OD with Ox:=0 } :=
    ⟨h1.u.Yx h1.u.own h1.u.n h1.u.Ow h1.u.OC h1.u.Oz h1.u.agreed h1.u.many h1.u.Oy h1.u.OB h1.u.next h1.u.OE rfl h1.u.OA h1.u.heard rfl rfl rfl rfl,h1.UT⟩
   have e2:bB s k s.Ow (du f m).OD=(true,s1,k1):=by rw [h.u.Ow];exact e1
   rw [e2];have h3:s1.Ow=c.Ow:=h1.u.Ow;refine iG h2 ?_;rw [h3];exact lJ h2.u _ _ _
  ·have h2:Rel f { s with Ox:=0 } k { c with Ox:=0 } :=
    ⟨h.u.Yx h.u.own h.u.n h.u.Ow h.u.OC h.u.Oz h.u.agreed h.u.many h.u.Oy h.u.OB h.u.next h.u.OE rfl h.u.OA h.u.heard rfl rfl rfl rfl,h.UT⟩
   refine iG h2 ?_;have h3:dQ { s with Ox:=0 } (du f m).OD 2 [s.Ow,1]=du f (X.say { c with Ox:=0 } m.OD 2 [c.Ow,1]):=by rw [h.u.Ow];exact lJ h2.u _ _ _
   exact h3
theorem Af (h:Rel f s k c) (hc:c.cnt<=3020) (m:X.Ms ρ):Qf f (fS s k (du f m)) (X.O4 z e c m):=by
 have h2:Rel f { s with OB:=s.OB.set m.OD.toNat true } k { c with OB:=c.OB.set m.OD.toNat true } :=
  ⟨h.u.Yx h.u.own h.u.n h.u.Ow h.u.OC h.u.Oz h.u.agreed h.u.many h.u.Oy (by show s.OB.set _ _=_;rw [h.u.OB]) h.u.next h.u.OE h.u.Ox h.u.OA h.u.heard rfl rfl rfl rfl,h.UT⟩
 have hch:=rF h2.u;refine zM ?_ (λ_=>fd h) (λ_=>?_)
 ·rw [h.u.Oy,h.u.Ow,h.u.OC,h.u.own];rfl
 ·refine zM ?_ (λ_=>vV hz he h2 (by show c.cnt<=3030;omega)) (λ_=>fd h2);rw [<-hch];rfl
omit he in
theorem kq (h:Rel f s k c) (hc:c.cnt<=3020) (x:ρ) (hx:(f x).length<=300) (hne:z x=false):∃er,bF s k (f x)=((X.OH z c x).1.map (du f),er,(bF s k (f x)).2.2)/\(er=0↔(X.OH z c x).2.1=true)/\Rel f (bF s k (f x)).2.2.1 (bF s k (f x)).2.2.2 (X.OH z c x).2.2:=by
 have hn:(f x).length≠0:=by
  grind
 have ho:jC s=X.vx z c:=by
  unfold jC X.vx;rw [h.u.Oz,h.u.agreed,h.u.Ow,<-N6,List.filter_map,aW];congr 2;funext y;simp [sQ,hz]
 obtain ⟨s2,k2,e2,h2⟩:=zp h.u (c.Ow,x) hx az;have h3:=(mx hz h2).2;have e3:sQ f (c.Ow,x)=⟨s.Ow,f x⟩:=by unfold sQ;rw [h.u.Ow]
 rw [e3] at e2;have E:bF s k (f x)=if !s.Oy then ([],15,s,k) else if 200<=jC s\/2000<=s.many then ([],9,s,k) else (let s2:=(bZ s2).2;(dB s2 (cF s2),0,s2,k2)):=by
  unfold bF;rw [am hn,am az];simp only;rw [h.u.SM.2,h.u.done,e2];simp
 rw [E];unfold X.OH;rw [h.u.Oy,ho,h.u.many];split
 ·exact ⟨15,rfl,by simp,h⟩
 ·grind [mK,ir,h3.u]
omit hz he in
theorem Bx (hf:∀x,(f x).length<=300) (fr:Nat) (l:List (Int×ρ)):∀(i:Nat) (s:Rp) (k:Dk) (c:X.Nd ρ),Qa f s k c->c.cnt+l.length<=3030 ->
  (bH fr (l.map λx=>(x.1,f x.2)) i s k).1=(X.bH fr l i c).1/\Qa f (bH fr (l.map λx=>(x.1,f x.2)) i s k).2.1 (bH fr (l.map λx=>(x.1,f x.2)) i s k).2.2 (X.bH fr l i c).2:=by
 induction l with
 | nil=>intro i s k c h _;exact ⟨rfl,h⟩
 | cons a l ih =>
  intro i s k c h hc;obtain ⟨t,rec⟩:=a;simp only [aX] at hc;have hL:(s.Oz.map Po.Ow).getD (fr+i) 0=X.bC c.Oz (fr+i+1):=by
   rw [<-iu (f:=f),<-h.Oz];unfold bV;rw [am az];rfl
  obtain ⟨s1,k1,e1,h1⟩:=sI h (fr+i) (t,rec) (hf rec) az;have e3:sQ f (t,rec)=⟨t,f rec⟩:=rfl;rw [e3] at e1;simp only [bJ];unfold bH X.bH;simp only [hL,h.len,h.Ow,h.agreed];rw [e1];have hr:=hf rec;by_cases g1:fr+i<c.Oz.length/\X.bC c.Oz (fr+i+1)=t
  ·grind
  ·rw [am g1,am g1];by_cases g2:t<1\/c.Ow<t\/fr+i<c.agreed
   ·grind
   ·rw [am g2,am (by rintro (g | g);omega;exact g2 g)];exact ih _ _ _ _ h1 (by show c.cnt+1+l.length<=3030;omega)
omit hz he in
theorem F8 (N:List Int) (B:List ρ):N.zip (B.map f)=(N.zip B).map λx=>(x.1,f x.2):=by
 rw [List.zip_map_right];rfl
omit he in
theorem EE (hf:∀x,(f x).length<=300) (h:Rel f s k c) (hc:c.cnt<=3000) (m:X.Ms ρ) (hb:m.B.length<=20) (PF:(X.lays z c m).2.bad=false):Qf f (eA s k (du f m)) (X.lays z c m):=by
 have h1:Rel f { s with Ox:=0 } k { c with Ox:=0 } :=
  ⟨h.u.Yx h.u.own h.u.n h.u.Ow h.u.OC h.u.Oz h.u.agreed h.u.many h.u.Oy h.u.OB h.u.next h.u.OE rfl h.u.OA h.u.heard rfl rfl rfl rfl,h.UT⟩
 have O0:fN { s with Ox:=0 } (m.N.getD 1 0) (m.N.getD 2 0)=X.nf { c with Ox:=0 } (m.N.getD 1 0) (m.N.getD 2 0):=by
  unfold fN X.nf;simp only [h.u.Oz,iu,aW]
 have hzl:((m.N.drop 4).zip m.B).length<=20:=G9;obtain ⟨l1,l2⟩:=Bx hf (m.N.getD 1 0).toNat ((m.N.drop 4).zip m.B) 0 _ k _ h1.u (by show c.cnt+_<=3030;omega);rw [<-F8] at l1 l2;revert PF;have hA:∀(s2:Rp) (k2:Dk) (c2:X.Nd ρ),Rel f s2 k2 c2->Qf f (([dQ (cI s2 (min (m.N.getD 3 0) (((m.N.getD 1 0).toNat+m.B.length:Nat):Int)).toNat) m.OD 4 [(cI s2 (min (m.N.getD 3 0) (((m.N.getD 1 0).toNat+m.B.length:Nat):Int)).toNat).Ow,1,(((m.N.getD 1 0).toNat+m.B.length:Nat):Int)]],cI s2 (min (m.N.getD 3 0) (((m.N.getD 1 0).toNat+m.B.length:Nat):Int)).toNat,k2)) ([X.say (X.agree z c2 (min (m.N.getD 3 0) (((m.N.getD 1 0).toNat+m.B.length:Nat):Int)).toNat) m.OD 4 [(X.agree z c2 (min (m.N.getD 3 0) (((m.N.getD 1 0).toNat+m.B.length:Nat):Int)).toNat).Ow,1,(((m.N.getD 1 0).toNat+m.B.length:Nat):Int)]],X.agree z c2 (min (m.N.getD 3 0) (((m.N.getD 1 0).toNat+m.B.length:Nat):Int)).toNat):=by
  intro s2 k2 c2 h2;have h3:=tq hz h2 (min (m.N.getD 3 0) (((m.N.getD 1 0).toNat+m.B.length:Nat):Int)).toNat;refine iG h3 ?_;rw [h3.u.Ow];exact lJ h3.u _ _ _
 unfold eA X.lays;have hBl:(du f m).B.length=m.B.length:=aW _;rw [hBl];have hP:(!((du f m).N.length==4+m.B.length)||decide ((du f m).N.getD 1 0<0)||((du f m).N.getD 0 0==s.Ow&&s.Oy))=(!(m.N.length==4+m.B.length)||decide (m.N.getD 1 0<0)||(m.N.getD 0 0==c.Ow&&c.Oy)):=by rw [h.u.Ow,h.u.Oy];rfl
 rw [hP];by_cases q1:(!(m.N.length==4+m.B.length)||decide (m.N.getD 1 0<0)||(m.N.getD 0 0==c.Ow&&c.Oy))=true
 ·grind [fd]
 ·rw [am q1,am q1];by_cases q2:m.N.getD 0 0<c.Ow
  ·rw [ay q2,ay (show (du f m).N.getD 0 0<s.Ow by rw [h.u.Ow];exact q2)];intro _;exact iG h (by rw [h.u.Ow];exact lJ h.u _ _ _)
  ·rw [am q2,am (show ¬(du f m).N.getD 0 0<s.Ow by rw [h.u.Ow];exact q2)];by_cases q3:X.nf { c with Ox:=0 } (m.N.getD 1 0) (m.N.getD 2 0)=true
   ·rw [ay q3,ay (show fN { s with Ox:=0 } ((du f m).N.getD 1 0) ((du f m).N.getD 2 0)=true from O0.trans q3)];have l1':(bH ((du f m).N.getD 1 0).toNat (((du f m).N.drop 4).zip (du f m).B) 0 { s with Ox:=0 } k).1=(X.bH (m.N.getD 1 0).toNat ((m.N.drop 4).zip m.B) 0 { c with Ox:=0 }).1:=l1;by_cases q4:(X.bH (m.N.getD 1 0).toNat ((m.N.drop 4).zip m.B) 0 { c with Ox:=0 }).1=true
    ·rw [ay q4,ay (l1'.trans q4)];intro _;obtain ⟨s2,k2,e2,h2⟩:=qz l2;have e2':cO (bH ((du f m).N.getD 1 0).toNat (((du f m).N.drop 4).zip (du f m).B) 0 { s with Ox:=0 } k).2.1 (bH ((du f m).N.getD 1 0).toNat (((du f m).N.drop 4).zip (du f m).B) 0 { s with Ox:=0 } k).2.2=(s2,k2):=e2;by_cases hb0:m.B.length=0
     ·rw [ay hb0,am az];have hB:m.B=[]:=List.eq_nil_of_length_eq_zero hb0;have hl0:(bH ((du f m).N.getD 1 0).toNat (((du f m).N.drop 4).zip (du f m).B) 0 { s with Ox:=0 } k)=(true,{ s with Ox:=0 },k):=by
       unfold du;simp [hB,bH]
      have PH:(X.bH (m.N.getD 1 0).toNat ((m.N.drop 4).zip m.B) 0 { c with Ox:=0 })=(true,{ c with Ox:=0 }):=by
       simp [hB,X.bH]
      rw [hl0,PH];exact hA _ _ _ h1
     ·rw [am hb0,e2',am (by rw [h2.u.done];simp)];exact hA _ _ _ h2
    ·rw [am q4];intro hx;cases hx
   ·rw [am q3,am (show ¬fN { s with Ox:=0 } ((du f m).N.getD 1 0) ((du f m).N.getD 2 0)=true from λx=>q3 (O0.symm.trans x))];intro _;refine iG h1 ?_;rw [h.u.Ow,h.u.len];exact lJ h1.u _ _ _
omit he in
theorem uB (h:Rel f s k c) (m:X.Ms ρ):Qf f ((cG s (du f m)).1,(cG s (du f m)).2,k) (X.answered z c m):=by
 have h1:Rel f { s with next:=s.next.set m.OD.toNat (max (m.N.getD 2 0).toNat (s.OE.getD m.OD.toNat 0))} k { c with next:=c.next.set m.OD.toNat (max (m.N.getD 2 0).toNat (c.OE.getD m.OD.toNat 0))} :=
  ⟨h.u.Yx h.u.own h.u.n h.u.Ow h.u.OC h.u.Oz h.u.agreed h.u.many h.u.Oy h.u.OB (by show s.next.set _ _=_;rw [h.u.next,h.u.OE]) h.u.OE h.u.Ox h.u.OA h.u.heard rfl rfl rfl rfl,h.UT⟩
 have h2:Rel f { s with OE:=s.OE.set (du f m).OD.toNat ((du f m).N.getD 2 0).toNat,next:=s.next.set (du f m).OD.toNat (max ((du f m).N.getD 2 0).toNat (s.next.getD (du f m).OD.toNat 0))} k { c with OE:=c.OE.set m.OD.toNat (m.N.getD 2 0).toNat,next:=c.next.set m.OD.toNat (max (m.N.getD 2 0).toNat (c.next.getD m.OD.toNat 0))} :=
  ⟨h.u.Yx h.u.own h.u.n h.u.Ow h.u.OC h.u.Oz h.u.agreed h.u.many h.u.Oy h.u.OB (by show s.next.set _ _=_;rw [h.u.next];rfl) (by show s.OE.set _ _=_;rw [h.u.OE];rfl) h.u.Ox h.u.OA h.u.heard rfl rfl rfl rfl,h.UT⟩
 obtain ⟨g1,g2⟩:=mx hz h2;have hl:=g2.u.len;have Sh:=g2.u.next;have hlw:=ir g2.u m.OD.toNat;have Up:=mK g2.u _ _ (λi=>ir g2.u i);have hlay:=ir h1.u m.OD.toNat;unfold cG X.answered;have hP:(!s.Oy || !((du f m).N.getD 0 0==s.Ow) || !((du f m).N.length==3)||decide ((du f m).N.getD 2 0<0)||decide ((s.Oz.length:Int)<(du f m).N.getD 2 0))=(!c.Oy || !(m.N.getD 0 0==c.Ow) || !(m.N.length==3)||decide (m.N.getD 2 0<0)||decide ((c.Oz.length:Int)<m.N.getD 2 0)):=by rw [h.u.Oy,h.u.Ow,h.u.len];rfl
 rw [hP];by_cases q1:(!c.Oy || !(m.N.getD 0 0==c.Ow) || !(m.N.length==3)||decide (m.N.getD 2 0<0)||decide ((c.Oz.length:Int)<m.N.getD 2 0))=true
 ·rw [ay q1,ay q1];exact fd h
 ·rw [am q1,am q1];by_cases q2:m.N.getD 1 0=0
  ·rw [ay q2,ay (show (du f m).N.getD 1 0=0 from q2)];by_cases q3:c.next.getD m.OD.toNat 0<=(m.N.getD 2 0).toNat
   ·rw [ay q3,ay (show s.next.getD (du f m).OD.toNat 0<=((du f m).N.getD 2 0).toNat by rw [h.u.next];exact q3)];exact fd h
   ·rw [am q3,am (show ¬s.next.getD (du f m).OD.toNat 0<=((du f m).N.getD 2 0).toNat by rw [h.u.next];exact q3)];exact iG h1 hlay
  ·rw [am q2,am (show ¬(du f m).N.getD 1 0=0 from q2)];by_cases q3:(m.N.getD 2 0).toNat<=c.OE.getD m.OD.toNat 0
   ·rw [ay q3,ay (show ((du f m).N.getD 2 0).toNat<=s.OE.getD (du f m).OD.toNat 0 by rw [h.u.OE];exact q3)];exact fd h
   ·rw [am q3,am (show ¬((du f m).N.getD 2 0).toNat<=s.OE.getD (du f m).OD.toNat 0 by rw [h.u.OE];exact q3)];by_cases q4:(X.settle z { c with OE:=c.OE.set m.OD.toNat (m.N.getD 2 0).toNat,next:=c.next.set m.OD.toNat (max (m.N.getD 2 0).toNat (c.next.getD m.OD.toNat 0))}).1=true
    ·rw [ay q4,ay (g1.trans q4)];exact ⟨Up,g2⟩
    ·rw [am q4,am (λx=>q4 (g1.symm.trans x))];by_cases q5:(X.settle z { c with OE:=c.OE.set m.OD.toNat (m.N.getD 2 0).toNat,next:=c.next.set m.OD.toNat (max (m.N.getD 2 0).toNat (c.next.getD m.OD.toNat 0))}).2.next.getD m.OD.toNat 0<(X.settle z { c with OE:=c.OE.set m.OD.toNat (m.N.getD 2 0).toNat,next:=c.next.set m.OD.toNat (max (m.N.getD 2 0).toNat (c.next.getD m.OD.toNat 0))}).2.Oz.length
     ·rw [ay q5,ay]
      ·exact iG g2 hlw
      ·have:=q5;rw [<-hl,<-Sh] at this;exact this
     ·rw [am q5,am]
      ·exact fd g2
      ·intro x;apply q5;rw [<-hl,<-Sh];exact x
end
end
section
variable {ρ:Type} {f:ρ->List UInt8} {z:ρ->Bool} {e:ρ} {s:Rp} {k:Dk} {c:X.Nd ρ}
theorem sY (hz:∀x,z x=(f x).isEmpty) (he:f e=[]) (hf:∀x,(f x).length<=300) (h:Rel f s k c) (hc:c.cnt<=3000) (m:X.Ms ρ) (hb:m.B.length<=20) (PF:(X.OJ z e c m).2.bad=false) :
  Qf f (if (du f m).kind=1 then eX s k (du f m) else if (du f m).kind=2 then fS s k (du f m) else if (du f m).kind=3 then eA s k (du f m) else if (du f m).kind=4 then ((cG s (du f m)).1,(cG s (du f m)).2,k)
   else if (du f m).kind=5 then (if (du f m).N.length=3 then ([],{ s with heard:=s.heard.set (du f m).OD.toNat ((s.OA:Int),(du f m).N.getD 1 0,(du f m).N.getD 2 0)},k) else ([],s,k)) else ([],s,k)) (X.OJ z e c m):=by
 unfold X.OJ at PF ⊢;refine zM rfl (λ_=>B9 h az m) λq1=>?_;rw [am q1] at PF;refine zM rfl (λ_=>Af hz he h az m) λq2=>?_;rw [am q2] at PF;refine zM rfl (λq3=>?_) λq3=>?_
 ·grind [EE]
 ·refine zM rfl (λ_=>uB hz h m) λ_=>?_;refine zM rfl (λ_=>?_) λ_=>fd h;refine zM rfl (λ_=>?_) λ_=>fd h;refine fd ⟨h.u.Yx h.u.own h.u.n h.u.Ow h.u.OC h.u.Oz h.u.agreed h.u.many h.u.Oy h.u.OB h.u.next h.u.OE h.u.Ox h.u.OA ?_ rfl rfl rfl rfl,h.UT⟩;rw [h.u.heard,h.u.OA];rfl
theorem ov (hz:∀x,z x=(f x).isEmpty) (he:f e=[]) (hf:∀x,(f x).length<=300) (h:Rel f s k c) (hc:c.cnt<=2990) (m:X.Ms ρ) (hb:m.B.length<=20) (PF:(X.get z e c m).2.bad=false):Qf f (gJ s k (du f m)) (X.get z e c m):=by
 have hbm:pD s (du f m)=X.kQ c m:=by
  unfold pD X.kQ;rw [h.u.own,h.u.n];rfl
 unfold gJ;unfold X.get at PF ⊢;simp only;rw [h.u.SM.2,hbm];by_cases q1:X.kQ c m=true
 ·grind [fd]
 ·rw [am q1] at PF ⊢;rw [am (by rw [h.u.done];simpa using q1)];by_cases q2:c.Ow<m.N.getD 0 0
  ·rw [ay q2] at PF ⊢;rw [ay (show s.Ow<(du f m).N.getD 0 0 by rw [h.u.Ow];exact q2)];obtain ⟨s1,k1,e1,h1⟩:=py h.u (m.N.getD 0 0) (-1) az;have e2:bB s k ((du f m).N.getD 0 0) (-1)=(true,s1,k1):=e1;rw [e2];exact sY hz he hf h1 (by show c.cnt+1<=3000;omega) m hb PF
  ·rw [am q2] at PF ⊢;rw [am (show ¬s.Ow<(du f m).N.getD 0 0 by rw [h.u.Ow];exact q2)];exact sY hz he hf h az m hb PF
theorem Hs (l:List (List UInt8)):ET l (F.aY l).length=l.length:=by
 induction l with
 | nil=>rfl
 | cons a l ih =>
  unfold ET;rw [F.fe,aE,F.dG,ay az,aX];rw [show 12+a.length+(F.aY l).length - (12+a.length)=(F.aY l).length from by omega,ih]
theorem oB (h:uH k) (keep:Int):dI k keep={ k with off:=true }:=by
 unfold dI rE;cases hk:k.file with
 | none=>rfl
 | some p =>
  obtain ⟨l,q⟩:=p;have:=h l q hk;subst this;have e:stays l l.length keep=l.length:=by unfold stays;omega
  simp only;rw [e,bW]
theorem FK (h:Rel f s k c) (hu:XI s k) (keep:Int):Rel f (f9 s.own s.n s (dI k keep)) (gb s (dI k keep)) (X.back c):=by
 have hd:=hu.Qm keep;rw [oB h.UT] at hd ⊢;have hfil:fU { k with off:=true }=F.aY s.wl.recs:=hu.wf.Uv;have hR:eW s { k with off:=true }=s.wl.recs:=by
  unfold eW;rw [hfil,Hs,bW]
 obtain ⟨ns,g1,g2,g3⟩:=hu.nok.ex;obtain ⟨m1,m2,m3⟩:=g3 h.u.done;obtain ⟨ht,hr,VM,ns',hb,PO,YT,hns⟩:=uA hd;rw [hR] at PO hb;have RN:=lf (dX s.own s.n (k.lives+1) s.wl.recs) (jT s.n) rfl rfl rfl rfl ns;have hN:(s.wl.recs).map oc=ns:=by
  rw [g1];refine nW (jT s.n) ns g2 ?_ (aP _) Ha hu.wf.n5;have e1:ns.length=ns'.length:=by
   grind
  show 0+_<=_;omega
 have hS:f9 s.own s.n s { k with off:=true }=da (dX s.own s.n (k.lives+1) s.wl.recs) ns:=by
  unfold f9;rw [hR,hN]
 obtain ⟨t,ch,g,er⟩:=gM (dX s.own s.n (k.lives+1) s.wl.recs) ns;rw [er] at RN hS;have ht':t=c.Ow:=(RN.1.trans m1).trans h.u.Ow;have hc':ch=c.OC:=(RN.2.1.trans m2).trans h.u.OC;have hg':g=c.Oz.map (sQ f):=(RN.2.2.1.trans m3).trans h.u.Oz;have hK:gb s { k with off:=true }={ k with off:=false,lives:=k.lives+1 }:=by
  unfold gb fJ LG;rw [hR];cases hf:k.file with
  | none=>simp [hf]
  | some p =>
   obtain ⟨l,q⟩:=p;have e1:l=F.aY s.wl.recs:=by
    grind [fU]
   have e2:=h.UT l q hf;simp only [hf];rw [e2,e1,tv]
 rw [hS,hK];have ho:=h.u.own;have hn:=h.u.n;refine ⟨⟨ho,hn,ht',hc',hg',rfl,rfl,rfl,?_,?_,?_,rfl,rfl,?_,rfl,rfl,rfl,rfl,rfl,h.u.room,h.u.RQ⟩,h.UT⟩
 ·show List.replicate s.n false=List.replicate c.n false;rw [hn]
 ·show List.replicate s.n 0=List.replicate c.n 0;rw [hn]
 ·show List.replicate s.n 0=List.replicate c.n 0;rw [hn]
 ·show List.replicate s.n (0,0,0)=List.replicate c.n (0,0,0);rw [hn]
end
end Go.Proofs.YtnhefallmioefaaGreat
namespace Go.Proofs.YtnhefallmioefaaGreat.X
set_option maxRecDepth 20000
section
variable {ρ:Type} (z:ρ->Bool) (e:ρ)
def gF (q:List (Ms ρ)) (m:Ms ρ):List (Ms ρ):=if q.length<2000 then q++[m] else q
end
end Go.Proofs.YtnhefallmioefaaGreat.X
namespace Go.Proofs.YtnhefallmioefaaGreat
set_option maxRecDepth 20000
namespace X
section
variable {ρ:Type} {z:ρ->Bool} {e:ρ}
end
end X
section
variable {ρ:Type} {f:ρ->List UInt8} {z:ρ->Bool} {e:ρ} {n cl lv:Nat} {S:Mn}
theorem FT (q:List (X.Ms ρ)) (m:X.Ms ρ):gF (q.map (du f)) (du f m)=(X.gF q m).map (du f):=by
 unfold gF X.gF;exact IV
section
variable (hz:∀x,z x=(f x).isEmpty) (he:f e=[]) (hf:∀x,(f x).length<=300)
end
end
section
variable {ρ:Type} {f:ρ->List UInt8} {z:ρ->Bool} {e:ρ} {n cl lv:Nat} {S:Mn}
section
variable (hz:∀x,z x=(f x).isEmpty) (he:f e=[]) (hf:∀x,(f x).length<=300)
end
section
end
end
namespace X
section
variable {ρ:Type} {z:ρ->Bool} {e:ρ} {n F:Nat} {T T':Cs ρ} {m:Ms ρ}
def Uy (T T':Cs ρ):Prop:=∀i,Mo (T.nd i) (T'.nd i)
theorem Uy.refl (T:Cs ρ):Uy T T:=λ_=>Mo.refl _
theorem Uy.trans {A B C:Cs ρ} (h:Uy A B) (g:Uy B C):Uy A C:=λi=>(h i).trans (g i)
theorem wV (i:Nat) (r:List (Ms ρ)×Nd ρ) (h:Mo (T.nd i) r.2):Uy T (T.call i r):=λj=>by
 rw [bf];split
 ·rename_i e1;subst e1;exact h
 ·exact Mo.refl _
theorem Fz (i:Nat):Uy T (T.tick z e i):=by
 grind [Cs.tick,wV,zC,Uy.refl]
theorem tj (k:Nat):Uy T (T.Ox z e k):=by
 induction k with
 | zero=>exact Uy.refl _
 | succ k ih =>
  have e0:T.Ox z e (k+1)=(T.Ox z e k).tick z e k:=Et;rw [e0];exact ih.trans (Fz k)
theorem tl (m:Ms ρ):Uy T (T.bring z e m):=by
 grind [Cs.bring,wV,Ef,Uy.refl]
theorem lR (k:Nat):∀T:Cs ρ,Uy T (Cs.drain z e k T):=by
 induction k with
 | zero=>exact λT=>Uy.refl _
 | succ k ih =>
  intro T;cases hq:T.q with
  | nil=>rw [eO _ hq];exact Uy.refl _
  | cons m q =>
   rw [fo k hq];have h1:Uy T (T.wq q):=λ_=>Mo.refl _;exact h1.trans ((tl m).trans (ih _))
theorem Ip:Uy T (T.Sr z e n F):=(tj n).trans (lR F _)
theorem FA (k:Nat):Uy T (T.OG z e n F k):=by
 induction k with
 | zero=>exact Uy.refl _
 | succ k ih=>exact ih.trans Ip
end
end X
structure Pq {ρ:Type} (f:ρ->List UInt8) (n:Nat) (S:Mn) (T:X.Cs ρ):Prop where
 q:S.q=T.q.map (du f)
 bad:S.bad=false
 len:S.nodes.length=n
 up:∀i,i<n->(S.at i).up=T.up i
 nd:∀i,i<n->T.up i=true->Rel f (S.at i).s (S.at i).k (T.nd i)
 dn:∀i,i<n->T.up i=false->∃k keep,(S.at i).k=dI k keep/\Rel f (S.at i).s k (T.nd i)/\XI (S.at i).s k
section
variable {ρ:Type} {f:ρ->List UInt8} {z:ρ->Bool} {e:ρ} {n cl lv:Nat} {S:Mn} {T:X.Cs ρ} {b:Int}
theorem pW (ms:List (X.Ms ρ)):∀q:List (X.Ms ρ),q.length+ms.length<=2000->(ms.map (du f)).foldl gF (q.map (du f))=(q++ms).map (du f):=by
 induction ms with
 | nil=>intro q _;simp
 | cons a l ih =>
  intro q h;rw [aX] at h;rw [bJ,gS,FT];have:X.gF q a=q++[a]:=by unfold X.gF;rw [ay az]
  rw [this,ih _ (by rw [aE];simp;omega)];simp
theorem Pq.turn (h:Pq f n S T) (i:Nat) (hi:i<n) (hu:T.up i=true) {p:List OM×Rp×Dk} {q:List (X.Ms ρ)×X.Nd ρ} (hp:Qf f p q) (hl:(T.call i q).q.length<=2000):Pq f n ((S.set i ⟨p.2.1,p.2.2,true⟩).send p.1) (T.call i q):=by
 have hat:=λj=>Mn.at_set S i j ⟨p.2.1,p.2.2,true⟩ (by rw [h.len];exact hi);refine ⟨?_,h.bad,by simp [Mn.send,Mn.set,h.len],λj hj=>?_,λj hj PU=>?_,λj hj PU=>?_⟩
 ·show p.1.foldl gF S.q=(T.q++q.1).map (du f);rw [X.dS,aE] at hl;rw [hp.ms,h.q,pW q.1 T.q hl]
 ·show ((S.set i ⟨p.2.1,p.2.2,true⟩).at j).up=T.up j;rw [hat];split
  ·rename_i e1;subst e1;exact hu.symm
  ·exact h.up j hj
 ·show Rel f ((S.set i ⟨p.2.1,p.2.2,true⟩).at j).s ((S.set i ⟨p.2.1,p.2.2,true⟩).at j).k ((T.call i q).nd j);rw [hat,X.bf];split
  ·exact hp.rel
  ·exact h.nd j hj PU
 ·show ∃k keep,((S.set i ⟨p.2.1,p.2.2,true⟩).at j).k=dI k keep/\Rel f ((S.set i ⟨p.2.1,p.2.2,true⟩).at j).s k ((T.call i q).nd j)/\XI ((S.set i ⟨p.2.1,p.2.2,true⟩).at j).s k;rw [hat,X.bf];split
  ·rename_i e1;subst e1;have PU:T.up j=false:=PU;rw [hu] at PU;cases PU
  ·exact h.dn j hj PU
section
variable (hz:∀x,z x=(f x).isEmpty) (he:f e=[]) (hf:∀x,(f x).length<=300)
include hz he
include hf
end
end
end Go.Proofs.YtnhefallmioefaaGreat
namespace Go.Proofs.YtnhefallmioefaaGreat.X
set_option maxRecDepth 20000
section
variable {ρ:Type} {z:ρ->Bool} {e:ρ}
variable {n i a c:Nat} {b M:Int} {T T':Cs ρ} {G:Gh ρ} {m:Ms ρ} {s s':Nd ρ} {r:List (Ms ρ)×Nd ρ} {ms q:List (Ms ρ)}
def Cs.PY (z:ρ->Bool) (T:Cs ρ) (i:Nat) (x:ρ):Cs ρ:=if T.up i then T.call i ((X.OH z (T.nd i) x).1,(X.OH z (T.nd i) x).2.2) else T
def Cs.down (T:Cs ρ) (i:Nat):Cs ρ:=⟨T.nd,λj=>if j=i then false else T.up j,T.q,T.lo⟩
def Cs.QE (T:Cs ρ) (i:Nat):Cs ρ:=if T.up i then T else ⟨λj=>if j=i then X.back (T.nd i) else T.nd j,λj=>if j=i then true else T.up j,T.q,T.lo⟩
theorem Wk.Yu (h:Wk z n b T) (hq:∀x∈q,x∈T.q):Wk z n b (T.wq q):=by
 obtain ⟨G,h⟩:=h;exact ⟨G,h.gi,h.ni,h.ln,λm hm=>h.mi m (hq m hm),h.up,h.tb,h.lo⟩
theorem Wk.down (h:Wk z n b T) (i:Nat):Wk z n b (T.down i):=by
 obtain ⟨G,h⟩:=h;refine ⟨G,h.gi,h.ni,h.ln,h.mi,λj hj=>?_,h.tb,h.lo⟩;have hj:(if j=i then false else T.up j)=true:=hj;split at hj
 ·cases hj
 ·exact h.up j hj
theorem Wk.QE (h:Wk z n b T) (hi:i<n):Wk z n b (T.QE i):=by
 obtain ⟨G,h⟩:=h;unfold Cs.QE;split
 ·exact ⟨G,h⟩
 ·refine ⟨G,h.gi,λj hj=>?_,λj hj=>?_,h.mi,λj hj=>?_,λj hj=>?_,h.lo⟩
  ·show NI z n G j (if j=i then X.back (T.nd i) else T.nd j);split
   ·rename_i e1;subst e1;exact (h.ni j hj).back
   ·exact h.ni j hj
  ·grind [LN.back,h.ln]
  ·have hj:(if j=i then true else T.up j)=true:=hj;split at hj
   ·rename_i e1;subst e1;exact hi
   ·exact h.up j hj
  ·show (if j=i then X.back (T.nd i) else T.nd j).Ow<=b;split
   ·exact h.tb i hi
   ·exact h.tb j hj
theorem Wk.U4 (h:Wk z n b T) (hb:b+1<=1099511627776) (hi:i<n):Wk z n (b+1) (T.tick z e i):=by
 have hk:=h.tk (e:=e) hb i hi;obtain ⟨G,h⟩:=h;unfold Cs.tick;split
 ·have OP:=h.ni i hi;have SV:=h.tb i hi;obtain ⟨G0,h0⟩:=Wk.mono (b':=b+1) ⟨G,h⟩ az;have hni0:=h0.ni i hi;obtain ⟨G',_,h2⟩:=h0.call (i:=i) hi (tH (e:=e) h0.gi hni0) ((h0.ln i hi).tick p8) (by rcases hk.1.Ow with g | g<;>omega) (λx hx=>by
   obtain ⟨o1,o2,o3,⟨d,d1,d2,d3⟩,_⟩:=hk.1.out x hx;have UX:=OP.t0;rw [OP.nn] at d1;rw [OP.own] at d2 o1;exact ⟨⟨d,i,d1,hi,by omega,d3,o1⟩,o3,by rw [o2];rcases hk.1.Ow with g | g<;>omega,by rw [o2];rcases hk.1.Ow with g | g<;>omega⟩)
  exact ⟨G',h2⟩
 ·exact Wk.mono ⟨G,h⟩ az
structure Sub (z:ρ->Bool) (s:Nd ρ) (r:List (Ms ρ)×Nd ρ):Prop where
 out:∀x∈r.1,∃d:Nat,d<s.n/\d≠s.own/\x=bI r.2 d
 own:r.2.own=s.own
 Oy:r.2.Oy=s.Oy
 l1:r.1≠[]->s.Oy=true
 Ow:r.2.Ow=s.Ow
 num:s.own<s.n->r.1.length+1<=s.n
 len:r.2.Oz.length<=s.Oz.length+1
theorem ko (x:ρ):Sub z s ((X.OH z s x).1,(X.OH z s x).2.2):=by
 unfold X.OH;split
 ·exact Mb
 ·rename_i hl;split
  ·exact Mb
  ·obtain ⟨g1,g2,g3,g4,g5,g6,g7,g8,_⟩:=df (z:=z) (s:=place s s.Oz.length (s.Ow,x));have hl:s.Oy=true:=by simpa using hl
   refine ⟨λy hy=>?_,g1,g5,λ_=>hl,g6,λh=>?_,?_⟩
   ·obtain ⟨d,d1,d2,rfl⟩:=cT _ _ _ hy;rw [g2] at d1;rw [g1] at d2;exact ⟨d,d1,d2,rfl⟩
   ·have:=gd (X.settle z (place s s.Oz.length (s.Ow,x))).2 (bI (X.settle z (place s s.Oz.length (s.Ow,x))).2) (by rw [g1,g2];exact h);rw [g2] at this;exact this
   ·grind [place]
theorem Wk.PY (h:Wk z n b T) (hi:i<n) (x:ρ):Wk z n b (T.PY z i x):=by
 obtain ⟨G,h⟩:=h;unfold Cs.PY;split
 ·have OP:=h.ni i hi;have hs:=ko (z:=z) (s:=T.nd i) x;have UX:=OP.t0;have SV:=h.tb i hi;obtain ⟨G',_,h2⟩:=h.call (i:=i) hi (oW h.gi OP x) ((h.ln i hi).OH p8 x) (by rw [hs.Ow];exact SV) (λy hy=>by
   obtain ⟨d,d1,d2,rfl⟩:=hs.out y hy;obtain ⟨p1,p2,p3,p4,p5,p6,p7⟩:=fx (X.OH z (T.nd i) x).2.2 d;have ht:(X.OH z (T.nd i) x).2.2.Ow=(T.nd i).Ow:=hs.Ow;have ho:(X.OH z (T.nd i) x).2.2.own=(T.nd i).own:=hs.own;rw [OP.nn] at d1;rw [OP.own] at d2;exact ⟨⟨d,i,d1,hi,F5 d2,p2,by rw [p3,ho,OP.own]⟩,by unfold bI;simp,by rw [p4,ht];exact UX,by rw [p4,ht];exact SV⟩)
  exact ⟨G',h2⟩
 ·exact ⟨G,h⟩
theorem Wk.comes (h:Wk z n b T) (hb:b<=1099511627776) (hm:m∈T.q) (hq:∀x∈q,x∈T.q):Wk z n b ((T.wq q).bring z e m)/\∃i,i<n/\m.dst=(i:Int)/\QM (T.nd i) m (X.get z e (T.nd i) m)/\(T.up i=true->(T.wq q).bring z e m=(T.wq q).call i (X.get z e (T.nd i) m))/\(T.up i=false->(T.wq q).bring z e m=T.wq q):=by
 obtain ⟨G,hG⟩:=h;have hwm:UL z [m] n b (T.wq q):=⟨G,⟨hG.gi,hG.ni,hG.ln,λx hx=>hG.mi x (hq x hx),hG.up,hG.tb,hG.lo⟩,λx hx=>by rw [aj.1 hx];exact hG.mi m hm⟩
 obtain ⟨h1,i,h2,h3,h4,h5,h6⟩:=hwm.take (e:=e) hb bd;exact ⟨h1.wk,i,h2,h3,h4,h5,h6⟩
end
section
variable {ρ:Type} {z:ρ->Bool} {e:ρ}
variable {n i a c c':Nat} {b M:Int} {T T':Cs ρ} {G:Gh ρ} {m:Ms ρ} {s s':Nd ρ} {r:List (Ms ρ)×Nd ρ} {ms q:List (Ms ρ)}
structure AI (z:ρ->Bool) (n a c:Nat) (T:Cs ρ):Prop where
 wk:Wk z n a T
 ql:T.q.length<=4*a
 ca:c<=a
 lg:∀i,i<n->(T.nd i).Oz.length<=c
 ms:∀m∈T.q,m.kind=3->(m.N.getD 1 0).toNat+m.B.length<=c
 b20:∀m∈T.q,m.B.length<=20
 pl:∀i,i<n->pl (T.nd i)<=(((a - c)*min 20 c+c:Nat):Int)
theorem IJ (h:c<=a):(a - c)*min 20 c+c+min 20 c=(a+1 - c)*min 20 c+c:=by
 rw [show a+1 - c=(a - c)+1 by omega,nD];omega
theorem LR (h:c<=a):(a - c)*min 20 c+c+1<=(a+1 - (c+1))*min 20 (c+1)+(c+1):=by
 rw [show a+1 - (c+1)=a - c by omega];have:=fi (a - c) (show min 20 c<=min 20 (c+1) by omega);omega
theorem LQ:∀c,c<91->(90 - c)*min 20 c+c<=1420:=dZ
theorem room (h1:c<=a) (h2:a<=90):(a - c)*min 20 c+c<=1420:=by
 have h3:=LQ c az;have:=jM (min 20 c) (show a - c<=90 - c by omega);omega
theorem AI.same (h:AI z n a c T) (hw:Wk z n (a+1:Nat) T') (hq:∀x∈T'.q,x∈T.q) (hl:T'.q.length<=T.q.length+1) (hn:∀i,i<n->(T'.nd i).Oz=(T.nd i).Oz/\X.pl (T'.nd i)<=X.pl (T.nd i)):AI z n (a+1) c T' :=
 ⟨hw,by have:=h.ql;omega,by have:=h.ca;omega,λi hi=>by rw [(hn i hi).1];exact h.lg i hi,λm hm=>h.ms m (hq m hm),λm hm=>h.b20 m (hq m hm),λi hi=>by
  have h1:=h.pl i hi;have h2:=(hn i hi).2;have h3:=IJ h.ca;omega⟩
theorem AI.call (h:AI z n a c T) (hi:i<n) (hq:∀x∈q,x∈T.q) (Vb:q.length<=T.q.length) (hw:Wk z n (a+1:Nat) ((T.wq q).call i r)) (RX:r.1.length<=4) (hout:∀x∈r.1,x.B.length<=20/\(x.kind=3->r.2.Oy=true/\x.N.getD 0 0=r.2.Ow))
  (hc:(c'=c/\r.2.Oz.length<=c/\X.pl r.2<=X.pl (T.nd i)+(min 20 c:Nat))\/(c'=c+1/\r.2.Oz.length<=c+1/\X.pl r.2<=X.pl (T.nd i)+1)):AI z n (a+1) c' ((T.wq q).call i r):=by
 have hlen:r.2.Oz.length<=c':=by rcases hc with ⟨g,g2,_⟩ | ⟨g,g2,_⟩<;>omega
 have h3:=IJ h.ca;have h4:=LR h.ca;refine ⟨hw,?_,by have:=h.ca;omega,λj hj=>?_,λm hm hk=>?_,λm hm=>?_,λj hj=>?_⟩
 ·rw [dS,aE];have:=h.ql;show q.length+_<=_;omega
 ·rw [bf];split
  ·exact hlen
  ·have:=h.lg j hj;show (T.nd j).Oz.length<=c';omega
 ·rw [dS] at hm;rcases aA.1 hm with hm | hm
  ·have:=h.ms m (hq m hm) hk;omega
  ·obtain ⟨o1,o2⟩:=(hout m hm).2 hk;obtain ⟨G,hG⟩:=hw;have e1:((T.wq q).call i r).nd i=r.2:=Bp;have:=qh hG hi (by rw [e1];exact o1) (x:=m) (by rw [dS];exact aR _ hm) hk (by rw [e1];exact o2);rw [e1] at this;omega
 ·rw [dS] at hm;rcases aA.1 hm with hm | hm
  ·exact h.b20 m (hq m hm)
  ·exact (hout m hm).1
 ·have hold:=h.pl j hj;rw [bf];rcases hc with ⟨g,_,g2⟩ | ⟨g,_,g2⟩
  ·exact Jl
  ·exact Jl
theorem C5 (hn:s.own<s.n) (ht:s.Ow<1099511627776):(X.tick z e s).2.Oz.length<=s.Oz.length+(if s.n=1 then 1 else 0):=by
 rcases dT (z:=z) (e:=e) s with ⟨h1,h2⟩ | ⟨h1,h2,h3,h4⟩ | ⟨h1,h2,h3,h4⟩ | ⟨h1,h2,h3,h4⟩
 ·rw [h2];exact fy _ _
 ·rw [h4,fu hn ht];split
  ·rw [(ee (z:=z) (e:=e) (dc s)).len];exact ah _
  ·exact ah _
 ·rw [h4];exact fy _ _
 ·rw [h4];exact fy _ _
theorem AI.tick (h:AI z n a c T) (hn:n<=5) (ha:a<=1000) (hi:i<n):∃c',AI z n (a+1) c' (T.tick z e i):=by
 have hw:=h.wk.U4 (e:=e) az hi;obtain ⟨tk,ho,Tb⟩:=h.wk.tk (e:=e) az i hi;obtain ⟨G,hG⟩:=h.wk;have SV:=hG.tb i hi;unfold Cs.tick at hw ⊢;split at hw
 ·rename_i hu;rw [ay hu];have h1:=C5 (z:=z) (e:=e) (s:=T.nd i) (by rw [ho,Tb];exact hi) az;have h2:=za (z:=z) (e:=e) (s:=T.nd i) (by rw [ho,Tb];exact hi) az;have h3:=(zc (z:=z) (e:=e) (s:=T.nd i) 0 (by rw [ho,Tb];exact hi) az).2;have h4:=h.lg i hi;have h5:=tk.num;have hout:∀x∈(X.tick z e (T.nd i)).1,x.B.length<=20/\(x.kind=3->(X.tick z e (T.nd i)).2.Oy=true/\x.N.getD 0 0=(X.tick z e (T.nd i)).2.Ow):=λx hx=>by
   obtain ⟨_,o2,_,_,o⟩:=tk.out x hx;refine ⟨h3 x hx,λhk=>?_⟩;exact IW
  by_cases h6:(T.nd i).n=1
  ·rw [ay h6] at h1 h2;exact ⟨c+1,h.call (q:=T.q) hi (λx hx=>hx) (ah _) hw az hout (.inr ⟨rfl,by omega,h2⟩)⟩
  ·rw [am h6] at h1 h2;exact ⟨c,h.call (q:=T.q) hi (λx hx=>hx) (ah _) hw az hout (.inl ⟨rfl,by omega,by omega⟩)⟩
 ·rename_i hu;rw [am hu];exact ⟨c,h.same hw (λx hx=>hx) (cZ _) λj hj=>⟨rfl,aP _⟩⟩
theorem AI.PY (h:AI z n a c T) (hn:n<=5) (hi:i<n) (x:ρ):AI z n (a+1) (c+1) (T.PY z i x)\/AI z n (a+1) c (T.PY z i x):=by
 have hw:=(h.wk.PY hi x).mono (b':=((a+1:Nat):Int)) az;obtain ⟨G,hG⟩:=h.wk;have OP:=hG.ni i hi;unfold Cs.PY at hw ⊢;split at hw
 ·rename_i hu;rw [ay hu];have hs:=ko (z:=z) (s:=T.nd i) x;have h2:=sA (z:=z) (s:=T.nd i) x;have h4:=h.lg i hi;have h5:=hs.num p8;have hlen:=hs.len;refine .inl (h.call (q:=T.q) hi (λx hx=>hx) (ah _) hw (by rw [OP.nn] at h5;omega) (λy hy=>?_) (.inr ⟨rfl,by omega,h2⟩));obtain ⟨d,d1,d2,rfl⟩:=hs.out y hy;refine ⟨pm _ _,λ_=>⟨?_,rfl⟩⟩;rw [hs.Oy];exact hs.l1 (List.ne_nil_of_mem hy)
 ·rename_i hu;rw [am hu];exact .inr (h.same hw (λx hx=>hx) (cZ _) λj hj=>⟨rfl,aP _⟩)
theorem AI.comes (h:AI z n a c T) (hn:n<=5) (ha:a<=1000) (hm:m∈T.q) (hq:∀x∈q,x∈T.q) (Vb:q.length<=T.q.length):∃c',AI z n (a+1) c' ((T.wq q).bring z e m):=by
 obtain ⟨hw,i,hi,hd,hg,h1,h2⟩:=h.wk.comes (e:=e) az hm hq;have hw:=hw.mono (b':=((a+1:Nat):Int)) az;have hf:=(h.wk.fm hm).frm0.1;cases hu:T.up i with
 | false =>
  rw [h2 hu] at hw ⊢;exact ⟨c,h.same hw hq (by show q.length<=_;omega) λj hj=>⟨rfl,aP _⟩⟩
 | true =>
  rw [h1 hu] at hw ⊢;obtain ⟨G,hG⟩:=h.wk;have OP:=hG.ni i hi;have RX:=hg.num;rw [OP.nn] at RX;have hp:=(m0 (z:=z) (e:=e) (s:=T.nd i) hf).1;have hB:=(yD (z:=z) (e:=e) (s:=T.nd i) (m:=m) 0).2.2;have gl:=(na (z:=z) (e:=e) (s:=T.nd i) (m:=m)).len;have YM:=h.lg i hi;have hout:∀x∈(X.get z e (T.nd i) m).1,x.B.length<=20/\(x.kind=3->(X.get z e (T.nd i) m).2.Oy=true/\x.N.getD 0 0=(X.get z e (T.nd i) m).2.Ow):=λx hx=>by
   obtain ⟨_,o2,_,_,o5⟩:=hg.out x hx;exact ⟨hB x hx,λhk=>⟨o5 hk,o2⟩⟩
  have h20:=h.b20 m hm;by_cases h3:m.kind=3
  ·have Rn:=h.ms m hm h3;rw [ay h3] at hp gl;refine ⟨c,h.call hi hq Vb hw KN hout (.inl ⟨rfl,?_,by omega⟩)⟩;rcases gl with g | g
   ·omega
   ·omega
  ·rw [am h3] at hp gl;by_cases hk2:m.kind=2
   ·rw [ay hk2] at hp;refine ⟨c+1,h.call hi hq Vb hw KN hout (.inr ⟨rfl,?_,hp⟩)⟩;rcases gl with g | g<;>omega
   ·rw [am hk2] at hp;refine ⟨c,h.call hi hq Vb hw KN hout (.inl ⟨rfl,?_,by omega⟩)⟩;rcases gl with g | g<;>omega
theorem AI.down (h:AI z n a c T) (i:Nat):AI z n (a+1) c (T.down i) :=
 h.same ((h.wk.down i).mono az) (λ_ hx=>hx) (cZ _) λ_ _=>⟨rfl,aP _⟩
theorem AI.QE (h:AI z n a c T) (hi:i<n):AI z n (a+1) c (T.QE i):=by
 have hw:=(h.wk.QE hi).mono (b':=((a+1:Nat):Int)) az;refine h.same hw (λx hx=>?_) ?_ λj hj=>?_
 ·grind [Cs.QE]
 ·unfold Cs.QE;split<;>exact cZ _
 ·unfold Cs.QE;split
  ·exact ⟨rfl,aP _⟩
  ·show (if j=i then X.back (T.nd i) else T.nd j).Oz=_/\X.pl (if j=i then X.back (T.nd i) else T.nd j)<=_;split
   ·rename_i e1;subst e1;exact ⟨rfl,nI zY⟩
   ·exact ⟨rfl,aP _⟩
end
end Go.Proofs.YtnhefallmioefaaGreat.X
