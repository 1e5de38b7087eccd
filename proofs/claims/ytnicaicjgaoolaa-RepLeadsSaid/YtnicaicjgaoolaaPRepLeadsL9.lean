/-
  What the proof of the law leans on: contracts of the program's functions, one behind another. No condition.
-/
import Derived.Test.YtnicaicjgaoolaaU0
import Derived.Test.YtnicaicjgaoolaaPRepLeadsL8
set_option linter.unusedVariables false
set_option linter.unusedSimpArgs false
namespace Go.Proofs.Ytnicaicjgaoolaa.X
set_option maxRecDepth 20000
section
variable {ρ:Type} {z:ρ->Bool} {e:ρ}
variable {n i F l len:Nat} {b b' M T:Int} {S S' S0 S1 S2 S3:Cs ρ} {G:Gh ρ} {m:Ms ρ} {s:Nd ρ} {r:List (Ms ρ)×Nd ρ} {ms q:List (Ms ρ)} {Λ:Nat}
structure Ei (l len:Nat) (M:Int) (S:Cs ρ):Prop where
 u:S.up l=true
 lead:(S.nd l).leads=true
 ll:(S.nd l).log.length=len
 q3:∀x∈S.q,x.kind=3->x.frm=(l:Int)/\x.N.getD 0 0=M/\0<=x.N.getD 1 0/\x.N.getD 1 0<=(len:Int)/\x.B.length=min 20 (len - (x.N.getD 1 0).toNat)/\∀d:Nat,x.dst=(d:Int)->(((S.nd l).next.getD d 0:Nat):Int)<=x.N.getD 1 0\/(S.nd l).next.getD d 0=(S.nd l).mat.getD d 0
 q4:∀x∈S.q,x.kind=4->x.dst=(l:Int)/\x.N.getD 0 0=M/\x.N.getD 2 0<=(len:Int)/\(x.N.getD 1 0≠0->∀f:Nat,x.frm=(f:Int)->(((S.nd l).next.getD f 0:Nat):Int)<=x.N.getD 2 0\/(S.nd l).next.getD f 0=(S.nd l).mat.getD f 0)
 ef:∀j:Nat,S.up j=true->j≠l->(S.nd l).mat.getD j 0=len\/(∃x∈S.q,x.kind=3/\x.dst=(j:Int)/\x.N.getD 1 0=(((S.nd l).next.getD j 0:Nat):Int))\/(∃x∈S.q,x.kind=4/\x.frm=(j:Int)/\x.N.getD 1 0≠0/\(((S.nd l).mat.getD j 0:Nat):Int)<x.N.getD 2 0)\/(∃x∈S.q,x.kind=4/\x.frm=(j:Int)/\x.N.getD 1 0=0/\x.N.getD 2 0<(((S.nd l).next.getD j 0:Nat):Int))
theorem fM (s:Nd ρ) (d:Nat):(bI s d).kind=3/\(bI s d).dst=(d:Int)/\(bI s d).frm=(s.own:Int)/\(bI s d).N.getD 0 0=s.term/\(bI s d).N.getD 1 0=((s.next.getD d 0:Nat):Int)/\(bI s d).N.getD 3 0=(s.agreed:Int)/\(bI s d).B.length=min 20 (s.log.length - s.next.getD d 0):=by
 refine ⟨rfl,rfl,rfl,rfl,rfl,rfl,?_⟩;show (((s.log.drop (s.next.getD d 0)).take 20).map Prod.snd).length=_;rw [aQ,aE,bw]
theorem Ei.step (h:Ei l len M S) (hp:P3 z n b M S) (hn:n<=5) (hb:b<=1099511627776) (hq:S.q=m::q) (st:St3 z e n b M S m q ((S.wq q).bring z e m)):Ei l len M ((S.wq q).bring z e m):=by
 obtain ⟨i,c1,c2,c3,c4,c5⟩:=st.cut;have hmS:m∈S.q:=by rw [hq];exact aP
 have hsub:∀x∈q,x∈S.q:=λx hx=>by rw [hq];exact aI _ hx
 obtain ⟨G,hG⟩:=hp.wk;obtain ⟨mi,fm⟩:=hG.mi m hmS;have hln:=hG.up l h.u;have hnl:=hG.ni l hln;have hll:=hG.ln l hln;have hMl:=hp.ld l h.u h.lead;have hMp:1<=M:=by
  have:=(hG.gi.led _ _ (hnl.lds h.lead).1).2;rw [hMl] at this;exact this
 have rest:∀{P:Ms ρ->Prop},(∃x∈S.q,P x)->(∃x∈q,P x)\/P m:=λ⟨x,hx,hP⟩=>by
  grind
 have kl:=st.kp.lead l h.u h.lead;have ku:((S.wq q).bring z e m).up=S.up:=st.kp.up;rcases hp.kd m hmS with hk | ⟨hk,hN3,hN2⟩
 ·-- it is laid before another one
  obtain ⟨d1,d2,d3,d4,d5,d6⟩:=h.q3 m hmS hk;have hil:i≠l:=λe1=>by
   grind [fm.f]
  cases hu:S.up i with
  | false =>
   rw [c5 hu];refine ⟨h.u,h.lead,h.ll,λx hx=>h.q3 x (hsub x hx),λx hx=>h.q4 x (hsub x hx),λj hj hjl=>?_⟩;have hij:i≠j:=λe1=>by
    grind
   rcases h.ef j hj hjl with g | g | g | g
   ·exact .inl g
   ·rcases rest g with g | ⟨_,g,_⟩
    ·exact .inr (.inl g)
    ·omega
   ·rcases rest g with g | ⟨g,_⟩
    ·exact .inr (.inr (.inl g))
    ·omega
   ·rcases rest g with g | ⟨g,_⟩
    ·exact .inr (.inr (.inr g))
    ·omega
  | true =>
   obtain ⟨i5,_,e5,_,hfit⟩:=fm.fit hb (by omega);obtain rfl:i5=i:=by omega
   have hni:=hG.ni i5 c1;have hnotl:(S.nd i5).leads=false:=by
    grind [hG.one,h.lead,hp.ld]
   have hti:=hp.ub.nd i5 hu;obtain ⟨x,x1,x2,_⟩:=pa (z:=z) (e:=e) hG.gi hni hfit mi hk (by omega) (.inl hnotl);obtain ⟨y1,y2,y3,y4,y5⟩:=x2;have hbr:(S.wq q).bring z e m=(S.wq q).call i5 (X.get z e (S.nd i5) m):=c4 hu;have hql:((S.wq q).bring z e m).q=q++[x]:=by rw [hbr,dR,x1];rfl
   have hndl:((S.wq q).bring z e m).nd l=S.nd l:=by rw [hbr,bi,aw (ud hil)];rfl
   have hd6:=d6 i5 c2;have hxk:x.frm=(i5:Int):=by rw [y3,hni.own]
   refine ⟨by rw [ku];exact h.u,by rw [hndl];exact h.lead,by rw [hndl];exact h.ll,λw hw hk3=>?_,λw hw hk4=>?_,λj hj hjl=>?_⟩
   ·rw [hql] at hw;rw [hndl];rcases av.1 hw with hw | hw
    ·exact h.q3 w (hsub w hw) hk3
    ·rw [aj.1 hw] at hk3;omega
   ·rw [hql] at hw;rw [hndl];rcases av.1 hw with hw | hw
    ·exact h.q4 w (hsub w hw) hk4
    ·rw [aj.1 hw];refine ⟨by rw [y2,d1],by rw [y4,d2],?_,λh1 f hf=>?_⟩
     ·omega
     ·grind
   ·rw [ku] at hj;rw [hndl,hql];have up1:∀{P:Ms ρ->Prop},(∃x∈q,P x)->∃y∈q++[x],P y:=λ⟨y,hy,hP⟩=>⟨y,aD _ hy,hP⟩
    rcases h.ef j hj hjl with g | g | g | g
    ·exact .inl g
    ·rcases rest g with g | ⟨_,g,g'⟩
     ·exact .inr (.inl (up1 g))
     ·obtain rfl:i5=j:=by omega
      have hmn:=hll.mn h.lead i5 (by rw [hnl.own];exact hil);have hnx:=hnl.next h.lead i5;rw [h.ll] at hnx;rcases y5 with ⟨h1,h2⟩ | ⟨h1,h2,h3⟩
      ·by_cases hml:(S.nd l).mat.getD i5 0=len
       ·exact .inl hml
       ·right;right;left;refine ⟨x,aG _ (dX _),y1,hxk,by rw [h1];decide,?_⟩;rw [h2,d5,g'];omega
      ·grind
    ·grind
    ·grind
 ·-- it is an answer
  obtain ⟨d1,d2,d3,d4⟩:=h.q4 m hmS hk;obtain rfl:i=l:=by omega
  obtain ⟨i5,_,e5,_,hfit⟩:=fm.fit hb (by omega);obtain rfl:i5=i:=by omega
  have hbr:(S.wq q).bring z e m=(S.wq q).call i5 (X.get z e (S.nd i5) m):=c4 h.u;have hrr:X.get z e (S.nd i5) m=answered z (S.nd i5) m:=jn hk (by omega) (hfit.ok hnl.own hnl.nn);obtain ⟨f,f1,f2,f3⟩:=hfit.f;have hfn:m.frm.toNat=f:=by omega
  have hans:=oa (z:=z) (m:=m) hll (by rw [hnl.own,hnl.nn];exact c1) h.lead (by rw [hfn,hnl.nn];exact f1) (by rw [hfn,hnl.own];exact f3) (by rw [d2,hMl]) hN3 hN2 (by rw [h.ll];exact d3);rw [hfn] at hans;have hql:((S.wq q).bring z e m).q=q++(answered z (S.nd i5) m).1:=by rw [hbr,dR,hrr];rfl
  have hndl:((S.wq q).bring z e m).nd i5=(answered z (S.nd i5) m).2:=by rw [hbr,bi,ax rfl,hrr]
  have hfb:m.N.getD 1 0=0->(((S.nd i5).mat.getD f 0:Nat):Int)<=m.N.getD 2 0:=λh1=>hp.fb m hmS hk h1 d2 i5 f h.u h.lead d1 f2;have hmn:=hll.mn h.lead f (by rw [hnl.own];exact f3);have hnxt:∀j,(S.nd i5).next.getD j 0<=len:=λj=>by have:=hnl.next h.lead j;rw [h.ll] at this;exact this
  rw [hndl] at kl;generalize hR:answered z (S.nd i5) m=R at *;generalize hb1:(m.N.getD 1 0 != 0)=ok at *;have hok:(ok=true↔m.N.getD 1 0≠0):=by rw [<-hb1];simp
  refine ⟨by rw [ku];exact h.u,by rw [hndl];exact kl.1,by rw [hndl,kl.2.1];exact h.ll,λw hw hk3=>?_,λw hw hk4=>?_,λj hj hjl=>?_⟩
  ·rw [hql] at hw;rw [hndl];cases hans with
   | no _ _ _ =>
    rw [cF] at hw;exact h.q3 w (hsub w hw) hk3
   | back s1 g1 g2 g3 g4 g5 =>
    have hk0:m.N.getD 1 0=0:=bz λh9=>by have:=hok.2 h9;cases this
    have hm0:=hfb hk0;rcases av.1 hw with hw | hw
    ·obtain ⟨a1,a2,a3,a4,a5,a6⟩:=h.q3 w (hsub w hw) hk3;refine ⟨a1,a2,a3,a4,a5,λd hd=>?_⟩;show ((s1.next.getD d 0:Nat):Int)<=_\/s1.next.getD d 0=s1.mat.getD d 0;rw [g5,g4];by_cases e1:d=f
     ·grind
     ·rw [aw e1];exact a6 d hd
    ·rw [aj.1 hw];obtain ⟨p1,p2,p3,p4,p5,_,p7⟩:=fM s1 f;have hs1n:s1.next.getD f 0<=len:=by rw [g5,ax rfl];have:=hnxt f;omega
     refine ⟨by rw [p3,g3,hnl.own],by rw [p4];exact kl.2.2.1.trans hMl,by rw [p5];omega,by rw [p5];omega,by rw [p7,p5,g2,h.ll];omega,λd hd=>?_⟩;rw [p2] at hd;obtain rfl:f=d:=by omega
     left;rw [p5];exact aM _
   | on s1 ms g1 g2 g3 g4 g5 g6 g7 g8 =>
    have hk0:m.N.getD 1 0≠0:=hok.1 rfl;have hkk:s1.next.getD f 0=s1.mat.getD f 0:=by
     rw [g7,ax rfl,g6 f (by rw [hnl.own];exact f3),ax rfl];rcases d4 hk0 f f2 with g | g<;>omega
    have newl:∀d,d≠i5->(bI s1 d).frm=(i5:Int)/\(bI s1 d).N.getD 0 0=M/\0<=(bI s1 d).N.getD 1 0/\(bI s1 d).N.getD 1 0<=(len:Int)/\(bI s1 d).B.length=min 20 (len - ((bI s1 d).N.getD 1 0).toNat)/\∀d':Nat,(bI s1 d).dst=(d':Int)->((s1.next.getD d' 0:Nat):Int)<=(bI s1 d).N.getD 1 0\/s1.next.getD d' 0=s1.mat.getD d' 0:=λd hd=>by
     obtain ⟨p1,p2,p3,p4,p5,_,p7⟩:=fM s1 d;have hs1n:s1.next.getD d 0<=len:=by
      rw [g7];split
      ·have:=hnxt f;rw [h.ll] at g2;omega
      ·exact hnxt d
     refine ⟨by rw [p3,g4,hnl.own],by rw [p4];exact kl.2.2.1.trans hMl,by rw [p5];omega,by rw [p5];omega,by rw [p7,p5,g3,h.ll];omega,λd' hd'=>?_⟩;rw [p2] at hd';obtain rfl:d=d':=by omega
     left;rw [p5];exact aM _
    rcases av.1 hw with hw | hw
    ·obtain ⟨a1,a2,a3,a4,a5,a6⟩:=h.q3 w (hsub w hw) hk3;refine ⟨a1,a2,a3,a4,a5,λd hd=>?_⟩;show ((s1.next.getD d 0:Nat):Int)<=_\/s1.next.getD d 0=s1.mat.getD d 0;by_cases e1:d=f
     ·subst e1;exact .inr hkk
     ·have hdl:d≠i5:=λe2=>by
       obtain ⟨i6,f6,_,_,h6,h7,h8⟩:=(hG.mi w (hsub w hw)).2.f;omega
      rw [g7,aw e1,g6 d (by rw [hnl.own];exact hdl),aw e1];exact a6 d hd
    ·rcases g8 with g8 | g8 | g8
     ·rw [g8] at hw;obtain ⟨d,_,dd,rfl⟩:=cJ _ _ _ hw;exact newl d (by rw [g4,hnl.own] at dd;exact dd)
     ·grind
     ·rw [g8.1] at hw;cases hw
  ·rw [hql] at hw;rw [hndl];cases hans with
   | no _ _ _ =>
    rw [cF] at hw;exact h.q4 w (hsub w hw) hk4
   | back s1 g1 g2 g3 g4 g5 =>
    have hk0:m.N.getD 1 0=0:=bz λh9=>by have:=hok.2 h9;cases this
    have hm0:=hfb hk0;rcases av.1 hw with hw | hw
    ·obtain ⟨a1,a2,a3,a4⟩:=h.q4 w (hsub w hw) hk4;refine ⟨a1,a2,a3,λh1 d hd=>?_⟩;show ((s1.next.getD d 0:Nat):Int)<=_\/s1.next.getD d 0=s1.mat.getD d 0;rw [g5,g4];by_cases e1:d=f
     ·grind
     ·rw [aw e1];exact a4 h1 d hd
    ·grind [aj.1,fM]
   | on s1 ms g1 g2 g3 g4 g5 g6 g7 g8 =>
    have hk0:m.N.getD 1 0≠0:=hok.1 rfl;have hkk:s1.next.getD f 0=s1.mat.getD f 0:=by
     rw [g7,ax rfl,g6 f (by rw [hnl.own];exact f3),ax rfl];rcases d4 hk0 f f2 with g | g<;>omega
    rcases av.1 hw with hw | hw
    ·obtain ⟨a1,a2,a3,a4⟩:=h.q4 w (hsub w hw) hk4;refine ⟨a1,a2,a3,λh1 d hd=>?_⟩;show ((s1.next.getD d 0:Nat):Int)<=_\/s1.next.getD d 0=s1.mat.getD d 0;by_cases e1:d=f
     ·subst e1;exact .inr hkk
     ·have hdl:d≠i5:=λe2=>by
       obtain ⟨i6,f6,_,_,h6,h7,h8⟩:=(hG.mi w (hsub w hw)).2.f;omega
      rw [g7,aw e1,g6 d (by rw [hnl.own];exact hdl),aw e1];exact a4 h1 d hd
    ·rcases g8 with g8 | g8 | g8
     ·rw [g8] at hw;obtain ⟨d,_,_,rfl⟩:=cJ _ _ _ hw;have:=(fM s1 d).1;omega
     ·grind [aj.1,fM]
     ·rw [g8.1] at hw;cases hw
  ·rw [ku] at hj;rw [hndl,hql];have hjn:=hG.up j hj;cases hans with
   | no _ n1 n2 =>
    rw [cF];rcases h.ef j hj hjl with g | g | g | g
    ·exact .inl g
    ·grind
    ·rcases rest g with g | ⟨_,g2,g3,g4⟩
     ·exact .inr (.inr (.inl g))
     ·obtain rfl:f=j:=by omega
      have:=n1 (hok.2 g3);omega
    ·grind
   | back s1 g1 g2 g3 g4 g5 =>
    show s1.mat.getD j 0=len\/(∃x∈q++[bI s1 f],x.kind=3/\x.dst=(j:Int)/\x.N.getD 1 0=((s1.next.getD j 0:Nat):Int))\/(∃x∈q++[bI s1 f],x.kind=4/\x.frm=(j:Int)/\x.N.getD 1 0≠0/\((s1.mat.getD j 0:Nat):Int)<x.N.getD 2 0)\/(∃x∈q++[bI s1 f],x.kind=4/\x.frm=(j:Int)/\x.N.getD 1 0=0/\x.N.getD 2 0<((s1.next.getD j 0:Nat):Int));by_cases e1:j=f
    ·subst e1;right;left;exact ⟨_,aG _ (dX _),rfl,rfl,rfl⟩
    ·grind [h.ef]
   | on s1 ms g1 g2 g3 g4 g5 g6 g7 g8 =>
    have hk0:m.N.getD 1 0≠0:=hok.1 rfl;have hkk:s1.next.getD f 0=s1.mat.getD f 0:=by
     rw [g7,ax rfl,g6 f (by rw [hnl.own];exact f3),ax rfl];rcases d4 hk0 f f2 with g | g<;>omega
    show s1.mat.getD j 0=len\/(∃x∈q++ms,x.kind=3/\x.dst=(j:Int)/\x.N.getD 1 0=((s1.next.getD j 0:Nat):Int))\/(∃x∈q++ms,x.kind=4/\x.frm=(j:Int)/\x.N.getD 1 0≠0/\((s1.mat.getD j 0:Nat):Int)<x.N.getD 2 0)\/(∃x∈q++ms,x.kind=4/\x.frm=(j:Int)/\x.N.getD 1 0=0/\x.N.getD 2 0<((s1.next.getD j 0:Nat):Int));by_cases e1:j=f
    ·subst e1;rcases g8 with g8 | g8 | ⟨_,g8⟩
     ·right;left;refine ⟨bI s1 j,aG _ ?_,rfl,rfl,rfl⟩;rw [g8];exact eJ _ _ j (by rw [g5,hnl.nn];exact f1) (by rw [g4,hnl.own];exact f3)
     ·right;left;exact ⟨bI s1 j,aG _ (by rw [g8];exact dX _),rfl,rfl,rfl⟩
     ·grind [hnl.own,h.ll]
    ·rw [g6 j (by rw [hnl.own];exact hjl),aw e1,g7,aw e1];have up1:∀{P:Ms ρ->Prop},(∃x∈q,P x)->∃y∈q++ms,P y:=λ⟨y,hy,hP⟩=>⟨y,aD _ hy,hP⟩
     rcases h.ef j hj hjl with g | g | g | g
     ·exact .inl g
     ·rcases rest g with g | ⟨g,_⟩
      ·exact .inr (.inl (up1 g))
      ·omega
     ·rcases rest g with g | ⟨_,g,_⟩
      ·exact .inr (.inr (.inl (up1 g)))
      ·omega
     ·rcases rest g with g | ⟨_,g,_⟩
      ·exact .inr (.inr (.inr (up1 g)))
      ·omega
end
section
variable {ρ:Type} {z:ρ->Bool} {e:ρ}
variable {n i F l len:Nat} {b b' M T:Int} {S S' S0 S1 S2 S3:Cs ρ} {G:Gh ρ} {m:Ms ρ} {s:Nd ρ} {r:List (Ms ρ)×Nd ρ} {ms q:List (Ms ρ)} {Λ:Nat}
theorem Az (s:Nd ρ) (k:Nat):s.agreed<=(X.agree z s k).agreed:=by
 unfold X.agree;split
 ·rename_i h;exact el h
 ·exact ah _
theorem zF (p:Nat) (l:List (Int×ρ)):∀(j:Nat) (s:Nd ρ),(bE p l j s).2.agreed=s.agreed:=by
 induction l with
 | nil=>intro j s;rfl
 | cons x l ih =>
  intro j s;obtain ⟨t,rec⟩:=x;unfold bE;split
  ·exact ih (j+1) s
  ·grind [place]
theorem CG:s.agreed<=(X.get z e s m).2.agreed:=by
 have hin:∀s1:Nd ρ,s1.agreed<=(getIn z e s1 m).2.agreed:=λs1=>by
  unfold getIn;split
  ·unfold asked;split
   ·simp only;split
    ·split<;>exact ah _
    ·exact ah _
   ·exact ah _
  ·split
   ·unfold voted;split
    ·exact ah _
    ·simp only;split
     ·exact oL (z:=z) (s:=place { s1 with votes:=s1.votes.set m.frm.toNat true,leads:=true,next:=List.replicate s1.n s1.log.length,mat:=List.replicate s1.n 0 } s1.log.length (s1.term,e))
     ·exact ah _
   ·split
    ·unfold lays;split
     ·exact ah _
     ·split
      ·exact ah _
      ·simp only;split
       ·grind [zF,bE,Az]
       ·exact ah _
    ·split
     ·unfold answered;split
      ·exact ah _
      ·simp only;split
       ·split<;>exact ah _
       ·split
        ·exact ah _
        ·have h1:=oL (z:=z) (s:={ s1 with mat:=s1.mat.set m.frm.toNat (m.N.getD 2 0).toNat,next:=s1.next.set m.frm.toNat (max (m.N.getD 2 0).toNat (s1.next.getD m.frm.toNat 0))});split
         ·exact h1
         ·split<;>exact h1
     ·grind
 unfold X.get;split
 ·exact ah _
 ·grind [enter]
structure Sb (z:ρ->Bool) (n:Nat) (b M:Int) (Λ l:Nat) (S:Cs ρ):Prop where
 wk:Wk z n b S
 lead:Lead M S l
 q:∀x∈S.q,∃d,d≠l/\x=bI (S.nd l) d
 ql:S.q.length<=4
 log:∀i,S.up i=true->(S.nd i).log.length<=Λ
structure SbR (z:ρ->Bool) (e:ρ) (n:Nat) (b M:Int) (Λ l:Nat) (S S3:Cs ρ):Prop where
 sb:Sb z n (b+1) M Λ l S3
 q:S3.q=[]
 up:S3.up=S.up
 log:(S3.nd l).log=(S.nd l).log
 mat:∀j,S.up j=true->j≠l->(S3.nd l).mat.getD j 0=(S.nd l).log.length
 ag:(S3.nd l).agreed=(S.nd l).log.length
 all:(∀j,S.up j=true->j≠l->(S.nd l).mat.getD j 0=(S.nd l).log.length)->(S.nd l).agreed=(S.nd l).log.length->∀j,S.up j=true->(S3.nd j).agreed=(S.nd l).log.length
 small:∀j,(Cs.drain z e j (S.ticks z e n)).q.length<=30+3*Λ
 p3:P3 z n (b+1) M (S.ticks z e n)
 dr:∃k,S3=Cs.drain z e k (S.ticks z e n)/\phi n (S.ticks z e n)<=k
 tk:∀j,S.up j=true->((S.ticks z e n).nd j).leads=(S.nd j).leads/\((S.ticks z e n).nd j).log=(S.nd j).log/\((S.ticks z e n).nd j).term=(S.nd j).term/\((S.ticks z e n).nd j).cnt=(S.nd j).cnt/\((S.ticks z e n).nd j).choice=(S.nd j).choice
theorem qL (hG:WkG z n b G S) {j:Nat} (hl:S.up l=true) (hj:S.up j=true) (h1:(S.nd l).leads=true) (h2:(S.nd j).term<=(S.nd l).term):(S.nd j).agreed<=(S.nd l).log.length/\(S.nd j).log.take (S.nd j).agreed=(S.nd l).log.take (S.nd j).agreed:=by
 have hnl:=hG.ni l (hG.up l hl);have hnj:=hG.ni j (hG.up j hj);obtain ⟨d1,d2⟩:=hnl.lds h1;rcases hnj.ag.2 with g | ⟨u,k,k1,k2,k3,k4⟩
 ·rw [g];simp
 ·have h3:=hG.gi.later k1 (t':=(S.nd l).term) (cS k2 h2) (by rw [d1];simp);rw [<-d2] at h3;have h4:=nC h3.symm k1.kl;exact ⟨by omega,by rw [k4];exact (gt h3 k3).symm⟩
theorem iG (h:Sb z n b M Λ l S) (hn:n<=5) (hb:b+1<=1099511627776) (hmaj:Maj n λj=>S.up j) (hF:100+22*Λ<=F):SbR z e n b M Λ l S (S.rnd z e n F):=by
 obtain ⟨t1,t2,t3⟩:=dm (z:=z) (e:=e) n S;have hw:=h.wk.ticks (e:=e) hb;have hupn:∀i,S.up i=true->i<n:=by obtain ⟨G,hG⟩:=h.wk;exact hG.up
 have hl:=h.lead.up;have hln:=hupn l hl;have hnd:∀i,S.up i=true->(S.ticks z e n).nd i=(X.tick z e (S.nd i)).2:=λi hi=>by rw [t1,ax ⟨hupn i hi,hi⟩]
 have htl:X.tick z e (S.nd l)=(cT { S.nd l with clock:=(S.nd l).clock+1 } (bI { S.nd l with clock:=(S.nd l).clock+1 }),{ S.nd l with clock:=(S.nd l).clock+1 }):=by
  rcases dS (z:=z) (e:=e) (S.nd l) with ⟨_,g⟩ | ⟨g,_⟩ | ⟨g,_⟩ | ⟨g,_⟩
  ·exact g
  ·rw [h.lead.leads] at g;cases g
  ·rw [h.lead.leads] at g;cases g
  ·rw [h.lead.leads] at g;cases g
 have htj:∀j,S.up j=true->j≠l->X.tick z e (S.nd j)=([],nx (S.nd j)):=λj hj hjl=>by
  obtain ⟨g1,g2,g3⟩:=h.lead.oth j hj hjl;rcases dS (z:=z) (e:=e) (S.nd j) with ⟨g,_⟩ | ⟨_,g,_⟩ | ⟨_,_,g,_⟩ | ⟨_,_,_,g⟩
  ·rw [g3] at g;cases g
  ·rw [g2] at g;omega
  ·rw [g2] at g;omega
  ·exact g
 have hlA:(S.ticks z e n).nd l={ S.nd l with clock:=(S.nd l).clock+1 }:=by rw [hnd l hl,htl]
 have hjA:∀j,S.up j=true->j≠l->(S.ticks z e n).nd j=nx (S.nd j):=λj hj hjl=>by rw [hnd j hj,htj j hj hjl]
 have hown:(S.nd l).own=l/\(S.nd l).n=n:=by obtain ⟨G,hG⟩:=h.wk;exact ⟨(hG.ni l hln).own,(hG.ni l hln).nn⟩
 have hqA:∀x∈(S.ticks z e n).q,∃d,d≠l/\x=bI (S.nd l) d:=λx hx=>by
  rcases (t3 x).1 hx with g | ⟨i,i1,i2,i3⟩
  ·exact h.q x g
  ·by_cases e1:i=l
   ·subst e1;rw [htl] at i3;obtain ⟨d,_,d2,rfl⟩:=cJ _ _ _ i3;have d2:d≠(S.nd i).own:=d2;exact ⟨d,by rw [hown.1] at d2;exact d2,rfl⟩
   ·rw [htj i i2 e1] at i3;cases i3
 have hqN:∀d,d<n->d≠l->bI (S.nd l) d∈(S.ticks z e n).q:=λd d1 d2=>by
  refine (t3 _).2 (.inr ⟨l,hln,hl,?_⟩);rw [htl];exact eJ _ (bI { S.nd l with clock:=(S.nd l).clock+1 }) d (by show d<(S.nd l).n;rw [hown.2];exact d1) (by show d≠(S.nd l).own;rw [hown.1];exact d2)
 have hlen:=jX (e:=e) h.wk hn hb n (ah _);have hql:=h.ql;generalize hSA:S.ticks z e n=SA at *;have hldA:∀i,SA.up i=true->(SA.nd i).leads=true->i=l:=λi hi hle=>by
  rw [t2] at hi;apply bz;intro hne;rw [hjA i hi hne] at hle;have hle:(S.nd i).leads=true:=hle;rw [(h.lead.oth i hi hne).2.2] at hle;cases hle
 have htA:∀i,SA.up i=true->(SA.nd i).term=M:=λi hi=>by
  rw [t2] at hi;by_cases e1:i=l
  ·subst e1;rw [hlA];exact h.lead.term
  ·rw [hjA i hi e1];exact (h.lead.oth i hi e1).1
 have P:P3 z n (b+1) M SA:=by
  refine ⟨hw,⟨λi hi=>DK (htA i hi),λm hm=>?_⟩,λm hm=>?_,λi hi _=>htA i hi,λm hm _ i hi hle hf=>?_,λi hi hle=>?_,λm hm hk=>?_⟩
  ·obtain ⟨d,_,rfl⟩:=hqA m hm;exact DK h.lead.term
  ·obtain ⟨d,_,rfl⟩:=hqA m hm;exact .inl rfl
  ·obtain ⟨d,_,rfl⟩:=hqA m hm;exact h.lead.term
  ·refine List.Pairwise.imp_of_mem (R:=λ_ _=>True) (λ{a b} ha hb' _ h5=>?_) (List.pairwise_of_forall (λ_ _=>trivial));obtain ⟨d,_,rfl⟩:=hqA a ha;cases h5
  ·obtain ⟨d,_,rfl⟩:=hqA m hm;cases hk
 have hnlS:∀j,(S.nd l).next.getD j 0<=(S.nd l).log.length:=by obtain ⟨G,hG⟩:=h.wk;exact (hG.ni l hln).next h.lead.leads
 have E0:Ei l (S.nd l).log.length M SA:=by
  refine ⟨by rw [t2];exact hl,by rw [hlA];exact h.lead.leads,by rw [hlA],λx hx hk=>?_,λx hx hk=>?_,λj hj hjl=>?_⟩
  ·obtain ⟨d,d1,rfl⟩:=hqA x hx;obtain ⟨p1,p2,p3,p4,p5,_,p7⟩:=fM (S.nd l) d;have:=hnlS d;refine ⟨by rw [p3,hown.1],by rw [p4];exact h.lead.term,by rw [p5];omega,by rw [p5];omega,by rw [p7,p5];omega,λd' hd'=>?_⟩;rw [p2] at hd';obtain rfl:d=d':=by omega
   left;rw [hlA,p5];exact aM _
  ·obtain ⟨d,d1,rfl⟩:=hqA x hx;cases hk
  ·rw [t2] at hj;right;left;exact ⟨_,hqN j (hupn j hj) hjl,rfl,rfl,by rw [hlA];rfl⟩
 obtain ⟨φ1,φ2⟩:=yU (M:=M) hw hn P.ld (Λ:=Λ) (λi hi hle=>by
  have:=hldA i hi hle;subst this;rw [hlA];exact h.log i hl)
 have hlenΛ:(S.nd l).log.length<=Λ:=h.log l hl;have hLd:=P.lead (e:=e) hn hb ⟨by rw [t2];exact hl,by rw [hlA];exact h.lead.leads⟩ (λj hj hjl=>.inr ⟨_,hqN j (hupn j (by rw [<-t2];exact hj)) hjl,rfl,rfl,h.lead.term⟩) F (by omega);obtain ⟨c1,c2,c3,c4,c5⟩:=P3.end_ (z:=z) (e:=e) (Inv:=λS'=>(S'.up=S.up/\Ei l (S.nd l).log.length M S')/\(∀i,S'.up i=true->(S'.nd i).log.length<=Λ)/\((∀j,S.up j=true->j≠l->(S.nd l).mat.getD j 0=(S.nd l).log.length)->(S.nd l).agreed=(S.nd l).log.length->(∀j,S.up j=true->j≠l->(S'.nd l).mat.getD j 0=(S.nd l).log.length)/\∀j,S.up j=true->j≠l->(S.nd l).log.length<=(S'.nd j).agreed\/∃x∈S'.q,x.kind=3/\x.dst=(j:Int)/\x.N.getD 1 0=((S.nd l).log.length:Int)/\x.N.getD 3 0=((S.nd l).log.length:Int))) hn hb (λS' m q p hi hq st=>by
  obtain ⟨⟨i0,i1⟩,i2,i3⟩:=hi;refine ⟨⟨st.kp.up.trans i0,i1.step p hn hb hq st⟩,λj hj=>?_,λhm1 hm2=>?_⟩
  ·obtain ⟨i,k1,k2,k3,k4,k5⟩:=st.cut;rw [st.kp.up] at hj;cases hu:S'.up i with
   | false=>rw [k5 hu];exact i2 j hj
   | true =>
    rw [k4 hu,bi];split
    ·rename_i e1;subst e1;have gl:=ma (z:=z) (e:=e) (s:=S'.nd j) (m:=m);have h1:=i2 j hj;have hmS:m∈S'.q:=by rw [hq];exact aP
     rcases gl.len with g | ⟨g,_⟩
     ·have h2:(if m.kind=3 then (m.N.getD 1 0).toNat+m.B.length else 0)<=Λ:=by
       split
       ·rename_i hk;obtain ⟨_,_,g1,g2,g3,_⟩:=i1.q3 m hmS hk;omega
       ·exact aA _
      omega
     ·rcases p.kd m hmS with g7 | g7<;>omega
    ·exact i2 j hj
  ·obtain ⟨a1,a2⟩:=i3 hm1 hm2;obtain ⟨i,k1,k2,k3,k4,k5⟩:=st.cut;have hmS:m∈S'.q:=by rw [hq];exact aP
   obtain ⟨G,hG⟩:=p.wk;have hnl:=hG.ni l hln;have hll:=hG.ln l hln;have hmat2:∀j,S.up j=true->j≠l->(((S'.wq q).bring z e m).nd l).mat.getD j 0=(S.nd l).log.length:=λj hj hjl=>by
    cases hu:S'.up i with
    | false=>rw [k5 hu];exact a1 j hj hjl
    | true =>
     rw [k4 hu,bi];split
     ·rename_i e1;subst e1;rcases p.kd m hmS with hk | ⟨hk,hN3,hN2⟩
      ·have:=p.ub.q m hmS;rw [rB hk i1.lead (by rw [p.ld l hu i1.lead];exact this)];exact a1 j hj hjl
      ·obtain ⟨d1,d2,d3,d4⟩:=i1.q4 m hmS hk;obtain ⟨mi,fm⟩:=hG.mi m hmS;obtain ⟨i6,f,_,f1,f3,f4,f5⟩:=fm.f;have hMl:=p.ld l hu i1.lead;have hMp:1<=M:=by
        have:=(hG.gi.led _ _ (hnl.lds i1.lead).1).2;rw [hMl] at this;exact this
       obtain ⟨i5,_,e5,_,hfit⟩:=fm.fit hb (by omega);obtain rfl:i5=l:=by omega
       rw [jn hk (by omega) (hfit.ok hnl.own hnl.nn)];rcases lF (z:=z) (m:=m) (s:=S'.nd i5) hll.ml (by rw [hnl.nn];omega) j (by rw [hnl.own];exact hjl) (by rw [hnl.own,hnl.nn];exact hln) with g | ⟨g1,g2,g3,g4⟩
       ·rw [g];exact a1 j hj hjl
       ·grind [bi,answered,jn,oa,back]
     ·exact a1 j hj hjl
   refine ⟨hmat2,λj hj hjl=>?_⟩;have hagj:(S'.nd j).agreed<=(((S'.wq q).bring z e m).nd j).agreed:=by
    cases hu:S'.up i with
    | false=>rw [k5 hu];exact ah _
    | true =>
     rw [k4 hu,bi];split
     ·rename_i e1;subst e1;exact CG
     ·exact ah _
   rcases a2 j hj hjl with g | ⟨x,x1,x2,x3,x4,x5⟩
   ·exact .inl (aF g hagj)
   ·by_cases hxm:x=m
    ·subst hxm;left;obtain rfl:i=j:=by omega
     have hu:S'.up i=true:=by rw [i0];exact hj
     rw [k4 hu,bi,ax rfl];obtain ⟨mi,fm⟩:=hG.mi x hmS;have hMl:=p.ld l i1.u i1.lead;have hMp:1<=M:=by
      have:=(hG.gi.led _ _ (hnl.lds i1.lead).1).2;rw [hMl] at this;exact this
     obtain ⟨d1,d2,_⟩:=i1.q3 x hmS x2;obtain ⟨i5,_,e5,_,hfit⟩:=fm.fit hb (by omega);obtain rfl:i5=i:=by omega
     have hni:=hG.ni i5 k1;have hti:=p.ub.nd i5 hu;have hnotl:(S'.nd i5).leads=false:=by
      grind [hG.one,i1.lead,p.ld]
     have h1l:1<=(S.nd l).log.length:=by have:=(hll.lt i1.lead).1;rw [i1.ll] at this;exact this
     have hak:=hnl.mat i1.lead i5 k1 hjl (by rw [a1 i5 hj hjl];omega);rw [a1 i5 hj hjl,hMl] at hak;obtain ⟨w,w1,w2,w3⟩:=pa (z:=z) (e:=e) hG.gi hni hfit mi x2 (by omega) (.inl hnotl);rcases w2.what with ⟨g1,g2⟩ | ⟨g1,g2,g3⟩
     ·omega
     ·exfalso;have:=uR (z:=z) (e:=e) hG.gi hni mi hfit x2 (.inl hnotl) (by omega) w (by rw [w1];exact dX _) g1 _ (by rw [d2];exact hak);omega
    ·right;rw [hq] at x1;have hx:x∈q:=by
      grind
     cases hu:S'.up i with
     | false=>rw [k5 hu];exact ⟨x,hx,x2,x3,x4,x5⟩
     | true=>rw [k4 hu];exact ⟨x,aD _ hx,x2,x3,x4,x5⟩) F SA P ⟨⟨t2,E0⟩,λi hi=>by
    rw [t2] at hi;by_cases e1:i=l
    ·subst e1;rw [hlA];exact h.log i hi
    ·rw [hjA i hi e1];exact h.log i hi,λhm1 hm2=>⟨λj hj hjl=>by rw [hlA];exact hm1 j hj hjl,λj hj hjl=>by
     right;refine ⟨_,hqN j (hupn j hj) hjl,rfl,rfl,?_,?_⟩
     ·have h1:=hnlS j;have h2:(S.nd l).mat.getD j 0<=(S.nd l).next.getD j 0:=by
       obtain ⟨G,hG⟩:=h.wk;exact (hG.ln l hln).mn h.lead.leads j (by rw [hown.1];exact hjl)
      rw [hm1 j hj hjl] at h2;show (((S.nd l).next.getD j 0:Nat):Int)=_;omega
     ·show ((S.nd l).agreed:Int)=_;rw [hm2]⟩⟩ (by omega)
 obtain ⟨⟨u3,E3⟩,L3,A3⟩:=c4;have hrnd:S.rnd z e n F=Cs.drain z e F SA:=by show Cs.drain z e F (S.ticks z e n)=_;rw [hSA]
 rw [hrnd];have hmat3:∀j,S.up j=true->j≠l->((Cs.drain z e F SA).nd l).mat.getD j 0=(S.nd l).log.length:=λj hj hjl=>by
  rcases E3.ef j (by rw [u3];exact hj) hjl with g | ⟨x,g,_⟩ | ⟨x,g,_⟩ | ⟨x,g,_⟩
  ·exact g
  ·rw [c2] at g;cases g
  ·rw [c2] at g;cases g
  ·rw [c2] at g;cases g
 have hll:((Cs.drain z e F SA).nd l).log=(S.nd l).log:=by
  rw [(c3.lead l (by rw [t2];exact hl) (by rw [hlA];exact h.lead.leads)).2.1,hlA]
 obtain ⟨G,hG⟩:=c1.wk;have hnl3:=hG.ni l hln;have hln3:=hG.ln l hln;have hag3:((Cs.drain z e F SA).nd l).agreed=(S.nd l).log.length:=by
  have h1:=hnl3.ag.1;rw [hll] at h1;apply bz;intro hne;obtain ⟨q1,q2⟩:=hln3.qs E3.lead;obtain ⟨q3,q4⟩:=hln3.lt E3.lead;rw [hll] at q1 q2 q3 q4;obtain ⟨k,hk⟩:∃k,(S.nd l).log.length=k+1:=⟨(S.nd l).log.length - 1,by omega⟩
  rw [hk] at q1 q2 q4 hne h1;unfold settleF at q1;rw [ax ⟨by omega,by rw [hll];exact q4⟩] at q1;have hcount:dh ((Cs.drain z e F SA).nd l) (ey ((Cs.drain z e F SA).nd l).mat (k+1))=true:=by
   unfold dh ey;rw [hnl3.nn];apply bV;have ef:=iU ((Cs.drain z e F SA).nd l).mat (λm=>decide (k+1<=m)) 0;rw [hnl3.ml] at ef;rw [ef];have:=hmaj.mono (q:=λj=>decide (k+1<=((Cs.drain z e F SA).nd l).mat.getD j 0)) (λj hj hu=>by
    apply bV;by_cases e1:j=l
    ·subst e1;rw [hnl3.own] at q2;rw [q2];exact ah _
    ·rw [hmat3 j hu e1,hk];exact ah _)
   exact this
  rw [hcount] at q1;simp at q1
 refine ⟨⟨c1.wk,hLd,λx hx=>(by rw [c2] at hx;cases hx),by rw [c2];exact aA _,L3⟩,c2,u3,hll,hmat3,hag3,λhm1 hm2 j hj=>?_,λj=>?_,by rw [hSA];exact P,⟨F,by rw [hSA],by rw [hSA];omega⟩,λj hj=>by
  rw [hSA];by_cases e1:j=l
  ·grind
  ·rw [hjA j hj e1];exact ⟨rfl,rfl,rfl,rfl,rfl⟩⟩
 ·by_cases e1:j=l
  ·subst e1;exact hag3
  ·rcases (A3 hm1 hm2).2 j hj e1 with g | ⟨x,g,_⟩
   ·have hju:(Cs.drain z e F SA).up j=true:=by rw [u3];exact hj
    have:=(qL hG (l:=l) (j:=j) hLd.up hju hLd.leads (by rw [(hLd.oth j hju e1).1,hLd.term];exact aM _)).1;rw [hll] at this;omega
   ·rw [c2] at g;cases g
 ·grind
end
section
variable {ρ:Type} {z:ρ->Bool} {e:ρ}
variable {n i F l len:Nat} {b b' M T:Int} {S S' S0 S1 S2 S3:Cs ρ} {G:Gh ρ} {m:Ms ρ} {s:Nd ρ} {r:List (Ms ρ)×Nd ρ} {ms q:List (Ms ρ)} {Λ:Nat}
structure Sd (z:ρ->Bool) (n:Nat) (b M:Int) (Λ l:Nat) (S:Cs ρ):Prop where
 sb:Sb z n b M Λ l S
 q:S.q=[]
 mat:∀j,S.up j=true->j≠l->(S.nd l).mat.getD j 0=(S.nd l).log.length
 ag:∀j,S.up j=true->(S.nd j).agreed=(S.nd l).log.length
theorem Sd.rnd (h:Sd z n b M Λ l S) (hn:n<=5) (hb:b+1<=1099511627776) (hmaj:Maj n λj=>S.up j) (hF:100+22*Λ<=F):Sd z n (b+1) M Λ l (S.rnd z e n F)/\((S.rnd z e n F).nd l).log=(S.nd l).log/\(S.rnd z e n F).up=S.up:=by
 have r:=iG (e:=e) h.sb hn hb hmaj hF;exact ⟨⟨r.sb,r.q,λj hj hjl=>by rw [r.log];exact r.mat j (by rw [<-r.up];exact hj) hjl,λj hj=>by rw [r.log];exact r.all h.mat (h.ag l h.sb.lead.up) j (by rw [<-r.up];exact hj)⟩,r.log,r.up⟩
theorem yH (h:Sb z n b M Λ l S) (hn:n<=5) (hb:b+2<=1099511627776) (hmaj:Maj n λj=>S.up j) (hF:100+22*Λ<=F):Sd z n (b+2) M Λ l (S.rnds z e n F 2)/\((S.rnds z e n F 2).nd l).log=(S.nd l).log/\(S.rnds z e n F 2).up=S.up:=by
 have r1:=iG (e:=e) h hn (by omega) hmaj hF;have r2:=iG (e:=e) r1.sb hn (by omega) (by rw [r1.up];exact hmaj) hF;have hb2:b+2=b+1+1:=by omega
 rw [hb2];refine ⟨⟨r2.sb,r2.q,λj hj hjl=>?_,λj hj=>?_⟩,r2.log.trans r1.log,r2.up.trans r1.up⟩
 ·have e1:((S.rnds z e n F 2).nd l).log=((S.rnd z e n F).nd l).log:=r2.log;rw [e1];exact r2.mat j (by rw [<-r2.up];exact hj) hjl
 ·have e1:((S.rnds z e n F 2).nd l).log=((S.rnd z e n F).nd l).log:=r2.log;rw [e1];refine r2.all (λj hj hjl=>?_) ?_ j (by rw [<-r2.up];exact hj)
  ·grind [r1.log,r1.mat,r1.up]
  ·rw [r1.log];exact r1.ag
theorem jE (a c:Nat) (S:Cs ρ):S.rnds z e n F (a+c)=(S.rnds z e n F a).rnds z e n F c:=by
 induction c with
 | zero=>rfl
 | succ c ih=>show Cs.rnd z e n F (S.rnds z e n F (a+c))=_;rw [ih];rfl
theorem Sd.rnds (h:Sd z n b M Λ l S) (hn:n<=5) (hmaj:Maj n λj=>S.up j) (hF:100+22*Λ<=F):∀k:Nat,b+k<=1099511627776->Sd z n (b+k) M Λ l (S.rnds z e n F k)/\((S.rnds z e n F k).nd l).log=(S.nd l).log/\(S.rnds z e n F k).up=S.up:=by
 intro k;induction k with
 | zero=>intro _;rw [show b+((0:Nat):Int)=b by omega];exact ⟨h,rfl,rfl⟩
 | succ k ih =>
  intro hb;obtain ⟨h1,h2,h3⟩:=ih (by omega);obtain ⟨g1,g2,g3⟩:=h1.rnd (e:=e) hn (by omega) (by rw [h3];exact hmaj) hF;rw [show b+((k+1:Nat):Int)=b+(k:Int)+1 by omega];exact ⟨g1,g2.trans h2,g3.trans h3⟩
theorem Sb.mono (h:Sb z n b M Λ l S) {Λ':Nat} (hb:b<=b') (hL:Λ<=Λ'):Sb z n b' M Λ' l S:=⟨h.wk.mono hb,h.lead,h.q,h.ql,λi hi=>aF (h.log i hi) hL⟩
theorem Sd.give (h:Sd z n b M Λ l S) (hn:n<=5) (hΛ:Λ<=1900) (x:ρ):(X.submit z (S.nd l) x).2.1=true/\Sb z n b M (Λ+1) l (S.call l ((X.submit z (S.nd l) x).1,(X.submit z (S.nd l) x).2.2))/\(X.submit z (S.nd l) x).2.2.log=(S.nd l).log++[(M,x)]:=by
 have hl:=h.sb.lead;obtain ⟨G,hG⟩:=h.sb.wk;have hln:=hG.up l hl.up;have hni:=hG.ni l hln;have hagl:=h.ag l hl.up;have hopen:qX z (S.nd l)=0:=by
  unfold qX;rw [hagl,kT (ah _)];rfl
 have hmany:(S.nd l).many<=Λ:=by
  rw [hni.many];unfold recs;rw [aQ];have h1:=cR (λx => !z x.2) ((S.nd l).log.take (S.nd l).agreed);have h2:=h.sb.log l hl.up;rw [aE] at h1;omega
 have hsub:X.submit z (S.nd l) x=(cT (X.settle z (place (S.nd l) (S.nd l).log.length ((S.nd l).term,x))).2 (bI (X.settle z (place (S.nd l) (S.nd l).log.length ((S.nd l).term,x))).2),true,(X.settle z (place (S.nd l) (S.nd l).log.length ((S.nd l).term,x))).2):=by
  unfold X.submit;rw [aw (by rw [hl.leads];simp),aw (by omega)]
 obtain ⟨g1,g2,g3,g4,g5,g6,g7,g8,_⟩:=dt (z:=z) (s:=place (S.nd l) (S.nd l).log.length ((S.nd l).term,x));have hlog:(X.settle z (place (S.nd l) (S.nd l).log.length ((S.nd l).term,x))).2.log=(S.nd l).log++[(M,x)]:=by
  rw [g8];show (S.nd l).log.take (S.nd l).log.length++[((S.nd l).term,x)]=_;rw [cM,hl.term]
 rw [hsub];refine ⟨rfl,?_,hlog⟩;have hstp:=oJ (z:=z) hG.gi hni x;rw [hsub] at hstp;have hlnn:=(hG.ln l hln).submit (z:=z) (by rw [hni.own,hni.nn];exact hln) x;rw [hsub] at hlnn;have hlt:(X.settle z (place (S.nd l) (S.nd l).log.length ((S.nd l).term,x))).2.term=(S.nd l).term:=g6;have ht0:=hni.t0;have htb:=hG.tb l hln;obtain ⟨G',_,hG'⟩:=hG.call hln hstp hlnn (by show (X.settle z (place (S.nd l) (S.nd l).log.length ((S.nd l).term,x))).2.term<=b;rw [hlt];exact htb) (λy hy=>by
  obtain ⟨d,d1,d2,rfl⟩:=cJ _ _ _ hy;rw [g2] at d1;rw [g1] at d2;have d1:d<(S.nd l).n:=d1;have d2:d≠(S.nd l).own:=d2;rw [hni.nn] at d1;rw [hni.own] at d2;refine ⟨⟨d,l,d1,hln,ud d2,rfl,?_⟩,by unfold bI;simp,?_,?_⟩
  ·show (((X.settle z (place (S.nd l) (S.nd l).log.length ((S.nd l).term,x))).2.own:Nat):Int)=_;rw [g1];show ((S.nd l).own:Int)=_;rw [hni.own]
  ·show 0<=(X.settle z (place (S.nd l) (S.nd l).log.length ((S.nd l).term,x))).2.term;rw [hlt];exact ht0
  ·show (X.settle z (place (S.nd l) (S.nd l).log.length ((S.nd l).term,x))).2.term<=b;rw [hlt];exact htb)
 have hndl:((S.call l (cT (X.settle z (place (S.nd l) (S.nd l).log.length ((S.nd l).term,x))).2 (bI (X.settle z (place (S.nd l) (S.nd l).log.length ((S.nd l).term,x))).2),(X.settle z (place (S.nd l) (S.nd l).log.length ((S.nd l).term,x))).2)).nd l)=(X.settle z (place (S.nd l) (S.nd l).log.length ((S.nd l).term,x))).2:=by rw [bi,ax rfl]
 refine ⟨⟨G',hG'⟩,⟨hl.up,by rw [hndl,g5];exact hl.leads,by rw [hndl,hlt];exact hl.term,λj hj hjl=>by rw [bi,aw hjl];exact hl.oth j hj hjl⟩,λy hy=>?_,?_,λj hj=>?_⟩
 ·rw [dR,h.q,bR] at hy;obtain ⟨d,_,d2,rfl⟩:=cJ _ _ _ hy;rw [g1] at d2;have d2:d≠(S.nd l).own:=d2;rw [hni.own] at d2;exact ⟨d,d2,by rw [hndl]⟩
 ·rw [dR,h.q,bR];have:=fk (X.settle z (place (S.nd l) (S.nd l).log.length ((S.nd l).term,x))).2 (bI (X.settle z (place (S.nd l) (S.nd l).log.length ((S.nd l).term,x))).2) (by rw [g1,g2];show (S.nd l).own<(S.nd l).n;rw [hni.own,hni.nn];exact hln);rw [g2] at this;have this:_+1<=(S.nd l).n:=this;rw [hni.nn] at this;show (cT _ _).length<=4;omega
 ·rw [bi];split
  ·show (X.settle z (place (S.nd l) (S.nd l).log.length ((S.nd l).term,x))).2.log.length<=_;rw [hlog,ay];have:=h.sb.log l hl.up;simp;exact this
  ·have:=h.sb.log j hj;omega
theorem given (h:Sd z n b M Λ l S) (hn:n<=5) (hmaj:Maj n λj=>S.up j) (hΛ:Λ<=1900) (hb:b+20<=1099511627776) (hF:100+22*(Λ+1)<=F) (x:ρ):∃S',S'=(S.call l ((X.submit z (S.nd l) x).1,(X.submit z (S.nd l) x).2.2)).rnds z e n F 10/\Sd z n (b+10) M (Λ+1) l S'/\S'.up=S.up/\(S'.nd l).log=(S.nd l).log++[(M,x)]:=by
 obtain ⟨h1,h2,h3⟩:=h.give hn hΛ x;obtain ⟨g1,g2,g3⟩:=yH (e:=e) (F:=F) h2 hn (by omega) hmaj hF;obtain ⟨q1,q2,q3⟩:=g1.rnds (e:=e) (F:=F) hn (by rw [g3];exact hmaj) hF 8 (by omega);refine ⟨_,rfl,?_⟩;rw [show (10:Nat)=2+8 from rfl,jE];refine ⟨⟨q1.sb.mono (b':=b+10) (by omega) (ah _),q1.q,q1.mat,q1.ag⟩,q3.trans g3,?_⟩;rw [q2,g2,bi,ax rfl];exact h3
end
section
variable {ρ:Type} {z:ρ->Bool} {e:ρ}
variable {n i F l len:Nat} {b b' M T:Int} {S S' S0 S1 S2 S3:Cs ρ} {G:Gh ρ} {m:Ms ρ} {s s':Nd ρ} {r:List (Ms ρ)×Nd ρ} {ms q:List (Ms ρ)} {Λ:Nat}
def pl (s:Nd ρ):Int:=(s.cnt:Int) - 2*s.term - (if s.choice = -1 then 0 else 1)
theorem yT (s:Nd ρ):(s.cnt:Int)<=pl s+2*s.term+1:=by unfold pl;split<;>omega
theorem mM (h1:s'.cnt=s.cnt) (h2:s'.term=s.term) (h3:s'.choice=s.choice):pl s'=pl s:=by unfold pl;rw [h1,h2,h3]
theorem nD (t w:Int) (h:s.term<t):pl (enter s t w)<=pl s:=by
 unfold pl;show ((s.cnt+1:Nat):Int) - 2*t - (if w = -1 then 0 else 1)<=_;split<;>split<;>omega
theorem AX (w:Int) (h:s.choice = -1) (hw:w ≠ -1):pl (enter s s.term w)=pl s:=by
 unfold pl;show ((s.cnt+1:Nat):Int) - 2*s.term - (if w = -1 then 0 else 1)=_;rw [aw hw,ax h];omega
theorem uz (s:Nd ρ):pl (lead z e s).2=pl s+1:=by
 obtain ⟨h1,h2,h3,h4,h5,h6,h7,h8,h9,h10,h11,h12,h13⟩:=dt (z:=z) (s:=place { s with leads:=true,next:=List.replicate s.n s.log.length,mat:=List.replicate s.n 0 } s.log.length (s.term,e));unfold pl;show (((X.settle z _).2.cnt:Nat):Int) - 2*(X.settle z _).2.term - (if (X.settle z _).2.choice = -1 then 0 else 1)=_;rw [h12,h6,h7];show ((s.cnt+1:Nat):Int) - 2*s.term - (if s.choice = -1 then 0 else 1)=_;omega
theorem qV (s:Nd ρ) (k:Nat):pl (X.agree z s k)=pl s:=by
 refine mM ?_ ?_ ?_<;>(unfold X.agree;split<;>rfl)
def zH (p:Nat):List (Int×ρ)->Nat->Nd ρ->Nat
 | [],_,_=>0
 | (t,rec)::l,i,s =>
  if p+i<s.log.length/\bD s.log (p+i+1)=t then zH p l (i+1) s
  else if t<1\/s.term<t\/p+i<s.agreed then 0
  else zH p l (i+1) (place s (p+i) (t,rec))+1
theorem zD (p:Nat) (l:List (Int×ρ)):∀(j:Nat) (s:Nd ρ),pl (bE p l j s).2=pl s+zH p l j s/\zH p l j s<=l.length:=by
 induction l with
 | nil=>intro j s;exact ⟨by show pl s=pl s+((0:Nat):Int);omega,ah _⟩
 | cons x l ih =>
  intro j s;obtain ⟨t,rec⟩:=x;unfold bE zH;rw [aX];split
  ·grind
  ·split
   ·grind
   ·grind [place,pl]
theorem l6 (hf:0<=m.frm):pl (X.get z e s m).2<=pl s+(if m.kind=3 then (m.B.length:Int) else if m.kind=2 then 1 else 0)/\(m.kind=2->(X.get z e s m).2.leads=false\/s.leads=true->pl (X.get z e s m).2<=pl s)/\(m.kind=3->m.N.getD 0 0<s.term->pl (X.get z e s m).2<=pl s):=by
 have hin:∀s1:Nd ρ,m.N.getD 0 0<=s1.term->pl (getIn z e s1 m).2<=pl s1+(if m.kind=3 then (m.B.length:Int) else if m.kind=2 then 1 else 0)/\(m.kind=2->(getIn z e s1 m).2.leads=false\/s1.leads=true->pl (getIn z e s1 m).2<=pl s1)/\(m.kind=3->m.N.getD 0 0<s1.term->pl (getIn z e s1 m).2<=pl s1):=λs1 hN=>by
  unfold getIn;split
  ·grind [asked,pl,enter,AX]
  ·split
   ·rename_i hk;unfold voted;split
    ·grind
    ·rename_i hy;simp only;split
     ·have h1:=uz (z:=z) (e:=e) { s1 with votes:=s1.votes.set m.frm.toNat true };have h2:pl { s1 with votes:=s1.votes.set m.frm.toNat true }=pl s1:=rfl;refine ⟨by rw [h1,h2];omega,λ_ h=>?_,λh=>by omega⟩;simp only [aW,aV,be,not_or,ne_eq,da,i7] at hy;have hld:=eC (z:=z) (e:=e) { s1 with votes:=s1.votes.set m.frm.toNat true };rw [hld.leads,hy.1.1.1] at h;rcases h with h | h<;>cases h
     ·exact ⟨by show pl s1<=_;omega,λ_ _=>aM _,λh=>by omega⟩
   ·split
    ·rename_i hk;unfold lays;split
     ·grind
     ·split
      ·grind
      ·rename_i hlt;refine ⟨?_,λh=>by omega,λ_ h=>absurd h hlt⟩;simp only;split
       ·obtain ⟨h1,h2⟩:=zD (m.N.getD 1 0).toNat ((m.N.drop 4).zip m.B) 0 { s1 with ticks:=0 };have hz:((m.N.drop 4).zip m.B).length<=m.B.length:=by rw [og];omega
        have h0:pl ({ s1 with ticks:=0 }:Nd ρ)=pl s1:=rfl;rw [h0] at h1;generalize bE (m.N.getD 1 0).toNat ((m.N.drop 4).zip m.B) 0 { s1 with ticks:=0 }=p at *;split
        ·grind [pl,qV]
        ·show pl p.2<=_;rw [h1];omega
       ·show pl s1<=_;omega
    ·grind [answered,pl,dt,mM]
 unfold X.get;split
 ·grind
 ·split
  ·rename_i ht;have h1:=nD (s:=s) (m.N.getD 0 0) (-1) ht;obtain ⟨a1,a2,a3⟩:=hin (enter s (m.N.getD 0 0) (-1)) (aM _);refine ⟨by omega,λhk hl=>?_,λ_ h=>by omega⟩;have hv:(getIn z e (enter s (m.N.getD 0 0) (-1)) m).2.leads=false:=by
    have hc:(enter s (m.N.getD 0 0) (-1)).choice = -1:=rfl;unfold getIn;rw [aw (by omega),ax hk];unfold voted;rw [ax (by
     rw [hc];simp only [aW,aV,be];exact .inl (.inr (by omega)))]
    exact fE _ ht
   have:=a2 hk (.inl hv);omega
  ·exact hin s (by omega)
theorem ul (hb:s.own<s.n) (ht:s.term<1099511627776):pl (X.tick z e s).2<=pl s+(if s.n=1 then 1 else 0):=by
 have hif:(0:Int)<=(if s.n=1 then 1 else 0):=by split<;>omega
 rcases dS (z:=z) (e:=e) s with ⟨h1,h2⟩ | ⟨h1,h2,h3,h4⟩ | ⟨h1,h2,h3,h4⟩ | ⟨h1,h2,h3,h4⟩
 ·rw [h2];show pl s<=_;omega
 ·rw [h4,fB hb ht];have hst:pl (dq s)<=pl s:=nD (s:={ s with clock:=s.clock+1,ticks:=s.ticks+1 }) (s.term+1) (s.own:Int) (by show s.term<s.term+1;omega);split
  ·rw [uz];omega
  ·show pl (dq s)<=_;omega
 ·rw [h4];show pl s<=_;omega
 ·rw [h4];show pl s<=_;omega
theorem oI (x:ρ):pl (X.submit z s x).2.2<=pl s+1:=by
 unfold X.submit;split
 ·show pl s<=_;omega
 ·grind [pl,dt,place,mM]
theorem BQ:pl (X.back s)=pl s:=rfl
end
end Go.Proofs.Ytnicaicjgaoolaa.X
