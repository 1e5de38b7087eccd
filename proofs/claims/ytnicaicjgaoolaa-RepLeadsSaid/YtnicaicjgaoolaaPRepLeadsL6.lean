/-
  What the proof of the law leans on: contracts of the program's functions, one behind another. No condition.
-/
import Derived.Test.YtnicaicjgaoolaaU0
import Derived.Test.YtnicaicjgaoolaaPRepLeadsL5
set_option linter.unusedVariables false
set_option linter.unusedSimpArgs false
namespace Go.Proofs.Ytnicaicjgaoolaa.X
section
variable {ρ:Type} {z:ρ->Bool} {e:ρ}
variable {n i:Nat} {b b' M:Int} {S S' S0:Cs ρ} {G:Gh ρ} {m:Ms ρ} {s:Nd ρ} {r:List (Ms ρ)×Nd ρ} {ms q:List (Ms ρ)} {Λ:Nat}
theorem jX (h:Wk z n b S) (hn:n<=5) (hb:b+1<=1099511627776):∀k,k<=n->(S.ticks z e k).q.length<=S.q.length+4*k:=by
 intro k;induction k with
 | zero=>intro _;exact ah _
 | succ k ih =>
  intro hk;have h1:=ih (by omega);have e0:S.ticks z e (k+1)=(S.ticks z e k).tick z e k:=by unfold Cs.ticks;rw [cE,cZ];rfl
  obtain ⟨t1,t2,_⟩:=dm (z:=z) (e:=e) k S;have e1:(S.ticks z e k).nd k=S.nd k:=by rw [t1,aw (by omega)]
  rw [e0];unfold Cs.tick;split
  ·rw [dR,ay,e1];obtain ⟨h2,_,h3⟩:=h.tk (e:=e) hb k (by omega);have:=h2.num;rw [h3] at this;omega
  ·omega
theorem Wk.drain1 (h:Wk z n b S) (hb:b<=1099511627776) (hq:S.q=m::q) (hn:n<=5):Wk z n b ((S.wq q).bring z e m)/\((S.wq q).bring z e m).q.length<=S.q.length+4:=by
 obtain ⟨G,hG⟩:=h;have hwm:WkM z [m] n b (S.wq q):=⟨G,⟨hG.gi,hG.ni,hG.ln,λx hx=>hG.mi x (by rw [hq];exact aI _ hx),hG.up,hG.tb,hG.lo⟩,λx hx=>by rw [aj.1 hx];exact hG.mi m (by rw [hq];exact aP)⟩
 obtain ⟨h1,i,h2,h3,h4,h5,h6⟩:=hwm.take (e:=e) hb aP;refine ⟨h1.wk,?_⟩;rw [hq,aX];cases hu:(S.wq q).up i with
 | false=>rw [h6 hu];show q.length<=_;omega
 | true =>
  rw [h5 hu,dR,ay];have hnn:=(hG.ni i h2).nn;have hnum:=h4.num;have e1:((S.wq q).nd i).n=n:=hnn;rw [e1] at hnum;show q.length+_<=_;rcases hnum with g | ⟨_,g⟩<;>omega
theorem wN (hn:n<=5) (hb:b<=1099511627776):∀(j:Nat) (S:Cs ρ),Wk z n b S->(Cs.drain z e j S).q.length<=S.q.length+4*j:=by
 intro j;induction j with
 | zero=>intro S _;exact ah _
 | succ j ih =>
  intro S h;cases hq:S.q with
  | nil=>rw [eG _ hq,hq];exact aA _
  | cons m q =>
   rw [eO j hq];obtain ⟨h1,h2⟩:=h.drain1 (e:=e) hb hq hn;have:=ih _ h1;rw [hq] at h2;omega
theorem pW (hG:WkG z n b G S) (hi:i<n) (hl:(S.nd i).leads=true) {x:Ms ρ} (hx:x∈S.q) (hk:x.kind=3) (hN:x.N.getD 0 0=(S.nd i).term):(x.N.getD 1 0).toNat+x.B.length<=(S.nd i).log.length:=by
 obtain ⟨f,_,_,_,_,h3,_⟩:=(hG.mi x hx).1.f;obtain ⟨_,p,a,e2,_,_,e5,_⟩:=h3 hk;have:=((hG.ni i hi).lds hl).2;rw [hN,<-this] at e5;omega
structure Lb (Λ:Nat) (S:Cs ρ):Prop where
 nd:∀i,S.up i=true->(S.nd i).log.length<=Λ\/((S.nd i).log.length<=Λ+1/\Zz (S.nd i))
 q:∀x∈S.q,x.kind=3->(x.N.getD 1 0).toNat+x.B.length<=Λ+1
theorem Lb.le (h:Lb Λ S) (i:Nat) (hu:S.up i=true):(S.nd i).log.length<=Λ+1:=by rcases h.nd i hu with g | g<;>omega
theorem un (hG:WkG z n b G S) (hb:b+1<=1099511627776) (hi:i<n) (hl:(S.nd i).log.length<=Λ) :
  ((X.tick z e (S.nd i)).2.log.length<=Λ\/((X.tick z e (S.nd i)).2.log.length<=Λ+1/\Zz (X.tick z e (S.nd i)).2))/\∀x∈(X.tick z e (S.nd i)).1,x.kind=3->(x.N.getD 1 0).toNat+x.B.length<=Λ:=by
 have hni:=hG.ni i hi;have htb:=hG.tb i hi;rcases dS (z:=z) (e:=e) (S.nd i) with ⟨h1,h2⟩ | ⟨h1,h2,h3,h4⟩ | ⟨h1,h2,h3,h4⟩ | ⟨h1,h2,h3,h4⟩
 ·rw [h2];refine ⟨.inl hl,gc λd d1 d2 _=>?_⟩;have:=hni.next h1 d;show (((S.nd i).next.getD d 0:Nat):Int).toNat+(((((S.nd i).log.drop ((S.nd i).next.getD d 0)).take 20).map Prod.snd)).length<=Λ;rw [aQ,aE,bw];omega
 ·rw [h4,fB (by rw [hni.own,hni.nn];exact hi) (by omega)];split
  ·have hld:=eC (z:=z) (e:=e) (dq (S.nd i));refine ⟨.inr ⟨?_,.inl hld.leads⟩,λx hx=>?_⟩
   ·rw [hld.len];show (S.nd i).log.length+1<=_;omega
   ·rename_i h5;exfalso;rw [hld.ms] at hx;obtain ⟨d,d1,d2,_⟩:=cJ _ _ _ hx;rw [hld.n] at d1;rw [hld.own] at d2;have d1:d<(S.nd i).n:=d1;have d2:d≠(S.nd i).own:=d2;have:=hni.own;have:=hni.nn;omega
  ·exact ⟨.inl hl,gc λd d1 d2 h=>by cases h⟩
 ·rw [h4];exact ⟨.inl hl,gc λd d1 d2 h=>by cases h⟩
 ·grind
structure Rd (z:ρ->Bool) (e:ρ) (n:Nat) (b M:Int) (Λ:Nat) (S0 S1 S2 S3:Cs ρ):Prop where
 wk:Wk z n (b+1) S3
 q:S3.q=[]
 up:S3.up=S0.up
 top:∃y,y<n/\S0.up y=true/\((S0.ticks z e n).nd y).term=M
 ra:Ra z e n (b+1) M (S0.ticks z e n) S1 S2
 p2:P3 z n (b+1) M S2
 kp:Kp S2 S3
 ub:∀i,S0.up i=true->(S3.nd i).term<=M
 term:∀i,((S0.ticks z e n).nd i).term<=(S3.nd i).term
 clock:∀i,(S3.nd i).clock=((S0.ticks z e n).nd i).clock
 ticks:∀i,(S3.nd i).ticks=((S0.ticks z e n).nd i).ticks\/(S3.nd i).ticks=0
 log:∀i,S0.up i=true->(S3.nd i).log.length<=Λ+1
 lead:∀l,S0.up l=true->(S3.nd l).leads=true->Lead M S3 l
 all:∀w,S0.up w=true->((S0.ticks z e n).nd w).term=M->1<=M->(∀d,d<n->d≠w->∃x∈(S0.ticks z e n).q,x.dst=(d:Int)/\x.N.getD 0 0=M)->∀j,S0.up j=true->(S3.nd j).term=M
 all1:∀w,S0.up w=true->((S0.ticks z e n).nd w).term=M->1<=M->(∀d,d<n->d≠w->∃x∈(S0.ticks z e n).q,x.dst=(d:Int)/\x.N.getD 0 0=M)->∀j,S0.up j=true->(S1.nd j).term=M
 same:S2.q=[]->S3=S2
 dr:∃k,S3=Cs.drain z e k S2/\phi n S2<=k
 small:∀j,(Cs.drain z e j (S0.ticks z e n)).q.length<=180+3*(Λ+1)
theorem yK (h:Wk z n b S) (hn:n<=5) (hb:b+1<=1099511627776) (hq:S.q=[]) (hup:∃i,i<n/\S.up i=true) (hΛ:∀i,S.up i=true->(S.nd i).log.length<=Λ) (F:Nat) (hF:200+22*(Λ+1)<=F) :
  ∃M,Rd z e n b M Λ S ((S.ticks z e n).noq.dl z e (S.ticks z e n).q) (((S.ticks z e n).noq.dl z e (S.ticks z e n).q).noq.dl z e ((S.ticks z e n).noq.dl z e (S.ticks z e n).q).q) (Cs.drain z e F (S.ticks z e n)):=by
 obtain ⟨t1,t2,t3⟩:=dm (z:=z) (e:=e) n S;have hw:=h.ticks (e:=e) hb;have hlenA:=jX (e:=e) h hn hb n (ah _);rw [hq,dU] at hlenA;obtain ⟨y,y1,y2,y3⟩:=lX (S.ticks z e n) n (by rw [t2];exact hup);have hupn:∀i,S.up i=true->i<n:=by obtain ⟨G,hG⟩:=h;exact hG.up
 have hMq:∀m∈(S.ticks z e n).q,m.N.getD 0 0<=((S.ticks z e n).nd y).term:=λm hm=>by
  rcases (t3 m).1 hm with g | ⟨i,i1,i2,i3⟩
  ·rw [hq] at g;cases g
  ·obtain ⟨_,o2,_⟩:=(h.tk (e:=e) hb i i1).1.out m i3;have:=y3 i i1 (by rw [t2];exact i2);rw [o2];have e1:(S.ticks z e n).nd i=(X.tick z e (S.nd i)).2:=by rw [t1,ax ⟨i1,i2⟩]
   rw [e1] at this;exact this
 have hM:UB ((S.ticks z e n).nd y).term (S.ticks z e n):=⟨λi hi=>y3 i (hupn i (by rw [<-t2];exact hi)) hi,hMq⟩
 have ra:=CV (e:=e) h hn hb hq hM (by rw [<-t2];exact y2) rfl;have lbA:Lb Λ (S.ticks z e n)/\∀x∈(S.ticks z e n).q,x.kind=3->(x.N.getD 1 0).toNat+x.B.length<=Λ:=by
  obtain ⟨G,hG⟩:=h;have hx:∀x∈(S.ticks z e n).q,x.kind=3->(x.N.getD 1 0).toNat+x.B.length<=Λ:=λx hx hk=>by
   rcases (t3 x).1 hx with g | ⟨i,i1,i2,i3⟩
   ·rw [hq] at g;cases g
   ·exact (un (e:=e) hG hb i1 (hΛ i i2)).2 x i3 hk
  refine ⟨⟨λi hi=>?_,λx hx1 hk=>by have:=hx x hx1 hk;omega⟩,hx⟩;rw [t2] at hi;rw [t1,ax ⟨hupn i hi,hi⟩];exact (un (e:=e) hG hb (hupn i hi) (hΛ i hi)).1
 generalize hSA:S.ticks z e n=SA at *;generalize hMM:(SA.nd y).term=M at *;have w0:=hw.wkm;have hkA:∀x∈SA.q,(x.kind=1\/x.kind=3\/x.kind=5):=λx hx=>by
  rcases (t3 x).1 hx with g | ⟨i,i1,i2,i3⟩
  ·rw [hq] at g;cases g
  ·obtain ⟨_,_,_,_,o⟩:=(h.tk (e:=e) hb i i1).1.out x i3;rcases o with o | o | o
   ·exact .inl o.1
   ·exact .inr (.inl o.1)
   ·exact .inr (.inr o.1)
 have ub0:UB M SA.noq:=⟨hM.nd,λm hm=>by cases hm⟩
 have p0:Ph z n (b+1) M SA.q SA.noq SA.noq:=Ph.start w0 ub0;have lb1:Lb Λ (SA.noq.dl z e SA.q):=(eP (z:=z) (e:=e) (ms:=SA.q) (S:=SA.noq) (Inv:=λS'=>Ph z n (b+1) M SA.q SA.noq S'/\Lb Λ S'/\∀x∈S'.q,x.kind≠3) (λS' m hI hm=>by
  obtain ⟨a1,a2,a3⟩:=hI;obtain ⟨g1,i,g2,g3,g4,g5,g6⟩:=a1.take (e:=e) hb hm (hMq m hm);refine ⟨g1,?_⟩;cases hu:S'.up i with
  | false=>rw [g6 hu];exact ⟨a2,a3⟩
  | true =>
   rw [g5 hu];have hk3:∀x∈S'.q++(X.get z e (S'.nd i) m).1,x.kind≠3:=λx hx=>by
    rcases av.1 hx with hx | hx
    ·exact a3 x hx
    ·obtain ⟨_,_,_,o,_⟩:=g4.out x hx;have:=hkA m hm;rcases o with o | o | o | o<;>omega
   refine ⟨⟨λj hj=>?_,λx hx hk=>absurd hk (hk3 x hx)⟩,hk3⟩;rw [bi];split
   ·rename_i e1;subst e1;have gl:=ma (z:=z) (e:=e) (s:=S'.nd j) (m:=m);have hlay:(if m.kind=3 then (m.N.getD 1 0).toNat+m.B.length else 0)<=Λ:=by
     grind
    rcases gl.len with g | ⟨g,_⟩
    ·rcases a2.nd j hj with g7 | ⟨g7,g8⟩
     ·exact .inl (by omega)
     ·exact .inr ⟨by omega,gl.zz g8⟩
    ·have:=hkA m hm;omega
   ·exact a2.nd j hj) ⟨p0,⟨lbA.1.nd,λx hx=>by cases hx⟩,λx hx=>by cases hx⟩).2.1
 have EV0:∀(l:Nat),SA.up l=true->(SA.nd l).leads=true->(SA.nd l).term=M->∀j,SA.up j=true->j≠l->((SA.noq.dl z e SA.q).nd j).term=M/\((SA.noq.dl z e SA.q).nd j).ticks=0:=λl hl1 hl2 hl3 j hj hjl=>by
  have hln:=hupn l (by rw [<-t2];exact hl1);have hjn:=hupn j (by rw [<-t2];exact hj);obtain ⟨htk,ho,hnn⟩:=h.tk (e:=e) hb l hln;have hul:S.up l=true:=by rw [<-t2];exact hl1
  have e1:SA.nd l=(X.tick z e (S.nd l)).2:=by rw [t1,ax ⟨hln,hul⟩]
  obtain ⟨x,x1,x2,x3⟩:=htk.lead (by rw [<-e1];exact hl2) j (by rw [hnn];exact hjn) (by rw [ho];exact hjl);obtain ⟨o1,o2,_⟩:=htk.out x x1;have hxM:x.N.getD 0 0=M:=by rw [o2,<-e1];exact hl3
  refine Ph.ev (e:=e) (I:=λS'=>(S'.nd l).leads=true/\(S'.nd l).term=M) (P:=λs=>s.term=M/\s.ticks=0) p0 hb hMq ((t3 x).2 (.inr ⟨l,hln,hul,x1⟩)) x2 hj ⟨hl2,hl3⟩ (λS' m hp hI hm=>hp.lead hb hm (hMq m hm) hl1 hI) (λS' hp hI hg=>?_) (λs m r hg hle hP=>?_)
  ·obtain ⟨G,hG,hms⟩:=hp.wk;have hxq:x∈SA.q:=(t3 x).2 (.inr ⟨l,hln,hul,x1⟩);obtain ⟨mi,fm⟩:=hms x hxq;have hMp:1<=M:=by
    have:=(hG.gi.led _ _ ((hG.ni l hln).lds hI.1).1).2;rw [hI.2] at this;exact this
   obtain ⟨i5,_,e5,_,hfit⟩:=fm.fit hb (by omega);obtain rfl:i5=j:=by omega
   have hni:=hG.ni i5 hjn;have hti:=hp.ub.nd i5 (by rw [hp.up];exact hj);have h1:=hg.reach;have h2:=hg.top;refine ⟨by omega,o0 (z:=z) (e:=e) hfit hni.own hni.nn mi x3 (by omega) ?_⟩;cases hle:(S'.nd i5).leads with
   | false=>exact .inl rfl
   | true =>
    by_cases hlt:(S'.nd i5).term<M
    ·exact .inr (by omega)
    ·grind [hG.one]
  ·grind [hg.up,hg.ticks]
 have ALL:∀w,SA.up w=true->(SA.nd w).term=M->1<=M->(∀d,d<n->d≠w->∃x∈SA.q,x.dst=(d:Int)/\x.N.getD 0 0=M)->∀j,SA.up j=true->M<=((SA.noq.dl z e SA.q).nd j).term:=λw w1 w2 w3 w4 j hj=>by
  by_cases hjw:j=w
  ·subst hjw;have:=(w0.mono (e:=e) hb j).1;rw [<-w2];exact this
  ·obtain ⟨x,x1,x2,x3⟩:=w4 j (hupn j (by rw [<-t2];exact hj)) hjw;exact Ph.ev (e:=e) (I:=λ_=>True) (P:=λs=>M<=s.term) p0 hb hMq x1 x2 hj trivial (λ_ _ _ _ _=>trivial) (λS' hp _ hg=>by have:=hg.reach;omega) (λs m r hg hle hP=>by have:=hg.up;omega)
 have L0:=w0.mono (e:=e) hb;have hdr:∀k,Cs.drain z e (SA.q.length+k) SA=Cs.drain z e k (SA.noq.dl z e SA.q):=λk=>sc SA.q k SA [] (by simp);have lead1:∀l,SA.up l=true->(SA.nd l).leads=true->(SA.nd l).term=M->((SA.noq.dl z e SA.q).nd l).leads=true/\((SA.noq.dl z e SA.q).nd l).term=M:=λl hl1 hl2 hl3 =>
  (eP (z:=z) (e:=e) (ms:=SA.q) (S:=SA.noq) (Inv:=λS'=>Ph z n (b+1) M SA.q SA.noq S'/\(S'.nd l).leads=true/\(S'.nd l).term=M) (λS' m hI hm=>⟨(hI.1.take hb hm (hMq m hm)).1,hI.1.lead hb hm (hMq m hm) hl1 hI.2⟩) ⟨p0,hl2,hl3⟩).2
 have nolead1:∀l,(SA.nd l).leads=false->((SA.noq.dl z e SA.q).nd l).leads=false:=λl hl =>
  (eP (z:=z) (e:=e) (ms:=SA.q) (S:=SA.noq) (Inv:=λS'=>Ph z n (b+1) M SA.q SA.noq S'/\(S'.nd l).leads=false) (λS' m hI hm=>by
   obtain ⟨g1,i,g2,g3,g4,g5,g6⟩:=hI.1.take (e:=e) hb hm (hMq m hm);refine ⟨g1,?_⟩;cases hu:S'.up i with
   | false=>rw [g6 hu];exact hI.2
   | true =>
    rw [g5 hu,bi];split
    ·grind [g4.leads]
    ·exact hI.2) ⟨p0,hl⟩).2
 generalize hS1:SA.noq.dl z e SA.q=S1 at *;have w1:=ra.w1.wkm;have ub1:UB M S1.noq:=⟨ra.b1.nd,λm hm=>by cases hm⟩
 have p1:Ph z n (b+1) M S1.q S1.noq S1.noq:=Ph.start w1 ub1;have hM1:=ra.b1.q;have L1:=w1.mono (e:=e) hb;have hdr1:∀k,Cs.drain z e (S1.q.length+k) S1=Cs.drain z e k (S1.noq.dl z e S1.q):=λk=>sc S1.q k S1 [] (by simp);have lb2:Lb Λ (S1.noq.dl z e S1.q):=(eP (z:=z) (e:=e) (ms:=S1.q) (S:=S1.noq) (Inv:=λS'=>Ph z n (b+1) M S1.q S1.noq S'/\Lb Λ S') (λS' m hI hm=>by
  obtain ⟨a1,a2⟩:=hI;obtain ⟨g1,i,g2,g3,g4,g5,g6⟩:=a1.take (e:=e) hb hm (hM1 m hm);refine ⟨g1,?_⟩;cases hu:S'.up i with
  | false=>rw [g6 hu];exact a2
  | true =>
   have gl:=ma (z:=z) (e:=e) (s:=S'.nd i) (m:=m);have hk:=ra.k1 m hm;have hone:(X.get z e (S'.nd i) m).2.log.length<=Λ\/((X.get z e (S'.nd i) m).2.log.length<=Λ+1/\Zz (X.get z e (S'.nd i) m).2):=by
    rcases gl.len with g | ⟨_,g7,g8,g9⟩
    ·rw [aw (by omega)] at g;rcases a2.nd i hu with g7 | ⟨g7,g8⟩
     ·exact .inl (by omega)
     ·exact .inr ⟨by omega,gl.zz g8⟩
    ·rcases a2.nd i hu with g | g
     ·exact .inr ⟨by omega,g8⟩
     ·exact absurd g.2 g7
   rw [g5 hu] at g1 ⊢;refine ⟨λj hj=>?_,λx hx hk3=>?_⟩
   ·rw [bi];split
    ·exact hone
    ·exact a2.nd j hj
   ·rw [dR] at hx;rcases av.1 hx with hx2 | hx2
    ·exact a2.q x hx2 hk3
    ·obtain ⟨o1,o2,_,_,o5⟩:=g4.out x hx2;obtain ⟨G,hG,_⟩:=g1.wk;have e1:((S'.call i (X.get z e (S'.nd i) m)).nd i)=(X.get z e (S'.nd i) m).2:=by rw [bi,ax rfl]
     have:=pW hG g2 (by rw [e1];exact o5 hk3) hx hk3 (by rw [e1];exact o2);rw [e1] at this;rcases hone with g | g<;>omega) ⟨p1,⟨lb1.nd,λx hx=>by cases hx⟩⟩).2
 have EV1:=eP (z:=z) (e:=e) (ms:=S1.q) (S:=S1.noq) (Inv:=λS'=>Ph z n (b+1) M S1.q S1.noq S'/\∀l,l<n->(S'.nd l).leads=true->(S1.nd l).leads=false->∀d,d<n->d≠l->∃x∈S'.q,x.kind=3/\x.dst=(d:Int)/\x.N.getD 0 0=(S'.nd l).term) (λS' m hI hm=>by
  obtain ⟨a1,a2⟩:=hI;obtain ⟨g1,i,g2,g3,g4,g5,g6⟩:=a1.take (e:=e) hb hm (hM1 m hm);refine ⟨g1,?_⟩;cases hu:S'.up i with
  | false=>rw [g6 hu];exact a2
  | true =>
   rw [g5 hu];intro l hln hl1 hl2 d d1 d2;rw [bi] at hl1 ⊢;split at hl1
   ·rename_i e1;subst e1;rw [ax rfl];rcases g4.leads hl1 with g | g
    ·obtain ⟨x,x1,x2,x3,x4⟩:=a2 l hln g.1 hl2 d d1 d2;exact ⟨x,aD _ x1,x2,x3,x4.trans g.2.symm⟩
    ·obtain ⟨G,hG,_⟩:=a1.wk;have hni:=hG.ni l hln;obtain ⟨x,x1,x2,x3,_,x4⟩:=wL g.2.2.2.2 hl1 d (by rw [hni.nn];exact d1) (by rw [hni.own];exact d2);exact ⟨x,aG _ x1,x2,x3,x4⟩
   ·rename_i e1;rw [aw e1];obtain ⟨x,x1,x2,x3,x4⟩:=a2 l hln hl1 hl2 d d1 d2;exact ⟨x,aD _ x1,x2,x3,x4⟩) ⟨p1,λl _ hl1 hl2=>by
     have hl1:(S1.nd l).leads=true:=hl1;rw [hl1] at hl2;cases hl2⟩
 obtain ⟨_,EV1⟩:=EV1;generalize hS2:S1.noq.dl z e S1.q=S2 at *;have hu2:S2.up=S.up:=ra.u2.trans t2;have P:P3 z n (b+1) M S2:=by
  refine ⟨ra.w2,ra.b2,λm hm=>.inl (ra.k2 m hm),ra.lead,λm hm _ i hu hl hf=>?_,λi hu hl=>?_,λm hm hk=>?_⟩
  ·obtain ⟨j,j1,j2⟩:=ra.from_ m hm;obtain rfl:j=i:=by omega
   rw [j2,<-ra.own j hl];exact ra.lead j hu hl
  ·refine List.Pairwise.imp_of_mem (R:=λ_ _=>True) (λ{a b} ha hb' _ h5=>?_) (List.pairwise_of_forall (λ_ _=>trivial));have:=ra.k2 a ha;omega
  ·have:=ra.k2 m hm;omega
 have hq1:=ra.q1;have hq2:=ra.q2;have hn20:SA.q.length<=20:=by omega
 obtain ⟨φ1,φ2⟩:=yU (M:=M) ra.w2 hn ra.lead (Λ:=Λ+1) (λi hu _=>lb2.le i hu);have hF2:Cs.drain z e F SA=Cs.drain z e (F - SA.q.length - S1.q.length) S2:=by
  grind
 obtain ⟨c1,c2,c3,c4,c5⟩:=P3.end_ (z:=z) (e:=e) (Inv:=λS'=>∀i,S'.up i=true->(S'.nd i).log.length<=Λ+1/\∀x∈S'.q,x.kind=3->(x.N.getD 1 0).toNat+x.B.length<=Λ+1) hn hb (λS' m q p hi hq st j hj=>by
  obtain ⟨i,k1,k2,k3,k4,k5⟩:=st.cut;rw [st.kp.up] at hj;cases hu:S'.up i with
  | false =>
   rw [k5 hu];exact ⟨(hi j hj).1,λx hx=>(hi j hj).2 x (by rw [hq];exact aI _ hx)⟩
  | true =>
   have gl:=ma (z:=z) (e:=e) (s:=S'.nd i) (m:=m);have hlen:(X.get z e (S'.nd i) m).2.log.length<=Λ+1:=by
    have h1:=(hi i hu).1;have h2:(if m.kind=3 then (m.N.getD 1 0).toNat+m.B.length else 0)<=Λ+1:=by
     split
     ·grind [aP]
     ·exact aA _
    rcases gl.len with g | ⟨g,_⟩
    ·omega
    ·grind [p.kd]
   have hst:=st.p;rw [k4 hu] at hst ⊢;refine ⟨?_,λx hx hk3=>?_⟩
   ·rw [bi];split
    ·exact hlen
    ·exact (hi j hj).1
   ·rw [dR] at hx;rcases av.1 hx with hx2 | hx2
    ·exact (hi j hj).2 x (by rw [hq];exact aI _ hx2) hk3
    ·obtain ⟨o1,o2,_,_,o5⟩:=k3.out x hx2;obtain ⟨G,hG⟩:=hst.wk;have e1:(((S'.wq q).call i (X.get z e (S'.nd i) m)).nd i)=(X.get z e (S'.nd i) m).2:=by rw [bi,ax rfl]
     have:=pW hG k1 (by rw [e1];exact o5 hk3) hx hk3 (by rw [e1];exact o2);rw [e1] at this;omega) (F - SA.q.length - S1.q.length) S2 P (λi hi=>⟨lb2.le i hi,lb2.q⟩) (by omega)
 rw [hF2];have hup3:(Cs.drain z e (F - SA.q.length - S1.q.length) S2).up=S.up:=c3.up.trans hu2;have ht2:∀i,(SA.nd i).term<=(S2.nd i).term:=λi=>cS (L0 i).1 (L1 i).1;refine ⟨M,⟨c1.wk,c2,hup3,⟨y,y1,by rw [<-t2];exact y2,hSA ▸ hMM⟩,hSA ▸ ra,P,c3,λi hi=>c1.ub.nd i (by rw [hup3];exact hi),λi=>by rw [hSA];exact cS (ht2 i) (c3.term i),λi=>by rw [hSA];exact (c3.clock i).trans ((L1 i).2.1.trans (L0 i).2.1),λi=>?_,λi hi=>(c4 i (by rw [hup3];exact hi)).1,λl hl1 hl2=>?_,λw a1 a2 a3 a4 j hj=>?_,λw a1 a2 a3 a4 j hj=>?_,λhq2=>eG _ hq2,⟨_,rfl,by omega⟩,λj=>?_⟩⟩
 ·rw [hSA];rcases c3.ticks i with g | g
  ·rw [g];rcases (L1 i).2.2.2 with g2 | g2
   ·rw [g2];exact (L0 i).2.2.2
   ·exact .inr g2
  ·exact .inr g
 ·have hl3:=c3.back l hl2;have hul:S2.up l=true:=by rw [hu2];exact hl1
  have hln:=hupn l hl1;refine P.lead hn hb ⟨hul,hl3⟩ (λj hj hjl=>?_) _ (by omega);have hjS:S.up j=true:=by rw [<-hu2];exact hj
  have hjn:=hupn j hjS;cases hl4:(S1.nd l).leads with
  | false =>
   obtain ⟨x,x1,x2,x3,x4⟩:=EV1 l hln hl3 hl4 j hjn hjl;exact .inr ⟨x,x1,x2,x3,by rw [x4];exact ra.lead l hul hl3⟩
  | true =>
   left;have hSAl:(SA.nd l).leads=true:=by
    grind
   have hSAt:(SA.nd l).term=M:=by rw [<-ra.own l hl3];exact ra.lead l hul hl3
   obtain ⟨g1,g2⟩:=EV0 l (by rw [t2];exact hl1) hSAl hSAt j (by rw [t2];exact hjS) hjl;have h1:=(L1 j).1;have h2:=ra.b2.nd j hj;have e1:(S1.noq.nd j).term=M:=g1;refine ⟨by omega,?_⟩;rcases (L1 j).2.2.2 with g3 | g3
   ·rw [g3];exact g2
   ·exact g3
 ·rw [hSA] at a2 a4;have:=ALL w (by rw [t2];exact a1) a2 a3 a4 j (by rw [t2];exact hj);have h1:=(L1 j).1;have h2:=c3.term j;have h3:=c1.ub.nd j (by rw [hup3];exact hj);have e1:(S1.nd j).term=(S1.noq.nd j).term:=rfl;omega
 ·rw [hSA] at a2 a4;have:=ALL w (by rw [t2];exact a1) a2 a3 a4 j (by rw [t2];exact hj);have h3:=ra.b1.nd j (by rw [ra.u1,t2];exact hj);omega
 ·rw [hSA];by_cases hj:j<=40
  ·have:=wN (e:=e) hn hb j SA hw;omega
  ·have e1:j=SA.q.length+(S1.q.length+(j - SA.q.length - S1.q.length)):=by omega
   rw [e1,hdr,hdr1];have:=c5 (j - SA.q.length - S1.q.length);omega
end
section
variable {ρ:Type} {z:ρ->Bool} {e:ρ}
variable {n i:Nat} {b b' M T:Int} {S S' S0:Cs ρ} {G:Gh ρ} {m:Ms ρ} {s:Nd ρ} {r:List (Ms ρ)×Nd ρ} {ms q:List (Ms ρ)} {Λ:Nat}
theorem l7 (hk:m.kind≠3) (hl:(X.get z e s m).2.leads=false\/s.leads=true):(X.get z e s m).2.log=s.log:=by
 have hin:∀s1:Nd ρ,(getIn z e s1 m).2.leads=false\/s1.leads=true->(getIn z e s1 m).2.log=s1.log:=λs1 h=>by
  unfold getIn at h ⊢;split
  ·unfold asked;split
   ·simp only;split
    ·split<;>rfl
    ·rfl
   ·rfl
  ·split
   ·rename_i h1 h2;rw [aw h1,ax h2] at h;unfold voted at h ⊢;split
    ·rfl
    ·rename_i hy;rw [aw hy] at h;simp only at h ⊢;split
     ·rename_i hc;rw [ax hc] at h;simp only [aW,aV,be,not_or,ne_eq,da,i7] at hy;have hld:=eC (z:=z) (e:=e) { s1 with votes:=s1.votes.set m.frm.toNat true };rw [hld.leads,hy.1.1.1] at h;rcases h with h | h<;>cases h
     ·rfl
   ·grind [answered,dt]
 unfold X.get at hl ⊢;split
 ·rfl
 ·rename_i hb;rw [aw hb] at hl;split
  ·rename_i ht;rw [ax ht] at hl;refine hin (enter s (m.N.getD 0 0) (-1)) ?_;rcases hl with hl | hl
   ·exact .inl hl
   ·-- one that was of an elder term
    by_cases hz:(getIn z e (enter s (m.N.getD 0 0) (-1)) m).2.leads=true
    ·exfalso;have h:=nK (z:=z) (e:=e) (s:=enter s (m.N.getD 0 0) (-1)) (m:=m);have hv:(enter s (m.N.getD 0 0) (-1)).choice = -1:=rfl;unfold getIn at hz;split at hz
     ·grind [asked,enter,fE]
     ·split at hz
      ·unfold voted at hz;rw [ax (by
        rw [hv];simp only [aW,aV,be];exact .inl (.inr (by omega)))] at hz
       rw [fE _ ht] at hz;cases hz
      ·grind [answered,fE,enter]
    ·grind
  ·grind
theorem l9 (hk:m.kind≠5):(X.get z e s m).2.heard=s.heard:=by
 have hin:∀s1:Nd ρ,(getIn z e s1 m).2.heard=s1.heard:=λs1=>by
  unfold getIn;split
  ·unfold asked;split
   ·simp only;split
    ·split<;>rfl
    ·rfl
   ·rfl
  ·split
   ·unfold voted;split
    ·rfl
    ·simp only;split
     ·exact (eC (z:=z) (e:=e) { s1 with votes:=s1.votes.set m.frm.toNat true }).heard
     ·rfl
   ·grind [lays,iM,bE,gF,answered,dt]
 unfold X.get;split
 ·rfl
 ·split
  ·exact hin _
  ·exact hin _
theorem zX (hf:Fit i n m) (hi:s.own=i) (hn:s.n=n) (hk:m.kind=5) (hN:m.N.length=3) (ht:m.N.getD 0 0<=s.term):X.get z e s m=([],{ s with heard:=s.heard.set m.frm.toNat ((s.clock:Int),m.N.getD 1 0,m.N.getD 2 0)}):=by
 unfold X.get;rw [hf.ok hi hn];simp only [cD,if_false];rw [aw (by omega)];unfold getIn;rw [aw (by omega),aw (by omega),aw (by omega),aw (by omega),ax hk,ax hN]
def kf (s:Nd ρ) (m:Ms ρ):Prop:=m.N.length=3/\(bD s.log s.log.length<m.N.getD 2 0\/(m.N.getD 2 0=bD s.log s.log.length/\(s.log.length:Int)<=m.N.getD 1 0))
structure Askd (s:Nd ρ) (m:Ms ρ) (r:List (Ms ρ)×Nd ρ):Prop where
 term:r.2.term=max s.term (m.N.getD 0 0)
 no:¬(kf s m/\m.N.getD 0 0=r.2.term/\(s.term<m.N.getD 0 0\/s.choice = -1\/s.choice=m.frm))->r.2.ticks=s.ticks/\r.2.choice=(if s.term<m.N.getD 0 0 then -1 else s.choice)
 yes:kf s m/\m.N.getD 0 0=r.2.term/\(s.term<m.N.getD 0 0\/s.choice = -1\/s.choice=m.frm)->r.2.ticks=0/\r.2.choice=m.frm/\∃x∈r.1,x.kind=2/\x.dst=m.frm/\x.frm=(s.own:Int)/\x.N.getD 0 0=r.2.term/\x.N.getD 1 0=1
theorem n7 (ht:m.N.getD 0 0<=s.term):(asked s m).2.term=s.term/\(asked s m).2.leads=s.leads /\
  (¬(kf s m/\m.N.getD 0 0=s.term/\(s.choice = -1\/s.choice=m.frm))->(asked s m).2.ticks=s.ticks/\(asked s m).2.choice=s.choice) /\
  (kf s m/\m.N.getD 0 0=s.term/\(s.choice = -1\/s.choice=m.frm)->(asked s m).2.ticks=0/\(asked s m).2.choice=m.frm/\∃x∈(asked s m).1,x.kind=2/\x.dst=m.frm/\x.frm=(s.own:Int)/\x.N.getD 0 0=s.term/\x.N.getD 1 0=1):=by
 have e0:(s.leads && !decide (s.term<s.term))=s.leads:=by simp
 unfold asked kf;split
 ·rename_i hN;simp only;split
  ·rename_i hy;simp only [bk,cH,aW,aR] at hy;obtain ⟨⟨hy1,hy2⟩,hy3⟩:=hy;split
   ·rename_i hc;exact ⟨rfl,e0,λhno=>absurd ⟨⟨hN,hy2⟩,hy1,hy3⟩ hno,λ_=>⟨rfl,rfl,_,dX _,rfl,rfl,rfl,rfl,rfl⟩⟩
   ·rename_i hc;have hcf:s.choice=m.frm:=by
     grind
    exact ⟨rfl,rfl,λhno=>absurd ⟨⟨hN,hy2⟩,hy1,hy3⟩ hno,λ_=>⟨rfl,hcf,_,dX _,rfl,rfl,rfl,rfl,rfl⟩⟩
  ·grind
 ·grind
theorem rQ (hf:Fit i n m) (hi:s.own=i) (hn:s.n=n) (hk:m.kind=1):Askd s m (X.get z e s m)/\((X.get z e s m).2.leads=true->s.leads=true):=by
 unfold X.get;rw [hf.ok hi hn];simp only [cD,if_false];split
 ·rename_i ht;have e1:getIn z e (enter s (m.N.getD 0 0) (-1)) m=asked (enter s (m.N.getD 0 0) (-1)) m:=by unfold getIn;rw [ax hk]
  rw [e1];obtain ⟨a1,a2,a3,a4⟩:=n7 (s:=enter s (m.N.getD 0 0) (-1)) (m:=m) (aM _);have e2:(enter s (m.N.getD 0 0) (-1)).term=m.N.getD 0 0:=rfl;refine ⟨⟨by rw [a1,e2];omega,λh=>?_,λh=>?_⟩,λh=>by rw [a2,fE _ ht] at h;cases h⟩
  ·have:=a3 (λg=>h ⟨g.1,by rw [a1,e2],.inl ht⟩);exact ⟨this.1,by rw [this.2,ax ht];rfl⟩
  ·have:=a4 ⟨h.1,rfl,.inl rfl⟩;refine ⟨this.1,this.2.1,?_⟩;rw [a1];exact this.2.2
 ·rename_i ht;have e1:getIn z e s m=asked s m:=by unfold getIn;rw [ax hk]
  rw [e1];obtain ⟨a1,a2,a3,a4⟩:=n7 (s:=s) (m:=m) (by omega);refine ⟨⟨by rw [a1];omega,λh=>?_,λh=>?_⟩,λh=>by rw [a2] at h;exact h⟩
  ·grind
  ·grind
end
end Go.Proofs.Ytnicaicjgaoolaa.X
