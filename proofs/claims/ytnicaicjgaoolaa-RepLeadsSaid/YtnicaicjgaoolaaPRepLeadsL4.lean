/-
  What the proof of the law leans on: contracts of the program's functions, one behind another. No condition.
-/
import Derived.Test.YtnicaicjgaoolaaU0
import Derived.Test.YtnicaicjgaoolaaPRepLeadsL3
set_option linter.unusedVariables false
set_option linter.unusedSimpArgs false
namespace Go.Proofs.Ytnicaicjgaoolaa.X
section
variable {ρ:Type} {z:ρ->Bool} {e:ρ}
variable {n i:Nat} {b b' M:Int} {S S':Cs ρ} {G:Gh ρ} {m:Ms ρ} {s:Nd ρ} {r:List (Ms ρ)×Nd ρ} {ms:List (Ms ρ)}
structure Tk (s:Nd ρ) (r:List (Ms ρ)×Nd ρ):Prop where
 own:r.2.own=s.own
 n:r.2.n=s.n
 clock:r.2.clock=s.clock+1
 term:r.2.term=s.term\/r.2.term=s.term+1
 out:∀x∈r.1,x.frm=(s.own:Int)/\x.N.getD 0 0=r.2.term/\2<=x.N.length/\(∃d:Nat,d<s.n/\d≠s.own/\x.dst=(d:Int)) /\
  ((x.kind=1/\x.N.length=3/\r.2.term=s.term+1/\r.2.leads=false)\/(x.kind=3/\r.2.leads=true)\/(x.kind=5/\r.2.leads=false))
 lead:r.2.leads=true->∀d,d<s.n->d≠s.own->∃x∈r.1,x.dst=(d:Int)/\x.kind=3
 cand:r.2.term=s.term+1->∀d,d<s.n->d≠s.own->∃x∈r.1,x.dst=(d:Int)/\x.kind=1/\x.N.length=3
 num:r.1.length+1<=s.n
 cnt:r.2.cnt<=s.cnt+2
 len:r.2.log.length<=s.log.length+1
theorem gc {s1:Nd ρ} {f:Nat->Ms ρ} {P:Ms ρ->Prop} (h:∀d,d<s1.n->d≠s1.own->P (f d)):∀x∈cT s1 f,P x:=λx hx=>by
 obtain ⟨d,h1,h2,rfl⟩:=cJ _ _ _ hx;exact h d h1 h2
theorem uk (ho:s.own<s.n) (ht:s.term<1099511627776):Tk s (X.tick z e s):=by
 rcases dS (z:=z) (e:=e) s with ⟨h1,h2⟩ | ⟨h1,h2,h3,h4⟩ | ⟨h1,h2,h3,h4⟩ | ⟨h1,h2,h3,h4⟩
 ·rw [h2];refine ⟨rfl,rfl,rfl,.inl rfl,gc λd d1 d2=>⟨rfl,rfl,by unfold bI;simp,⟨d,d1,d2,rfl⟩,.inr (.inl ⟨rfl,h1⟩)⟩,λ_ d d1 d2=>⟨_,eJ _ _ d d1 d2,rfl,rfl⟩,λh=>by exfalso;have h:s.term=s.term+1:=h;omega,fk _ _ ho,eH _ _,eH _ _⟩
 ·rw [h4,fB ho ht];have hsl:(dq s).leads=false:=by show (s.leads&&_)=false;rw [h1];rfl
  by_cases hn:s.n=1
  ·rw [ax hn];have hl:=eC (z:=z) (e:=e) (dq s);have hno:(lead z e (dq s)).1=[]:=by
    rw [hl.ms,cO];intro x hx;obtain ⟨d,d1,d2,_⟩:=cJ _ _ _ hx;rw [hl.n] at d1;rw [hl.own] at d2;have d1:d<s.n:=d1;have d2:d≠s.own:=d2;omega
   refine ⟨hl.own,hl.n,hl.clock,.inr hl.term,λx hx=>(by rw [hno] at hx;cases hx),λ_ d d1 d2=>by omega,λ_ d d1 d2=>by omega,by rw [hno];simp;omega,?_,gQ hl.len⟩;have:=hl.cnt;have e1:(dq s).cnt=s.cnt+1:=rfl;omega
  ·rw [aw hn];refine ⟨rfl,rfl,rfl,.inr rfl,gc λd d1 d2=>⟨rfl,rfl,by unfold bf od;simp,⟨d,d1,d2,rfl⟩,.inl ⟨rfl,by unfold bf od;simp,rfl,hsl⟩⟩,λh=>?_,λ_ d d1 d2=>⟨_,eJ _ _ d d1 d2,rfl,rfl,by unfold bf od;simp⟩,fk _ _ ho,bO _,bO _⟩;have h:(dq s).leads=true:=h;rw [hsl] at h;cases h
 ·rw [h4];refine ⟨rfl,rfl,rfl,.inl rfl,gc λd d1 d2=>⟨rfl,rfl,by unfold bf od;simp,⟨d,d1,d2,rfl⟩,.inr (.inr ⟨rfl,h1⟩)⟩,λh=>?_,λh=>by exfalso;have h:s.term=s.term+1:=h;omega,fk _ _ ho,eH _ _,eH _ _⟩;have h:s.leads=true:=h;rw [h1] at h;cases h
 ·rw [h4];refine ⟨rfl,rfl,rfl,.inl rfl,λx hx=>(by cases hx),λh=>?_,λh=>by exfalso;have h:s.term=s.term+1:=h;omega,by show 0+1<=_;omega,eH _ _,eH _ _⟩;have h:s.leads=true:=h;rw [h1] at h;cases h
theorem Wk.ticks (h:Wk z n b S) (hb:b+1<=1099511627776):Wk z n (b+1) (S.ticks z e n):=by
 have key:∀k,k<=n->Wk z n (b+1) (S.ticks z e k)/\(∀i,k<=i->i<n->((S.ticks z e k).nd i).term<=b):=by
  intro k;induction k with
  | zero =>
   intro _;refine ⟨h.mono (by omega),λi _ hi=>?_⟩;obtain ⟨G,h⟩:=h;exact h.tb i hi
  | succ k ih =>
   intro hk;obtain ⟨h1,h2⟩:=ih (by omega);have e0:S.ticks z e (k+1)=(S.ticks z e k).tick z e k:=by unfold Cs.ticks;rw [cE,cZ];rfl
   rw [e0];have htk:=h2 k (ah _) (by omega);refine ⟨?_,λi hi hin=>?_⟩
   ·unfold Cs.tick;split
    ·obtain ⟨G1,h1⟩:=h1;have hni:=h1.ni k (by omega);have hk2:Tk ((S.ticks z e k).nd k) (X.tick z e ((S.ticks z e k).nd k)):=uk (by rw [hni.own,hni.nn];omega) (by omega);obtain ⟨G',_,h2⟩:=h1.call (i:=k) (by omega) (um (e:=e) h1.gi hni) ((h1.ln k (by omega)).tick (by rw [hni.own,hni.nn];omega)) (by rcases hk2.term with g | g<;>omega) (λx hx=>by
      obtain ⟨o1,o2,o3,⟨d,d1,d2,d3⟩,_⟩:=hk2.out x hx;have ht0:=hni.t0;rw [hni.nn] at d1;rw [hni.own] at d2 o1;exact ⟨⟨d,k,d1,by omega,by omega,d3,o1⟩,o3,by rw [o2];rcases hk2.term with g | g<;>omega,by rw [o2];rcases hk2.term with g | g<;>omega⟩)
     exact ⟨G',h2⟩
    ·exact h1
   ·grind [Cs.tick,bi]
 exact (key n (ah _)).1
theorem Wk.tk (h:Wk z n b S) (hb:b+1<=1099511627776) (i:Nat) (hi:i<n):Tk (S.nd i) (X.tick z e (S.nd i))/\(S.nd i).own=i/\(S.nd i).n=n:=by
 obtain ⟨G,h⟩:=h;have hni:=h.ni i hi;have:=h.tb i hi;exact ⟨uk (by rw [hni.own,hni.nn];exact hi) (by omega),hni.own,hni.nn⟩
theorem yL (ho:s.own=i) (hn:s.n=n) (hf:Fit i n m) (hm:MI n G m) (hk:(m.kind=1/\m.N.length=3)\/m.kind=3) (ht:m.N.getD 0 0<s.term):∃x∈(X.get z e s m).1,x.dst=m.frm/\x.N.getD 0 0=s.term:=by
 unfold X.get;rw [hf.ok ho hn];simp only [cD,if_false];rw [aw (by omega)];unfold getIn;rcases hk with ⟨hk,hl⟩ | hk
 ·rw [ax hk];unfold asked;rw [ax hl];simp only;rw [aw (by
   simp only [bk,cH];rintro ⟨⟨h1,_⟩,_⟩;omega)]
  exact ⟨_,dX _,rfl,rfl⟩
 ·rw [aw (by omega),aw (by omega),ax hk];obtain ⟨f,_,_,_,_,h3,_⟩:=hm.f;obtain ⟨_,p,a,e2,_,_,_,e6,_⟩:=h3 hk;unfold lays;rw [aw (by
   simp only [aW,aV,be,ne_eq,aR,bk,cH];rintro ((h1 | h1) | ⟨h1,_⟩)
   ·exact h1 e6
   ·omega
   ·omega),ax ht]
  exact ⟨_,dX _,rfl,rfl⟩
theorem Aw (x:Ms ρ) (hk:m.kind=1) (hx:x∈(X.get z e s m).1) (h1:x.N.getD 1 0=1):x.N.getD 0 0=m.N.getD 0 0:=by
 have hin:∀s1:Nd ρ,x∈(getIn z e s1 m).1->x.N.getD 0 0=m.N.getD 0 0:=λs1 hx=>by
  unfold getIn at hx;rw [ax hk] at hx;unfold asked at hx;split at hx
  ·simp only at hx;split at hx
   ·rename_i hy;simp only [bk,cH] at hy;split at hx
    ·rw [aj.1 hx];exact hy.1.1.symm
    ·rw [aj.1 hx];exact hy.1.1.symm
   ·rw [aj.1 hx] at h1;have h1:(0:Int)=1:=h1;omega
  ·cases hx
 unfold X.get at hx;split at hx
 ·cases hx
 ·grind
structure UB (M:Int) (S:Cs ρ):Prop where
 nd:∀i,S.up i=true->(S.nd i).term<=M
 q:∀m∈S.q,m.N.getD 0 0<=M
theorem UB.take (h:UB M S) {i:Nat} (hm:m.N.getD 0 0<=M) (hu:S.up i=true) (hg:Got (S.nd i) m r):UB M (S.call i r):=by
 have h1:=h.nd i hu;have h2:=hg.top;refine ⟨λj hj=>?_,λx hx=>?_⟩
 ·rw [bi];split
  ·omega
  ·exact h.nd j hj
 ·rcases av.1 hx with hx | hx
  ·exact h.q x hx
  ·rw [(hg.out x hx).2.1];omega
structure Ph (z:ρ->Bool) (n:Nat) (b M:Int) (ms:List (Ms ρ)) (S0 S:Cs ρ):Prop where
 wk:WkM z ms n b S
 up:S.up=S0.up
 ub:UB M S
 term:∀i,(S0.nd i).term<=(S.nd i).term
theorem Ph.start (h:WkM z ms n b S) (hu:UB M S):Ph z n b M ms S S:=⟨h,rfl,hu,λ_=>aM _⟩
theorem Ph.take {S0:Cs ρ} (h:Ph z n b M ms S0 S) (hb:b<=1099511627776) (hm:m∈ms) (hM:m.N.getD 0 0<=M):Ph z n b M ms S0 (S.bring z e m)/\∃i,i<n/\m.dst=(i:Int)/\Got (S.nd i) m (X.get z e (S.nd i) m)/\(S.up i=true->S.bring z e m=S.call i (X.get z e (S.nd i) m))/\(S.up i=false->S.bring z e m=S):=by
 obtain ⟨g1,i,g2,g3,g4,g5,g6⟩:=h.wk.take (e:=e) hb hm;refine ⟨⟨g1,(ie _ _).trans h.up,?_,λj=>?_⟩,i,g2,g3,g4,g5,g6⟩
 ·cases hu:S.up i with
  | false=>rw [g6 hu];exact h.ub
  | true=>rw [g5 hu];exact h.ub.take hM hu g4
 ·cases hu:S.up i with
  | false=>rw [g6 hu];exact h.term j
  | true =>
   rw [g5 hu,bi];split
   ·rename_i e1;subst e1;exact cS (h.term _) g4.up
   ·exact h.term j
structure Ra (z:ρ->Bool) (e:ρ) (n:Nat) (b M:Int) (SA S1 S2:Cs ρ):Prop where
 w1:Wk z n b S1
 w2:Wk z n b S2
 u1:S1.up=SA.up
 u2:S2.up=SA.up
 q1:S1.q.length<=SA.q.length
 q2:S2.q.length<=4*S1.q.length
 k1:∀x∈S1.q,x.kind=2\/x.kind=4
 k2:∀x∈S2.q,x.kind=3
 b1:UB M S1
 b2:UB M S2
 lead:∀i,S2.up i=true->(S2.nd i).leads=true->(S2.nd i).term=M
 own:∀i,(S2.nd i).leads=true->(S2.nd i).term=(SA.nd i).term
 from_:∀x∈S2.q,∃i:Nat,x.frm=(i:Int)/\x.N.getD 0 0=(SA.nd i).term
theorem dR (S:Cs ρ) (i:Nat) (r:List (Ms ρ)×Nd ρ):(S.call i r).q=S.q++r.1:=rfl
theorem CV (h:Wk z n b S) (hn:n<=5) (hb:b+1<=1099511627776) (hq:S.q=[]) (hM:UB M (S.ticks z e n)) {y:Nat} (hy:S.up y=true) (hyM:((S.ticks z e n).nd y).term=M) :
  Ra z e n (b+1) M (S.ticks z e n) ((S.ticks z e n).noq.dl z e (S.ticks z e n).q) (((S.ticks z e n).noq.dl z e (S.ticks z e n).q).noq.dl z e ((S.ticks z e n).noq.dl z e (S.ticks z e n).q).q):=by
 obtain ⟨t1,t2,t3⟩:=dm (z:=z) (e:=e) n S;have hw:=h.ticks (e:=e) hb;have hyn:y<n:=by obtain ⟨G,h⟩:=h;exact h.up y hy
 have hsp:∀x∈(S.ticks z e n).q,∃i,i<n/\S.up i=true/\x∈(X.tick z e (S.nd i)).1:=λx hx=>by
  grind
 have hnd:∀i,i<n->S.up i=true->(S.ticks z e n).nd i=(X.tick z e (S.nd i)).2:=λi h1 h2=>by rw [t1,ax ⟨h1,h2⟩]
 have hkA:∀x∈(S.ticks z e n).q,(x.kind=1\/x.kind=3\/x.kind=5):=λx hx=>by
  obtain ⟨i,i1,i2,i3⟩:=hsp x hx;obtain ⟨_,_,_,_,o⟩:=(h.tk (e:=e) hb i i1).1.out x i3;rcases o with o | o | o
  ·exact .inl o.1
  ·exact .inr (.inl o.1)
  ·exact .inr (.inr o.1)
 generalize hSA:S.ticks z e n=SA at *;have w0:=hw.wkm;have ub0:UB M SA.noq:=⟨hM.nd,λm hm=>by cases hm⟩
 have qM:=hM.q;have p0:Ph z n (b+1) M SA.q SA.noq SA.noq:=Ph.start w0 ub0;have P1:=eP (z:=z) (e:=e) (ms:=SA.q) (S:=SA.noq) (Inv:=λS'=>Ph z n (b+1) M SA.q SA.noq S'/\(∀i,(S'.nd i).leads=true->(SA.nd i).leads=true/\(S'.nd i).term=(SA.nd i).term)/\(∀x∈S'.q,(x.kind=2\/x.kind=4)/\(x.kind=2->∃m∈SA.q,m.kind=1/\x.dst=m.frm/\(x.N.getD 1 0=1->x.N.getD 0 0=m.N.getD 0 0)))) (λS' m hI hm=>by
  obtain ⟨a1,a2,a3⟩:=hI;obtain ⟨g1,i,g2,g3,g4,g5,g6⟩:=a1.take (e:=e) hb hm (qM m hm);refine ⟨g1,?_⟩;cases hu:S'.up i with
  | false=>rw [g6 hu];exact ⟨a2,a3⟩
  | true =>
   rw [g5 hu];refine ⟨λj hj=>?_,λx hx=>?_⟩
   ·grind [bi,g4.leads]
   ·rw [dR] at hx;rcases av.1 hx with hx | hx
    ·exact a3 x hx
    ·obtain ⟨o1,o2,o3,o4,o5⟩:=g4.out x hx;rcases o4 with ⟨o6,o7,o8⟩ | ⟨o6,o7⟩ | ⟨o6,o7,o8⟩ | ⟨o6,o7⟩
     ·grind [Aw]
     ·rcases hkA m hm with k | k | k<;>omega
     ·exact ⟨.inr o7,λk=>by omega⟩
     ·rcases hkA m hm with k | k | k<;>omega) ⟨p0,λi hi=>⟨hi,rfl⟩,λx hx=>(by cases hx)⟩
 have L1:∀(l:List (Ms ρ)) (S':Cs ρ),WkM z SA.q n (b+1) S'->(∀m∈l,m∈SA.q)->(S'.dl z e l).q.length<=S'.q.length+l.length:=by
  intro l;induction l with
  | nil=>intro S' _ _;exact ah _
  | cons m l ih =>
   intro S' hI hl;have hm:=hl m aP;obtain ⟨g1,i,g2,g3,g4,g5,g6⟩:=hI.take (e:=e) hb hm;have h1:=ih _ g1 (λx hx=>hl x (aI _ hx));have h2:(S'.bring z e m).q.length<=S'.q.length+1:=by
    cases hu:S'.up i with
    | false=>rw [g6 hu];omega
    | true =>
     rw [g5 hu,dR,ay];rcases g4.num with g | ⟨g,_⟩
     ·omega
     ·rcases hkA m hm with k | k | k<;>omega
   show ((S'.bring z e m).dl z e l).q.length<=_;rw [aX];omega
 have Q1:(SA.noq.dl z e SA.q).q.length<=SA.q.length:=by
  have:=L1 SA.q SA.noq w0 (λm hm=>hm);have e1:SA.noq.q.length=0:=rfl;omega
 obtain ⟨P1a,P1b,P1c⟩:=P1;have EV:∀i,i<n->S.up i=true->(∃x∈SA.q,x.frm=(i:Int)/\x.dst=(y:Int)/\((x.kind=1/\x.N.length=3)\/x.kind=3)/\x.N.getD 0 0<M/\1<=x.N.getD 0 0)->∃x∈(SA.noq.dl z e SA.q).q,x.dst=(i:Int)/\x.N.getD 0 0=M:=λi i1 i2 hx=>by
  obtain ⟨x,x1,x2,x3,x4,x5,x6⟩:=hx;refine nQ (z:=z) (e:=e) (ms:=SA.q) (m:=x) (Inv:=λS'=>Ph z n (b+1) M SA.q SA.noq S') (P:=λS'=>∃x∈S'.q,x.dst=(i:Int)/\x.N.getD 0 0=M) x1 (λS' m hI hm=>(hI.take hb hm (qM m hm)).1) (λS' hI=>?_) (λS' m hI hm hP=>?_) p0
  ·obtain ⟨g1,j,g2,g3,g4,g5,g6⟩:=hI.take (e:=e) hb x1 (qM x x1);obtain rfl:j=y:=by omega
   have huy:S'.up j=true:=by rw [hI.up];show SA.up j=true;rw [t2];exact hy
   have hty:(S'.nd j).term=M:=by
    have:=hI.term j;have e1:(SA.noq.nd j).term=M:=hyM;have:=hI.ub.nd j huy;omega
   obtain ⟨G,hG,hms⟩:=hI.wk;have hni:=hG.ni j g2;obtain ⟨j2,j3,j4,_,j5⟩:=(hms x x1).2.fit hb x6;obtain rfl:j2=j:=by omega
   obtain ⟨v,v1,v2,v3⟩:=yL (z:=z) (e:=e) hni.own hni.nn j5 (hms x x1).1 x4 (by rw [hty];exact x5);rw [g5 huy];exact ⟨v,aG _ v1,v2.trans x2,v3.trans hty⟩
  ·obtain ⟨v,v1,v2⟩:=hP;obtain ⟨o,o1,_⟩:=qb (z:=z) (e:=e) S' m;exact ⟨v,by rw [o1];exact aD _ v1,v2⟩
 generalize hS1:SA.noq.dl z e SA.q=S1 at *;have w1:=P1a.wk.wk.wkm;have ub1:UB M S1.noq:=⟨P1a.ub.nd,λm hm=>by cases hm⟩
 have p1:Ph z n (b+1) M S1.q S1.noq S1.noq:=Ph.start w1 ub1;have qM1:=P1a.ub.q;have u1:S1.up=SA.up:=P1a.up;have P2:=eP (z:=z) (e:=e) (ms:=S1.q) (S:=S1.noq) (Inv:=λS'=>Ph z n (b+1) M S1.q S1.noq S'/\(∀i,(S'.nd i).leads=true->((SA.nd i).leads=true\/∃m∈SA.q,m.kind=1/\m.frm=(i:Int))/\(S'.nd i).term=(SA.nd i).term)/\(∀x∈S'.q,x.kind=3/\∃i:Nat,x.frm=(i:Int)/\x.N.getD 0 0=(SA.nd i).term)) (λS' m hI hm=>by
  obtain ⟨a1,a2,a3⟩:=hI;obtain ⟨g1,i,g2,g3,g4,g5,g6⟩:=a1.take (e:=e) hb hm (qM1 m hm);refine ⟨g1,?_⟩;cases hu:S'.up i with
  | false=>rw [g6 hu];exact ⟨a2,a3⟩
  | true =>
   rw [g5 hu];have key:(X.get z e (S'.nd i) m).2.leads=true->((SA.nd i).leads=true\/∃m∈SA.q,m.kind=1/\m.frm=(i:Int))/\(X.get z e (S'.nd i) m).2.term=(SA.nd i).term:=λhj=>by
    rcases g4.leads hj with g | g
    ·grind
    ·obtain ⟨c,c1,c2,c3,c4⟩:=(P1c m hm).2 g.1;have hfi:c.frm=(i:Int):=by omega
     refine ⟨.inr ⟨c,c1,c2,hfi⟩,?_⟩;have e1:=c4 g.2.2.2.1;obtain ⟨k,k1,k2,k3⟩:=hsp c c1;obtain ⟨h5,h6,_⟩:=h.tk (e:=e) hb k k1;obtain ⟨o1,o2,_⟩:=h5.out c k3;obtain rfl:k=i:=by omega
     rw [hnd k k1 k2,<-o2,<-e1,g.2.2.1,g.2.1]
   refine ⟨λj hj=>?_,λx hx=>?_⟩
   ·grind [bi]
   ·rw [dR] at hx;rcases av.1 hx with hx | hx
    ·exact a3 x hx
    ·obtain ⟨o1,o2,o3,o4,o5⟩:=g4.out x hx;have how:(S'.nd i).own=i:=by obtain ⟨G,hG,_⟩:=a1.wk;exact (hG.ni i g2).own
     rcases o4 with ⟨o6,o7,o8⟩ | ⟨o6,o7⟩ | ⟨o6,o7,o8⟩ | ⟨o6,o7⟩
     ·rcases (P1c m hm).1 with k | k<;>omega
     ·grind
     ·rcases (P1c m hm).1 with k | k<;>omega
     ·exact ⟨o7,i,by rw [o1,how],o2.trans (key (o5 o7)).2⟩) ⟨p1,λi hi=>⟨.inl (P1b i hi).1,(P1b i hi).2⟩,λx hx=>(by cases hx)⟩
 have L2:∀(l:List (Ms ρ)) (S':Cs ρ),WkM z S1.q n (b+1) S'->(∀m∈l,m∈S1.q)->(S'.dl z e l).q.length<=S'.q.length+4*l.length:=by
  intro l;induction l with
  | nil=>intro S' _ _;exact ah _
  | cons m l ih =>
   intro S' hI hl;have hm:=hl m aP;obtain ⟨g1,i,g2,g3,g4,g5,g6⟩:=hI.take (e:=e) hb hm;have h1:=ih _ g1 (λx hx=>hl x (aI _ hx));have h2:(S'.bring z e m).q.length<=S'.q.length+4:=by
    cases hu:S'.up i with
    | false=>rw [g6 hu];omega
    | true =>
     rw [g5 hu,dR,ay];obtain ⟨G,hG,_⟩:=hI;have:=(hG.ni i g2).nn;rcases g4.num with g | ⟨_,g⟩<;>omega
   show ((S'.bring z e m).dl z e l).q.length<=_;rw [aX];omega
 have Q2:(S1.noq.dl z e S1.q).q.length<=4*S1.q.length:=by
  have:=L2 S1.q S1.noq w1 (λm hm=>hm);have e1:S1.noq.q.length=0:=rfl;omega
 obtain ⟨P2a,P2b,P2c⟩:=P2;have EV2:∀i,S.up i=true->(∃x∈S1.q,x.dst=(i:Int)/\x.N.getD 0 0=M)->M<=((S1.noq.dl z e S1.q).nd i).term:=λi i2 hx=>by
  obtain ⟨x,x1,x2,x3⟩:=hx;refine nQ (z:=z) (e:=e) (ms:=S1.q) (m:=x) (Inv:=λS'=>Ph z n (b+1) M S1.q S1.noq S') (P:=λS'=>M<=(S'.nd i).term) x1 (λS' m hI hm=>(hI.take hb hm (qM1 m hm)).1) (λS' hI=>?_) (λS' m hI hm hP=>?_) p1
  ·obtain ⟨g1,j,g2,g3,g4,g5,g6⟩:=hI.take (e:=e) hb x1 (qM1 x x1);obtain rfl:j=i:=by omega
   have huy:S'.up j=true:=by rw [hI.up];show S1.up j=true;rw [u1,t2];exact i2
   rw [g5 huy,bi,ax rfl];have:=g4.reach;omega
  ·obtain ⟨g1,j,g2,g3,g4,g5,g6⟩:=hI.take (e:=e) hb hm (qM1 m hm);cases hu:S'.up j with
   | false=>rw [g6 hu];exact hP
   | true =>
    rw [g5 hu,bi];split
    ·grind [g4.up]
    ·exact hP
 refine ⟨P1a.wk.wk,P2a.wk.wk,u1,P2a.up.trans u1,Q1,Q2,λx hx=>(P1c x hx).1,λx hx=>(P2c x hx).1,P1a.ub,P2a.ub,λi hu hl=>?_,λi hi=>(P2b i hi).2,λx hx=>(P2c x hx).2⟩;have hu0:S.up i=true:=by rw [<-t2,<-u1];rw [P2a.up] at hu;exact hu
 have hin:i<n:=by obtain ⟨G,h⟩:=h;exact h.up i hu0
 obtain ⟨htk,ho,hnn⟩:=h.tk (e:=e) hb i hin;have hle:=P2a.ub.nd i hu;have hterm:(SA.nd i).term<=((S1.noq.dl z e S1.q).nd i).term:=cS (P1a.term i) (P2a.term i);have hnd2:=hnd i hin hu0;by_cases hM2:(SA.nd i).term=M
 ·omega
 ·have hiM:(SA.nd i).term<M:=by
   omega
  have hyi:y≠i:=λe1=>by subst e1;exact hM2 hyM
  have hpos:1<=(SA.nd i).term:=by
   obtain ⟨G,hG,_⟩:=w0;obtain ⟨G0,hG0⟩:=h;have t0:=(hG0.ni i hin).t0;rcases (P2b i hl).1 with g | ⟨m,m1,m2,m3⟩
   ·have g2:(SA.noq.nd i).leads=true:=g;exact (hG.gi.led _ _ ((hG.ni i hin).lds g2).1).2
   ·obtain ⟨j,j1,j2,j3⟩:=hsp m m1;have hj:j=i:=by
     obtain ⟨o1,_⟩:=(Wk.tk (e:=e) ⟨G0,hG0⟩ hb j j1).1.out m j3;have:=(hG0.ni j j1).own;omega
    subst hj;obtain ⟨_,_,_,_,o⟩:=htk.out m j3;rcases o with o | o | o
    ·rw [hnd2,o.2.2.1];omega
    ·omega
    ·omega
  have hx:∃x∈SA.q,x.frm=(i:Int)/\x.dst=(y:Int)/\((x.kind=1/\x.N.length=3)\/x.kind=3)/\x.N.getD 0 0<M/\1<=x.N.getD 0 0:=by
   rcases (P2b i hl).1 with g | ⟨m,m1,m2,m3⟩
   ·rw [hnd2] at g;obtain ⟨x,x1,x2,x3⟩:=htk.lead g y (by rw [hnn];exact hyn) (by rw [ho];exact hyi);obtain ⟨o1,o2,_⟩:=htk.out x x1;exact ⟨x,(t3 x).2 (.inr ⟨i,hin,hu0,x1⟩),by rw [o1,ho],x2,.inr x3,by rw [o2,<-hnd2];exact hiM,by rw [o2,<-hnd2];exact hpos⟩
   ·obtain ⟨j,j1,j2,j3⟩:=hsp m m1;have hj:j=i:=by
     obtain ⟨h4,h5,_⟩:=h.tk (e:=e) hb j j1;obtain ⟨o1,_⟩:=h4.out m j3;omega
    subst hj;obtain ⟨_,_,_,_,o⟩:=htk.out m j3;have ht1:(X.tick z e (S.nd j)).2.term=(S.nd j).term+1:=by
     omega
    obtain ⟨x,x1,x2,x3,x4⟩:=htk.cand ht1 y (by rw [hnn];exact hyn) (by rw [ho];exact hyi);obtain ⟨o1,o2,_⟩:=htk.out x x1;exact ⟨x,(t3 x).2 (.inr ⟨j,hin,hu0,x1⟩),by rw [o1,ho],x2,.inl ⟨x3,x4⟩,by rw [o2,<-hnd2];exact hiM,by rw [o2,<-hnd2];exact hpos⟩
  have:=EV2 i hu0 (EV i hin hu0 hx);omega
end
def eI (n:Nat) (g:Nat->Nat):Nat:=((List.range n).map g).sum
theorem eY (n:Nat) (g:Nat->Nat):eI (n+1) g=eI n g+g n:=by
 unfold eI;rw [cE,bW,List.sum_append];simp
theorem hO (n:Nat) (g g':Nat->Nat) (h:∀j,j<n->g' j=g j):eI n g'=eI n g:=by
 induction n with
 | zero=>rfl
 | succ n ih=>rw [eY,eY,ih λj hj=>h j (by omega),h n (by omega)]
theorem AQ (n:Nat) (g g':Nat->Nat) (h:∀j,j<n->g' j<=g j):eI n g'<=eI n g:=by
 induction n with
 | zero=>exact ah _
 | succ n ih=>rw [eY,eY];have:=ih λj hj=>h j (by omega);have:=h n (by omega);omega
theorem jC (n f c:Nat) (g g':Nat->Nat) (hf:f<n) (h1:g' f+c<=g f) (h:∀j,j<n->j≠f->g' j<=g j):eI n g'+c<=eI n g:=by
 induction n with
 | zero=>omega
 | succ n ih =>
  rw [eY,eY];by_cases e:f=n
  ·subst e;have:=AQ f g g' λj hj=>h j (by omega) (by omega);omega
  ·have:=ih (by omega) λj hj hne=>h j (by omega) hne;have:=h n (by omega) (ud e);omega
theorem kv (n c:Nat) (g:Nat->Nat) (h:∀j,j<n->g j<=c):eI n g<=n*c:=by
 induction n with
 | zero=>simp [eI]
 | succ n ih=>rw [eY,AK];have:=ih λj hj=>h j (by omega);have:=h n (by omega);omega
section
variable {ρ:Type} {z:ρ->Bool} {e:ρ}
variable {n i:Nat} {b b' M:Int} {S S':Cs ρ} {G:Gh ρ} {m:Ms ρ} {s:Nd ρ} {r:List (Ms ρ)×Nd ρ} {ms:List (Ms ρ)}
def wm (m:Ms ρ):Nat:=if m.kind=3 then 2 else 1
def wq (q:List (Ms ρ)):Nat:=(q.map wm).sum
theorem Cb (a b:List (Ms ρ)):wq (a++b)=wq a+wq b:=by unfold wq;rw [bW,List.sum_append]
theorem mI (a:Ms ρ) (b:List (Ms ρ)):wq (a::b)=wm a+wq b:=by unfold wq;rw [ii,List.sum_cons]
theorem BW (m:Ms ρ):wm m<=2/\1<=wm m:=by unfold wm;split<;>omega
theorem yd (q:List (Ms ρ)):wq q<=2*q.length/\q.length<=wq q:=by
 induction q with
 | nil=>exact ⟨ah _,ah _⟩
 | cons a q ih=>rw [mI,aX];have:=BW a;omega
def mH (s:Nd ρ) (j:Nat):Nat:=if j=s.own then 0 else 2*(s.next.getD j 0 - s.mat.getD j 0)+2*(s.log.length - s.mat.getD j 0)
def pot (s:Nd ρ):Nat:=eI s.n (mH s)+6*(s.log.length - s.agreed)
theorem Cn (s:Nd ρ) (h:∀j,s.next.getD j 0<=s.log.length) (hn:s.n<=5) (ho:s.own<s.n):pot s<=22*s.log.length:=by
 have h1:eI s.n (mH s)+4*s.log.length<=eI s.n (λ_=>4*s.log.length):=by
  refine jC s.n s.own (4*s.log.length) _ _ ho ?_ (λj hj hne=>?_)
  ·unfold mH;rw [ax rfl];omega
  ·unfold mH;rw [aw hne];have:=h j;omega
 have h2:=kv s.n (4*s.log.length) (λ_=>4*s.log.length) (λ_ _=>ah _);have h3:s.n*(4*s.log.length)<=5*(4*s.log.length):=Nat.mul_le_mul_right _ hn;unfold pot;omega
structure Ans (s:Nd ρ) (r:List (Ms ρ)×Nd ρ):Prop where
 pot:wq r.1+pot r.2<=pot s
 num:r.1.length+3*(r.2.log.length - r.2.agreed)<=3*(s.log.length - s.agreed)+1
 leads:r.2.leads=true
 log:r.2.log=s.log
 term:r.2.term=s.term
 ag:s.agreed<=r.2.agreed
theorem Ans.of {ms:List (Ms ρ)} {s1:Nd ρ} (h1:wq ms+X.pot s1<=X.pot s) (h2:ms.length+3*(s1.log.length - s1.agreed)<=3*(s.log.length - s.agreed)+1) (h3:s1.leads=true) (h4:s1.log=s.log) (h5:s1.term=s.term) (h6:s.agreed<=s1.agreed):Ans s (ms,s1):=⟨h1,h2,h3,h4,h5,h6⟩
theorem ye (s:Nd ρ) (d:Nat):wq [bI s d]=2:=rfl
theorem lI:wq ([]:List (Ms ρ))=0:=rfl
theorem tg (z:ρ->Bool) (s:Nd ρ) (hl:s.leads=true) (h:s.agreed<=s.log.length):(X.settle z s).2.agreed<=s.log.length/\s.agreed<=(X.settle z s).2.agreed/\((X.settle z s).1=true->s.agreed<(X.settle z s).2.agreed):=by
 unfold X.settle;split
 ·rename_i k hk;obtain ⟨k1,k2,k3,k4⟩:=gU _ _ _ hk;have k2:s.agreed<k:=k2;have e1:(X.agree z { s with mat:=s.mat.set s.own s.log.length } k).agreed=k:=by
   unfold X.agree;rw [ax k2]
  simp only;rw [e1];exact ⟨k1,el k2,λ_=>k2⟩
 ·exact ⟨h,ah _,λh=>by cases h⟩
theorem u5 (s:Nd ρ) (f:Nat->Ms ρ) (ho:s.own<s.n) (hn:s.n<=5):wq (cT s f)<=8:=by
 have:=(yd (cT s f)).1;have:=fk s f ho;omega
theorem qi (hln:LN s) (hni:NI z n G i s) (hl:s.leads=true) (hn5:n<=5) (hf:m.frm.toNat<n/\m.frm.toNat≠i) (hfail:m.N.getD 0 0=s.term->m.N.length=3->m.N.getD 1 0=0->0<=m.N.getD 2 0->((s.mat.getD m.frm.toNat 0:Nat):Int)<=m.N.getD 2 0):Ans s (answered z s m):=by
 have hsame:Ans s ([],s):=Ans.of (by rw [lI];omega) (by rw [dU];omega) hl rfl rfl (ah _);have ho:s.own<s.n:=by rw [hni.own,hni.nn];exact hni.ib
 unfold answered;split
 ·exact hsame
 ·rename_i hy;simp only [aW,aV,be,not_or,ne_eq,da,dB,aR,Int.not_lt] at hy;obtain ⟨⟨⟨⟨_,hy2⟩,hy3⟩,hy4⟩,hy5⟩:=hy;have hfo:m.frm.toNat≠s.own:=by rw [hni.own];exact hf.2
  have hfn:m.frm.toNat<s.n:=by rw [hni.nn];exact hf.1
  have hmn:=hln.mn hl m.frm.toNat hfo;have hnx:=hni.next hl m.frm.toNat;have hml:s.mat.length=s.n:=hln.ml;have hnl:s.next.length=s.n:=hln.nl;simp only;split
  ·rename_i hN1;have hk:=hfail hy2 hy3 hN1 hy4;split
   ·exact hsame
   ·rename_i hnk;have hk2:s.mat.getD m.frm.toNat 0<=(m.N.getD 2 0).toNat:=by omega
    have hp:∀s1:Nd ρ,s1={ s with next:=s.next.set m.frm.toNat (max (m.N.getD 2 0).toNat (s.mat.getD m.frm.toNat 0))}->pot s1+2<=pot s:=λs1 e1=>by
     subst e1;unfold pot;have:eI s.n (mH { s with next:=s.next.set m.frm.toNat (max (m.N.getD 2 0).toNat (s.mat.getD m.frm.toNat 0))})+2<=eI s.n (mH s):=by
      refine jC s.n m.frm.toNat 2 _ _ hfn ?_ (λj hj hne=>?_)
      ·unfold mH;rw [aw hfo,aw hfo];show 2*((s.next.set m.frm.toNat _).getD m.frm.toNat 0 - _)+_+2<=_;rw [eg _ _ _ _ (by rw [hnl];exact hfn),ax rfl];show 2*(max _ _ - s.mat.getD m.frm.toNat 0)+2*(s.log.length - s.mat.getD m.frm.toNat 0)+2<=_;omega
      ·unfold mH;show (if j=s.own then 0 else 2*((s.next.set m.frm.toNat _).getD j 0 - s.mat.getD j 0)+2*(s.log.length - s.mat.getD j 0))<=_;rw [eg _ _ _ _ (by rw [hnl];exact hfn),aw hne];exact ah _
     show eI s.n _+6*(s.log.length - s.agreed)+2<=_;omega
    have:=hp _ rfl;exact Ans.of (by rw [ye];omega) (by show 1+3*(s.log.length - s.agreed)<=_;omega) hl rfl rfl (ah _)
  ·split
   ·exact hsame
   ·rename_i hkm;have hkm:s.mat.getD m.frm.toNat 0<(m.N.getD 2 0).toNat:=by omega
    have hkl:(m.N.getD 2 0).toNat<=s.log.length:=by omega
    generalize hs1:({ s with mat:=s.mat.set m.frm.toNat (m.N.getD 2 0).toNat,next:=s.next.set m.frm.toNat (max (m.N.getD 2 0).toNat (s.next.getD m.frm.toNat 0))}:Nd ρ)=s1;have e1:s1.own=s.own/\s1.n=s.n/\s1.log=s.log/\s1.agreed=s.agreed/\s1.leads=s.leads/\s1.term=s.term/\s1.mat=s.mat.set m.frm.toNat (m.N.getD 2 0).toNat/\s1.next=s.next.set m.frm.toNat (max (m.N.getD 2 0).toNat (s.next.getD m.frm.toNat 0)):=by rw [<-hs1];exact ⟨rfl,rfl,rfl,rfl,rfl,rfl,rfl,rfl⟩
    obtain ⟨a1,a2,a3,a4,a5,a6,a7,a8⟩:=e1;obtain ⟨g1,g2,g3,g4,g5,g6,g7,g8,g9,g10,g11,g12,g13⟩:=dt (z:=z) (s:=s1);obtain ⟨c1,c2,c3⟩:=tg z s1 (a5.trans hl) (by rw [a4,a3];exact hni.ag.1);have hpj:eI s.n (mH (X.settle z s1).2)+2<=eI s.n (mH s):=by
     refine jC s.n m.frm.toNat 2 _ _ hfn ?_ (λj hj hne=>?_)
     ·unfold mH;rw [g1,a1,aw hfo,aw hfo,g9,g13,g8,a3,a8,a7,a1,eg _ _ _ _ (by rw [hnl];exact hfn),ax rfl,eg _ _ _ _ (by rw [cW,hml];exact ho),aw hfo,eg _ _ _ _ (by rw [hml];exact hfn),ax rfl];omega
     ·unfold mH;rw [g1,a1];by_cases hj2:j=s.own
      ·rw [ax hj2,ax hj2];exact ah _
      ·rw [aw hj2,aw hj2,g9,g13,g8,a3,a8,a7,a1,eg _ _ _ _ (by rw [hnl];exact hfn),aw hne,eg _ _ _ _ (by rw [cW,hml];exact ho),aw hj2,eg _ _ _ _ (by rw [hml];exact hfn),aw hne];exact ah _
    have hP:pot (X.settle z s1).2+2+6*((X.settle z s1).2.agreed - s.agreed)<=pot s:=by
     unfold pot;rw [g2,a2,g8,a3];rw [a3] at c1;rw [a4] at c2;omega
    have hlog:(X.settle z s1).2.log=s.log:=g8.trans a3;have hld:(X.settle z s1).2.leads=true:=g5.trans (a5.trans hl);have htm:(X.settle z s1).2.term=s.term:=g6.trans a6;rw [a3] at c1;rw [a4] at c2 c3;split
    ·rename_i hst;have c4:=c3 hst;have hw:=u5 (X.settle z s1).2 (bI (X.settle z s1).2) (by rw [g1,g2,a1,a2];exact ho) (by rw [g2,a2,hni.nn];exact hn5);have hlen:=fk (X.settle z s1).2 (bI (X.settle z s1).2) (by rw [g1,g2,a1,a2];exact ho);rw [g2,a2,hni.nn] at hlen;refine Ans.of (by omega) ?_ hld hlog htm c2;show (cT (X.settle z s1).2 (bI (X.settle z s1).2)).length+3*((X.settle z s1).2.log.length - (X.settle z s1).2.agreed)<=_;rw [hlog];omega
    ·split
     ·refine Ans.of (by rw [ye];omega) ?_ hld hlog htm c2;show 1+3*((X.settle z s1).2.log.length - (X.settle z s1).2.agreed)<=_;rw [hlog];omega
     ·refine Ans.of (by rw [lI];omega) ?_ hld hlog htm c2;show 0+3*((X.settle z s1).2.log.length - (X.settle z s1).2.agreed)<=_;rw [hlog];omega
theorem uR (hg:GI n G) (hni:NI z n G i s) (hm:MI n G m) (hf:Fit i n m) (hk:m.kind=3) (hs:s.leads=false\/s.term<m.N.getD 0 0) (ht:s.term<=m.N.getD 0 0) (x:Ms ρ) (hx:x∈(X.get z e s m).1) (h0:x.N.getD 1 0=0) (k:Nat) (hak:G.ack i (m.N.getD 0 0) k):(k:Int)<=x.N.getD 2 0:=by
 obtain ⟨h1,h2⟩:=hni.ackF _ _ hak;have hT:m.N.getD 0 0=s.term:=by omega
 have hsl:s.leads=false:=by
  rcases hs with h | h
  ·exact h
  ·omega
 have hpre:(G.L s.term).take k <+: s.log:=by
  rcases h2 with h2 | ⟨u,u1,u2,_⟩
  ·rw [<-hT];exact h2
  ·omega
 have hkl:=(hg.ack _ _ _ hak).2.2;rw [hT] at hkl;have hplen:((G.L s.term).take k).length=k:=by rw [aE];omega
 have hks:k<=s.log.length:=by have:=hpre.length_le;omega
 unfold X.get at hx;rw [hf.ok hni.own hni.nn] at hx;simp only [cD,if_false] at hx;rw [aw (by omega)] at hx;unfold getIn at hx;rw [aw (by omega),aw (by omega),ax hk] at hx;obtain ⟨f,_,_,_,_,h3,_⟩:=hm.f;obtain ⟨_,p,a,e2,e3,_,_,e6,_⟩:=h3 hk;unfold lays at hx;rw [aw (by
  simp only [aW,aV,be,ne_eq,aR,bk,cH,hsl];rintro ((h1 | h1) | ⟨_,h1⟩)
  ·exact h1 e6
  ·omega
  ·cases h1),aw (by omega)] at hx
 simp only at hx;split at hx
 ·split at hx
  ·rw [aj.1 hx] at h0;have h0:(1:Int)=0:=h0;omega
  ·cases hx
 ·rename_i hfit;rw [aj.1 hx];show (k:Int)<=min (s.log.length:Int) (max (m.N.getD 1 0 - 1) 0);have hpk:k<p:=by
   apply bz;intro hn;apply hfit;unfold ox;simp only [bk,aR,cH];rw [e2];refine ⟨by show (p:Int)<=(s.log.length:Int);omega,?_⟩;show bD s.log ((p:Int)).toNat=m.N.getD 2 0;rw [show ((p:Int)).toNat=p by omega,e3,hT,<-fq hpre (by omega),ed (by omega) hkl]
  omega
end
section
variable {ρ:Type} {z:ρ->Bool} {e:ρ}
variable {n i:Nat} {b b' M:Int} {S S':Cs ρ} {G:Gh ρ} {m:Ms ρ} {s:Nd ρ} {r:List (Ms ρ)×Nd ρ} {ms q:List (Ms ρ)}
def Rf (i:Nat) (M:Int) (m1 m2:Ms ρ):Prop:=m1.kind=4->m1.dst=(i:Int)->m1.N.getD 0 0=M->m1.N.getD 1 0≠0->m2.kind=4->m2.dst=(i:Int)->m2.N.getD 0 0=M->m2.N.getD 1 0=0->m1.frm=m2.frm->m1.N.getD 2 0<=m2.N.getD 2 0
structure P3 (z:ρ->Bool) (n:Nat) (b M:Int) (S:Cs ρ):Prop where
 wk:Wk z n b S
 ub:UB M S
 kd:∀m∈S.q,m.kind=3\/(m.kind=4/\m.N.length=3/\0<=m.N.getD 2 0)
 ld:∀i,S.up i=true->(S.nd i).leads=true->(S.nd i).term=M
 fr:∀m∈S.q,m.kind=3->∀i:Nat,S.up i=true->(S.nd i).leads=true->m.frm=(i:Int)->m.N.getD 0 0=M
 fa:∀i,S.up i=true->(S.nd i).leads=true->S.q.Pairwise (Rf i M)
 fb:∀m∈S.q,m.kind=4->m.N.getD 1 0=0->m.N.getD 0 0=M->∀i f:Nat,S.up i=true->(S.nd i).leads=true->m.dst=(i:Int)->m.frm=(f:Int)->(((S.nd i).mat.getD f 0:Nat):Int)<=m.N.getD 2 0
structure Kp (S S':Cs ρ):Prop where
 up:S'.up=S.up
 lead:∀i,S.up i=true->(S.nd i).leads=true->(S'.nd i).leads=true/\(S'.nd i).log=(S.nd i).log/\(S'.nd i).term=(S.nd i).term/\(S.nd i).agreed<=(S'.nd i).agreed
 back:∀i,(S'.nd i).leads=true->(S.nd i).leads=true
 term:∀i,(S.nd i).term<=(S'.nd i).term
 ticks:∀i,(S'.nd i).ticks=(S.nd i).ticks\/(S'.nd i).ticks=0
 clock:∀i,(S'.nd i).clock=(S.nd i).clock
 down:∀i,S.up i=false->S'.nd i=S.nd i
theorem Kp.refl (S:Cs ρ):Kp S S:=⟨rfl,λ_ _ h=>⟨h,rfl,rfl,ah _⟩,λ_ h=>h,λ_=>aM _,λ_=>.inl rfl,λ_=>rfl,λ_ _=>rfl⟩
theorem Kp.trans {S2:Cs ρ} (h:Kp S S') (g:Kp S' S2):Kp S S2:=by
 refine ⟨g.up.trans h.up,λi hu hl=>?_,λi hl=>h.back i (g.back i hl),λi=>cS (h.term i) (g.term i),λi=>?_,λi=>(g.clock i).trans (h.clock i),λi hu=>(g.down i (by rw [h.up];exact hu)).trans (h.down i hu)⟩
 ·grind [h.lead,g.lead,h.up]
 ·grind [g.ticks,h.ticks]
def phi (n:Nat) (S:Cs ρ):Nat:=wq S.q+eI n λi=>if (S.up i&&(S.nd i).leads)=true then pot (S.nd i) else 0
def psi (n:Nat) (S:Cs ρ):Nat:=S.q.length+eI n λi=>if (S.up i&&(S.nd i).leads)=true then 3*((S.nd i).log.length - (S.nd i).agreed) else 0
theorem rE (hk:m.kind=3) (x:Ms ρ) (hx:x∈(X.get z e s m).1):x.N.length=3/\0<=x.N.getD 2 0:=by
 have hin:∀s1:Nd ρ,x∈(getIn z e s1 m).1->x.N.length=3/\0<=x.N.getD 2 0:=λs1 hx=>by
  unfold getIn at hx;rw [aw (by omega),aw (by omega),ax hk] at hx;unfold lays at hx;split at hx
  ·cases hx
  ·split at hx
   ·rw [aj.1 hx];exact ⟨rfl,aM _⟩
   ·simp only at hx;split at hx
    ·split at hx
     ·rw [aj.1 hx];exact ⟨rfl,by show (0:Int)<=((_:Nat):Int);omega⟩
     ·cases hx
    ·rw [aj.1 hx];exact ⟨rfl,by show (0:Int)<=min _ (max _ 0);omega⟩
 unfold X.get at hx;split at hx
 ·cases hx
 ·grind
theorem rB (hk:m.kind=3) (hl:s.leads=true) (hN:m.N.getD 0 0<=s.term):(X.get z e s m).2=s:=by
 unfold X.get;split
 ·rfl
 ·rw [aw (by omega)];unfold getIn;rw [aw (by omega),aw (by omega),ax hk];unfold lays;split
  ·rfl
  ·grind
theorem lF (hml:s.mat.length=s.n) (hf:m.frm.toNat<s.n) (f:Nat) (hfo:f≠s.own) (ho:s.own<s.n):(answered z s m).2.mat.getD f 0=s.mat.getD f 0\/(f=m.frm.toNat/\m.N.getD 1 0≠0/\0<=m.N.getD 2 0/\(answered z s m).2.mat.getD f 0=(m.N.getD 2 0).toNat):=by
 unfold answered;split
 ·exact .inl rfl
 ·rename_i hy;simp only [aW,aV,be,not_or,ne_eq,da,dB,aR,Int.not_lt] at hy;obtain ⟨⟨⟨⟨_,hy2⟩,hy3⟩,hy4⟩,hy5⟩:=hy;simp only;split
  ·split
   ·exact .inl rfl
   ·exact .inl rfl
  ·grind [dt,eg,cW]
theorem WkG.one (h:WkG z n b G S) {i j:Nat} (hi:i<n) (hj:j<n) (h1:(S.nd i).leads=true) (h2:(S.nd j).leads=true) (h3:(S.nd i).term=(S.nd j).term):i=j:=by
 have e1:=((h.ni i hi).lds h1).1;have e2:=((h.ni j hj).lds h2).1;rw [h3,e2] at e1;simp only [co] at e1;exact e1.symm
theorem mL (n i:Nat) (hi:i<n) (v:Nat) (g:Nat->Nat):eI n (λj=>if j=i then v else g j)=eI n (λj=>if j=i then 0 else g j)+v:=by
 have:∀k,eI k (λj=>if j=i then v else g j)=eI k (λj=>if j=i then 0 else g j)+(if i<k then v else 0):=by
  intro k;induction k with
  | zero=>rfl
  | succ k ih =>
   rw [eY,eY,ih];by_cases e1:k=i
   ·subst e1;simp
   ·grind
 rw [this n,ax hi]
theorem yV (S:Cs ρ) (i:Nat) (hi:i<n) (r:List (Ms ρ)×Nd ρ) (hu:S.up i=true) (c:Nat) (h:wq r.1+(if r.2.leads=true then pot r.2 else 0)+1<=c+(if (S.nd i).leads=true then pot (S.nd i) else 0)):phi n (S.call i r)+1<=phi n S+c:=by
 unfold phi;rw [dR,Cb];have e1:eI n (λj=>if ((S.call i r).up j&&((S.call i r).nd j).leads)=true then pot ((S.call i r).nd j) else 0)=eI n (λj=>if j=i then (if r.2.leads=true then pot r.2 else 0) else if (S.up j&&(S.nd j).leads)=true then pot (S.nd j) else 0):=by
  refine hO n _ _ λj hj=>?_;simp only [bi];by_cases e2:j=i
  ·subst e2;have:(S.call j r).up j=true:=hu;rw [this];simp
  ·simp only [e2,if_false];rfl
 have e2:eI n (λj=>if (S.up j&&(S.nd j).leads)=true then pot (S.nd j) else 0)=eI n (λj=>if j=i then (if (S.nd i).leads=true then pot (S.nd i) else 0) else if (S.up j&&(S.nd j).leads)=true then pot (S.nd j) else 0):=by
  refine hO n _ _ λj hj=>?_;by_cases e2:j=i
  ·subst e2;rw [ax rfl,hu];simp
  ·simp only [e2,if_false]
 have k1:=mL n i hi (if r.2.leads=true then pot r.2 else 0) (λj=>if (S.up j&&(S.nd j).leads)=true then pot (S.nd j) else 0);have k2:=mL n i hi (if (S.nd i).leads=true then pot (S.nd i) else 0) (λj=>if (S.up j&&(S.nd j).leads)=true then pot (S.nd j) else 0);rw [e1,e2,k1,k2];omega
theorem yS (S:Cs ρ) (i:Nat) (hi:i<n) (r:List (Ms ρ)×Nd ρ) (hu:S.up i=true) (h:r.1.length+(if r.2.leads=true then 3*(r.2.log.length - r.2.agreed) else 0)<=1+(if (S.nd i).leads=true then 3*((S.nd i).log.length - (S.nd i).agreed) else 0)):psi n (S.call i r)<=psi n S+1:=by
 unfold psi;rw [dR,ay];have e1:eI n (λj=>if ((S.call i r).up j&&((S.call i r).nd j).leads)=true then 3*(((S.call i r).nd j).log.length - ((S.call i r).nd j).agreed) else 0)=eI n (λj=>if j=i then (if r.2.leads=true then 3*(r.2.log.length - r.2.agreed) else 0) else if (S.up j&&(S.nd j).leads)=true then 3*((S.nd j).log.length - (S.nd j).agreed) else 0):=by
  refine hO n _ _ λj hj=>?_;simp only [bi];by_cases e2:j=i
  ·subst e2;have:(S.call j r).up j=true:=hu;rw [this];simp
  ·simp only [e2,if_false];rfl
 have e2:eI n (λj=>if (S.up j&&(S.nd j).leads)=true then 3*((S.nd j).log.length - (S.nd j).agreed) else 0)=eI n (λj=>if j=i then (if (S.nd i).leads=true then 3*((S.nd i).log.length - (S.nd i).agreed) else 0) else if (S.up j&&(S.nd j).leads)=true then 3*((S.nd j).log.length - (S.nd j).agreed) else 0):=by
  refine hO n _ _ λj hj=>?_;by_cases e2:j=i
  ·subst e2;rw [ax rfl,hu];simp
  ·simp only [e2,if_false]
 have k1:=mL n i hi (if r.2.leads=true then 3*(r.2.log.length - r.2.agreed) else 0) (λj=>if (S.up j&&(S.nd j).leads)=true then 3*((S.nd j).log.length - (S.nd j).agreed) else 0);have k2:=mL n i hi (if (S.nd i).leads=true then 3*((S.nd i).log.length - (S.nd i).agreed) else 0) (λj=>if (S.up j&&(S.nd j).leads)=true then 3*((S.nd j).log.length - (S.nd j).agreed) else 0);rw [e1,e2,k1,k2];omega
end
end Go.Proofs.Ytnicaicjgaoolaa.X
