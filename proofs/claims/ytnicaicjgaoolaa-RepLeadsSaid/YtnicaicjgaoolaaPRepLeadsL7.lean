/-
  What the proof of the law leans on: contracts of the program's functions, one behind another. No condition.
-/
import Derived.Test.YtnicaicjgaoolaaU0
import Derived.Test.YtnicaicjgaoolaaPRepLeadsL6
set_option linter.unusedVariables false
set_option linter.unusedSimpArgs false
namespace Go.Proofs.Ytnicaicjgaoolaa.X
section
variable {ρ:Type} {z:ρ->Bool} {e:ρ}
variable {n i:Nat} {b b' M T:Int} {S S' S0 S1 S2 S3:Cs ρ} {G:Gh ρ} {m:Ms ρ} {s:Nd ρ} {r:List (Ms ρ)×Nd ρ} {ms q:List (Ms ρ)} {Λ:Nat} {l:Lg ρ}
theorem tP (hk:m.kind=2):(X.get z e s m).2.ticks=s.ticks:=by
 have hin:∀s1:Nd ρ,(getIn z e s1 m).2.ticks=s1.ticks:=λs1=>by
  unfold getIn;rw [aw (by omega),ax hk];unfold voted;split
  ·rfl
  ·simp only;split
   ·exact (eC (z:=z) (e:=e) { s1 with votes:=s1.votes.set m.frm.toNat true }).ticks
   ·rfl
 unfold X.get;split
 ·rfl
 ·split
  ·exact hin _
  ·exact hin _
def dE (S:Cs ρ) (i:Nat):Prop:=8<=(S.nd i).ticks+1/\kN { S.nd i with clock:=(S.nd i).clock+1,ticks:=(S.nd i).ticks+1 }=true
structure Ev (T:Int) (S:Cs ρ):Prop where
 q:S.q=[]
 nd:∀i,S.up i=true->(S.nd i).term=T/\(S.nd i).leads=false
def nx (s:Nd ρ):Nd ρ:={ s with clock:=s.clock+1,ticks:=s.ticks+1 }
theorem mS (hw:Wk z n b S) (hb:b+1<=1099511627776) (hn1:n≠1) (hv:Ev T S) (i:Nat) (hu:S.up i=true) (hi:i<n) :
  (dE S i->X.tick z e (S.nd i)=(cT (dq (S.nd i)) (bf (dq (S.nd i)) 1),dq (S.nd i))) /\
  (¬dE S i->(X.tick z e (S.nd i)).2=nx (S.nd i)/\(4<=(S.nd i).ticks+1->(X.tick z e (S.nd i)).1=cT (nx (S.nd i)) (bf (nx (S.nd i)) 5))/\(¬4<=(S.nd i).ticks+1->(X.tick z e (S.nd i)).1=[])):=by
 obtain ⟨G,hG⟩:=hw;have hni:=hG.ni i hi;have htb:=hG.tb i hi;have hl:=(hv.nd i hu).2;rcases dS (z:=z) (e:=e) (S.nd i) with ⟨h1,h2⟩ | ⟨h1,h2,h3,h4⟩ | ⟨h1,h2,h3,h4⟩ | ⟨h1,h2,h3,h4⟩
 ·rw [hl] at h1;cases h1
 ·refine ⟨λ_=>?_,λhc=>absurd ⟨h2,h3⟩ hc⟩;rw [h4,fB (by rw [hni.own,hni.nn];exact hi) (by omega),aw (by rw [hni.nn];exact hn1)]
 ·refine ⟨λhc=>absurd hc h2,λ_=>?_⟩;rw [h4];exact ⟨rfl,λ_=>rfl,λh=>absurd h3 h⟩
 ·refine ⟨λhc=>absurd hc h2,λ_=>?_⟩;rw [h4];exact ⟨rfl,λh=>by omega,λ_=>rfl⟩
def jx (s:Nd ρ) (k:Int):Int×Int×Int:=(k,(s.log.length:Int),bD s.log s.log.length)
structure EvR (T M:Int) (S S3:Cs ρ):Prop where
 ev:Ev M S3
 up:S3.up=S.up
 log:∀i,S.up i=true->(S3.nd i).log=(S.nd i).log
 clock:∀i,S.up i=true->(S3.nd i).clock=(S.nd i).clock+1
 heard:∀i,S.up i=true->∀j,(S3.nd i).heard.getD j (0,0,0)=(S.nd i).heard.getD j (0,0,0)\/(S.up j=true/\(S3.nd i).heard.getD j (0,0,0)=jx (S.nd j) ((S.nd i).clock+1:Nat))
 told:1<=T->∀i j,S.up i=true->S.up j=true->i≠j->¬dE S j->4<=(S.nd j).ticks+1->(S3.nd i).heard.getD j (0,0,0)=jx (S.nd j) ((S.nd i).clock+1:Nat)
 ticks:∀i,S.up i=true->¬dE S i->(S3.nd i).ticks=(S.nd i).ticks+1\/((S3.nd i).ticks=0/\∃c,S.up c=true/\dE S c/\ix (S.nd c).log (S.nd i).log)
 cand:∀c i,S.up c=true->dE S c->S.up i=true->ix (S.nd c).log (S.nd i).log->(S3.nd i).ticks=0
 candT:∀c,S.up c=true->dE S c->M=T+1/\(S3.nd c).ticks=0
 M:M=T\/M=T+1
structure EvN (n:Nat) (T:Int) (S:Cs ρ) (i:Nat) (s:Nd ρ):Prop where
 log:s.log=(S.nd i).log
 leads:s.leads=false
 clock:s.clock=(S.nd i).clock+1
 hl:s.heard.length=n
 heard:∀j,s.heard.getD j (0,0,0)=(S.nd i).heard.getD j (0,0,0)\/(S.up j=true/\s.heard.getD j (0,0,0)=jx (S.nd j) ((S.nd i).clock+1:Nat))
 nc:¬dE S i->(s.term=T/\s.ticks=(S.nd i).ticks+1)\/(s.term=T+1/\s.choice = -1/\s.ticks=(S.nd i).ticks+1)\/(s.term=T+1/\s.ticks=0/\∃c,S.up c=true/\dE S c/\ix (S.nd c).log (S.nd i).log/\s.choice=(c:Int))
 c:dE S i->s.term=T+1/\s.ticks=0/\s.choice=(i:Int)
theorem EvN.le (h:EvN n T S i s):T<=s.term:=by
 by_cases hc:dE S i
 ·have:=(h.c hc).1;omega
 ·rcases h.nc hc with g | g | g<;>omega
theorem uj {c:Nat} (hl:s.log=l) (k4:m.N.length=3) (k5:m.N.getD 1 0=((S.nd c).log.length:Int)) (k6:m.N.getD 2 0=bD (S.nd c).log (S.nd c).log.length):kf s m↔ix (S.nd c).log l:=by
 grind [kf,ix]
theorem EvN.ask {c:Nat} (h:EvN n T S i s) (hv:Ev T S) (hfit:Fit i n m) (ho:s.own=i) (hn:s.n=n) (c1:S.up c=true) (c2:dE S c) (hci:c≠i) (k1:m.kind=1) (k2:m.N.getD 0 0=T+1) (k3:m.frm=(c:Int)) (k4:m.N.length=3) (k5:m.N.getD 1 0=((S.nd c).log.length:Int)) (k6:m.N.getD 2 0=bD (S.nd c).log (S.nd c).log.length) (hT:0<=T) (hck:(X.get z e s m).2.clock=s.clock) :
  EvN n T S i (X.get z e s m).2/\(¬dE S i->ix (S.nd c).log (S.nd i).log->(X.get z e s m).2.ticks=0):=by
 obtain ⟨b1,b2,b3,b4,b5,b6,b7⟩:=h;have hyes:kf s m↔ix (S.nd c).log (S.nd i).log:=uj b1 k4 k5 k6;obtain ⟨ak,al⟩:=rQ (z:=z) (e:=e) hfit ho hn k1;have hl2:(X.get z e s m).2.leads=false:=by
  grind
 have hlog:=l7 (z:=z) (e:=e) (s:=s) (m:=m) (by omega) (.inl hl2);have hhe:=l9 (z:=z) (e:=e) (s:=s) (m:=m) (by omega);have key:¬dE S i->(((X.get z e s m).2.term=T+1/\(X.get z e s m).2.choice = -1/\(X.get z e s m).2.ticks=(S.nd i).ticks+1/\¬ix (S.nd c).log (S.nd i).log)\/((X.get z e s m).2.term=T+1/\(X.get z e s m).2.ticks=0/\∃c,S.up c=true/\dE S c/\ix (S.nd c).log (S.nd i).log/\(X.get z e s m).2.choice=(c:Int))):=λhnc=>by
  have hterm:s.term=T\/s.term=T+1:=by
   grind
  have ht1:(X.get z e s m).2.term=T+1:=by rw [ak.term,k2];omega
  by_cases hY:kf s m/\m.N.getD 0 0=(X.get z e s m).2.term/\(s.term<m.N.getD 0 0\/s.choice = -1\/s.choice=m.frm)
  ·grind [ak.yes]
  ·grind [ak.no]
 refine ⟨⟨hlog.trans b1,hl2,hck.trans b3,by rw [hhe];exact b4,by rw [hhe];exact b5,λhnc=>?_,λhc=>?_⟩,λhnc hU=>?_⟩
 ·grind
 ·obtain ⟨d1,d2,d3⟩:=b7 hc;have hno:¬(kf s m/\m.N.getD 0 0=(X.get z e s m).2.term/\(s.term<m.N.getD 0 0\/s.choice = -1\/s.choice=m.frm)):=λhY=>by
   rcases hY.2.2 with g | g | g<;>omega
  obtain ⟨y1,y2⟩:=ak.no hno;exact ⟨by rw [ak.term,k2];omega,by rw [y1];exact d2,by rw [y2,aw (by omega)];exact d3⟩
 ·grind
theorem EvN.tell {c:Nat} (h:EvN n T S i s) (hfit:1<=m.N.getD 0 0->Fit i n m) (ho:s.own=i) (hn:s.n=n) (c1:S.up c=true) (hcn:c<n) (k1:m.kind=5) (k2:m.N.getD 0 0=T) (k3:m.frm=(c:Int)) (k4:m.N.length=3) (k5:m.N.getD 1 0=((S.nd c).log.length:Int)) (k6:m.N.getD 2 0=bD (S.nd c).log (S.nd c).log.length) :
  EvN n T S i (X.get z e s m).2/\(X.get z e s m).1=[]/\(∀j,(X.get z e s m).2.heard.getD j (0,0,0)=s.heard.getD j (0,0,0)\/(X.get z e s m).2.heard.getD j (0,0,0)=jx (S.nd j) ((S.nd i).clock+1:Nat))/\(1<=T->(X.get z e s m).2.heard.getD c (0,0,0)=jx (S.nd c) ((S.nd i).clock+1:Nat)):=by
 have hle:=h.le;obtain ⟨b1,b2,b3,b4,b5,b6,b7⟩:=h;by_cases hT1:1<=T
 ·have hg:=zX (z:=z) (e:=e) (hfit (by omega)) ho hn k1 k4 (by omega);have hset:∀j,(s.heard.set m.frm.toNat ((s.clock:Int),m.N.getD 1 0,m.N.getD 2 0)).getD j (0,0,0)=if j=c then jx (S.nd c) ((S.nd i).clock+1:Nat) else s.heard.getD j (0,0,0):=λj=>by
   rw [aK,kS];by_cases e1:m.frm.toNat=j
   ·have hjc:j=c:=by omega
    subst hjc;rw [ax e1,ax (by rw [b4,e1];exact hcn),ax rfl];show ((s.clock:Int),m.N.getD 1 0,m.N.getD 2 0)=jx (S.nd j) _;rw [b3,k5,k6];rfl
   ·grind
  rw [hg];refine ⟨⟨b1,b2,b3,by show (List.set _ _ _).length=n;rw [cW];exact b4,λj=>?_,b6,b7⟩,rfl,λj=>?_,λ_=>?_⟩
  ·grind
  ·grind
  ·grind
 ·have hg:=ly (z:=z) (e:=e) (s:=s) (m:=m) (by omega);rw [hg];exact ⟨⟨b1,b2,b3,b4,b5,b6,b7⟩,rfl,λj=>.inl rfl,λh=>absurd h hT1⟩
structure EvG (z:ρ->Bool) (e:ρ) (n:Nat) (b M T:Int) (S S1 S3:Cs ρ):Prop where
 hT0:∀i,S.up i=true->0<=T
 hA:∀i,S.up i=true->(dE S i->(S.ticks z e n).nd i=dq (S.nd i))/\(¬dE S i->(S.ticks z e n).nd i=nx (S.nd i))
 hx:∀x∈(S.ticks z e n).q,(∃c d,S.up c=true/\dE S c/\d≠c/\x=bf (dq (S.nd c)) 1 d)\/(∃c d,S.up c=true/\¬dE S c/\d≠c/\x=bf (nx (S.nd c)) 5 d)
 hcq:∀c d,S.up c=true->dE S c->d<n->d≠c->bf (dq (S.nd c)) 1 d∈(S.ticks z e n).q
 hstA:∀c,S.up c=true->dE S c->((S.ticks z e n).nd c).term=T+1
 hnxA:∀c,S.up c=true->¬dE S c->((S.ticks z e n).nd c).term=T
 hM:M=T\/M=T+1
 hMc:∀c,S.up c=true->dE S c->M=T+1
 hMq:∀m∈(S.ticks z e n).q,m.N.getD 0 0<=M
 p0:Ph z n (b+1) M (S.ticks z e n).q (S.ticks z e n).noq (S.ticks z e n).noq
 P1:Ph z n (b+1) M (S.ticks z e n).q (S.ticks z e n).noq S1
 E1:∀i,S.up i=true->EvN n T S i (S1.nd i)
 K1:∀x∈S1.q,x.kind=2
 EVH:1<=T->∀i j,S.up i=true->S.up j=true->i≠j->¬dE S j->4<=(S.nd j).ticks+1->(S1.nd i).heard.getD j (0,0,0)=jx (S.nd j) ((S.nd i).clock+1:Nat)
 EVT:∀c i,S.up c=true->dE S c->S.up i=true->ix (S.nd c).log (S.nd i).log->(S1.nd i).ticks=0
 EVV:∀c v,S.up c=true->dE S c->(∀c',S.up c'=true->dE S c'->c'=c)->S.up v=true->v≠c->ix (S.nd c).log (S.nd v).log->∃x∈S1.q,x.kind=2/\x.dst=(c:Int)/\x.frm=(v:Int)/\x.N.getD 0 0=T+1/\x.N.getD 1 0=1
theorem B3 (hw:Wk z n b S) (hn:n<=5) (hn1:n≠1) (hb:b+1<=1099511627776) (hv:Ev T S) (h:Rd z e n b M Λ S S1 S2 S3) (h1:S1=(S.ticks z e n).noq.dl z e (S.ticks z e n).q):EvG z e n b M T S S1 S3:=by
 obtain ⟨t1,t2,t3⟩:=dm (z:=z) (e:=e) n S;have hwA:=hw.ticks (e:=e) hb;have hupn:∀i,S.up i=true->i<n:=by obtain ⟨G,hG⟩:=hw;exact hG.up
 have hown:∀i,i<n->(S.nd i).own=i/\(S.nd i).n=n:=by obtain ⟨G,hG⟩:=hw;exact λi hi=>⟨(hG.ni i hi).own,(hG.ni i hi).nn⟩
 have hT0:∀i,S.up i=true->0<=T:=λi hi=>by
  obtain ⟨G,hG⟩:=hw;have:=(hG.ni i (hupn i hi)).t0;rw [(hv.nd i hi).1] at this;exact this
 have hA:∀i,S.up i=true->(dE S i->(S.ticks z e n).nd i=dq (S.nd i))/\(¬dE S i->(S.ticks z e n).nd i=nx (S.nd i)):=λi hi=>by
  grind [mS]
 have hx:∀x∈(S.ticks z e n).q,(∃c d,S.up c=true/\dE S c/\d≠c/\x=bf (dq (S.nd c)) 1 d)\/(∃c d,S.up c=true/\¬dE S c/\d≠c/\x=bf (nx (S.nd c)) 5 d):=λx hx=>by
  rcases (t3 x).1 hx with g | ⟨c,c1,c2,c3⟩
  ·rw [hv.q] at g;cases g
  ·have ht:=mS (e:=e) hw hb hn1 hv c c2 c1;by_cases hc:dE S c
   ·rw [ht.1 hc] at c3;obtain ⟨d,d1,d2,rfl⟩:=cJ _ _ _ c3;have d2:d≠(S.nd c).own:=d2;exact .inl ⟨c,d,c2,hc,by rw [(hown c c1).1] at d2;exact d2,rfl⟩
   ·obtain ⟨g1,g2,g3⟩:=ht.2 hc;by_cases h4:4<=(S.nd c).ticks+1
    ·rw [g2 h4] at c3;obtain ⟨d,d1,d2,rfl⟩:=cJ _ _ _ c3;have d2:d≠(S.nd c).own:=d2;exact .inr ⟨c,d,c2,hc,by rw [(hown c c1).1] at d2;exact d2,rfl⟩
    ·rw [g3 h4] at c3;cases c3
 have hcq:∀c d,S.up c=true->dE S c->d<n->d≠c->bf (dq (S.nd c)) 1 d∈(S.ticks z e n).q:=λc d c1 c2 d1 d2=>by
  have ht:=mS (e:=e) hw hb hn1 hv c c1 (hupn c c1);refine (t3 _).2 (.inr ⟨c,hupn c c1,c1,?_⟩);rw [ht.1 c2];exact eJ _ _ d (by show d<(S.nd c).n;rw [(hown c (hupn c c1)).2];exact d1) (by show d≠(S.nd c).own;rw [(hown c (hupn c c1)).1];exact d2)
 have hhq:∀c d,S.up c=true->¬dE S c->4<=(S.nd c).ticks+1->d<n->d≠c->bf (nx (S.nd c)) 5 d∈(S.ticks z e n).q:=λc d c1 c2 c3 d1 d2=>by
  have ht:=mS (e:=e) hw hb hn1 hv c c1 (hupn c c1);refine (t3 _).2 (.inr ⟨c,hupn c c1,c1,?_⟩);rw [(ht.2 c2).2.1 c3];exact eJ _ _ d (by show d<(S.nd c).n;rw [(hown c (hupn c c1)).2];exact d1) (by show d≠(S.nd c).own;rw [(hown c (hupn c c1)).1];exact d2)
 have hstA:∀c,S.up c=true->dE S c->((S.ticks z e n).nd c).term=T+1:=λc c1 c2=>by
  rw [(hA c c1).1 c2];show (S.nd c).term+1=_;rw [(hv.nd c c1).1]
 have hnxA:∀c,S.up c=true->¬dE S c->((S.ticks z e n).nd c).term=T:=λc c1 c2=>by
  rw [(hA c c1).2 c2];exact (hv.nd c c1).1
 have hM:M=T\/M=T+1:=by
  grind [h.top]
 have hMc:∀c,S.up c=true->dE S c->M=T+1:=λc c1 c2=>by
  have h3:=h.ub c c1;have h4:=h.term c;rw [hstA c c1 c2] at h4;rcases hM with g | g<;>omega
 have hub:=h.ra.b1;have hMq:∀m∈(S.ticks z e n).q,m.N.getD 0 0<=M:=λm hm=>by
  rcases hx m hm with ⟨c,d,c1,c2,_,rfl⟩ | ⟨c,d,c1,c2,_,rfl⟩
  ·show (S.nd c).term+1<=M;rw [(hv.nd c c1).1,hMc c c1 c2];exact aM _
  ·show (S.nd c).term<=M;rw [(hv.nd c c1).1];rcases hM with g | g<;>omega
 have ubA:UB M (S.ticks z e n).noq:=⟨λi hi=>by
  have hi:S.up i=true:=by rw [<-t2];exact hi
  show ((S.ticks z e n).nd i).term<=M;by_cases hc:dE S i
  ·grind
  ·rw [hnxA i hi hc];rcases hM with g | g<;>omega,λm hm=>by cases hm⟩
 have p0:Ph z n (b+1) M (S.ticks z e n).q (S.ticks z e n).noq (S.ticks z e n).noq:=Ph.start hwA.wkm ubA;have step:∀(S':Cs ρ) (m:Ms ρ),(Ph z n (b+1) M (S.ticks z e n).q (S.ticks z e n).noq S'/\(∀i,S.up i=true->EvN n T S i (S'.nd i))/\∀x∈S'.q,x.kind=2)->m∈(S.ticks z e n).q->(Ph z n (b+1) M (S.ticks z e n).q (S.ticks z e n).noq (S'.bring z e m)/\(∀i,S.up i=true->EvN n T S i ((S'.bring z e m).nd i))/\∀x∈(S'.bring z e m).q,x.kind=2) /\
   ∀i,S.up i=true->m.dst=(i:Int)->(S'.bring z e m).nd i=(X.get z e (S'.nd i) m).2/\(∀c d,S.up c=true->dE S c->m=bf (dq (S.nd c)) 1 d->¬dE S i->ix (S.nd c).log (S.nd i).log->((S'.bring z e m).nd i).ticks=0)/\(∀c d,S.up c=true->m=bf (nx (S.nd c)) 5 d->1<=T->((S'.bring z e m).nd i).heard.getD c (0,0,0)=jx (S.nd c) ((S.nd i).clock+1:Nat))/\(∀j,((S'.bring z e m).nd i).heard.getD j (0,0,0)=(S'.nd i).heard.getD j (0,0,0)\/((S'.bring z e m).nd i).heard.getD j (0,0,0)=jx (S.nd j) ((S.nd i).clock+1:Nat)):=λS' m hI hm=>by
  obtain ⟨a1,a2,a3⟩:=hI;obtain ⟨g1,i,g2,g3,g4,g5,g6⟩:=a1.take (e:=e) hb hm (hMq m hm);have hup':S'.up=S.up:=by rw [a1.up];exact t2
  cases hu:S'.up i with
  | false =>
   refine ⟨⟨g1,by rw [g6 hu];exact a2,by rw [g6 hu];exact a3⟩,λi' hi' hd=>?_⟩;have:i'=i:=by omega
   subst this;rw [hup',hi'] at hu;cases hu
  | true =>
   have hui:S.up i=true:=by rw [<-hup'];exact hu
   have hE:=a2 i hui;have hT:=hT0 i hui;obtain ⟨G,hG,hms⟩:=a1.wk;have hni:=hG.ni i g2;have hfit:1<=m.N.getD 0 0->Fit i n m:=λh1=>by
    obtain ⟨i5,_,e5,_,hfit⟩:=(hms m hm).2.fit hb h1;obtain rfl:i5=i:=by omega
    exact hfit
   have hno5:(m.kind=1->∀c d,m≠bf (nx (S.nd c)) 5 d)/\(m.kind=5->∀c d,m≠bf (dq (S.nd c)) 1 d):=⟨λh c d hh=>(by rw [hh] at h;cases h),λh c d hh=>(by rw [hh] at h;cases h)⟩
   have fin:EvN n T S i (X.get z e (S'.nd i) m).2->(∀x∈(X.get z e (S'.nd i) m).1,x.kind=2)->(∀i,S.up i=true->EvN n T S i ((S'.bring z e m).nd i))/\∀x∈(S'.bring z e m).q,x.kind=2:=λh1 h2=>by
    rw [g5 hu];refine ⟨λi' hi'=>?_,λx hx=>?_⟩
    ·grind [bi]
    ·grind [dR,av.1]
   have hbr:(S'.bring z e m).nd i=(X.get z e (S'.nd i) m).2:=by rw [g5 hu,bi,ax rfl]
   have hdi:∀i':Nat,m.dst=(i':Int)->i'=i:=λi' h=>by omega
   rcases hx m hm with ⟨c,d,c1,c2,c3,hmm⟩ | ⟨c,d,c1,c2,c3,hmm⟩
   ·have hcn:=hown c (hupn c c1);have k1:m.kind=1:=by rw [hmm];rfl
    have k2:m.N.getD 0 0=T+1:=by rw [hmm];show (S.nd c).term+1=_;rw [(hv.nd c c1).1]
    have k3:m.frm=(c:Int):=by rw [hmm];show (((S.nd c).own:Nat):Int)=_;rw [hcn.1]
    have hci:c≠i:=λe1=>by
     subst e1;obtain ⟨i2,f,_,_,f3,f4,f5⟩:=(hms m hm).2.f;omega
    obtain ⟨r1,r2⟩:=hE.ask (z:=z) (e:=e) hv (hfit (by omega)) hni.own hni.nn c1 c2 hci k1 k2 k3 (by rw [hmm];rfl) (by rw [hmm];rfl) (by rw [hmm];rfl) hT g4.clock;have hhe:=l9 (z:=z) (e:=e) (s:=S'.nd i) (m:=m) (by omega);refine ⟨⟨g1,fin r1 (λx hx=>?_)⟩,λi' hi' hd=>?_⟩
    ·obtain ⟨_,_,_,o,_⟩:=g4.out x hx;rcases o with o | o | o | o
     ·exact o.2.1
     ·omega
     ·omega
     ·omega
    ·obtain rfl:=hdi i' hd;rw [hbr];refine ⟨rfl,λc' d' h1 h2 h3 h4 h5=>?_,λc' d' _ h2=>absurd h2 (hno5.1 k1 c' d'),λj=>.inl (by rw [hhe])⟩;have hc':c'=c:=by
      have:m.frm=((S.nd c').own:Int):=by rw [h3];rfl
      rw [(hown c' (hupn c' h1)).1] at this;omega
     subst hc';exact r2 h4 h5
   ·have hcn:=hown c (hupn c c1);have k1:m.kind=5:=by rw [hmm];rfl
    have k2:m.N.getD 0 0=T:=by rw [hmm];show (S.nd c).term=_;rw [(hv.nd c c1).1]
    have k3:m.frm=(c:Int):=by rw [hmm];show (((S.nd c).own:Nat):Int)=_;rw [hcn.1]
    obtain ⟨r1,r2,r3,r4⟩:=hE.tell (z:=z) (e:=e) hfit hni.own hni.nn c1 (hupn c c1) k1 k2 k3 (by rw [hmm];rfl) (by rw [hmm];rfl) (by rw [hmm];rfl);refine ⟨⟨g1,fin r1 (λx hx=>by rw [r2] at hx;cases hx)⟩,λi' hi' hd=>?_⟩;obtain rfl:=hdi i' hd;rw [hbr];refine ⟨rfl,λc' d' _ _ h3=>absurd h3 (hno5.2 k1 c' d'),λc' d' h1 h2 h3=>?_,r3⟩;have hc':c'=c:=by
     have:m.frm=((S.nd c').own:Int):=by rw [h2];rfl
     rw [(hown c' (hupn c' h1)).1] at this;omega
    subst hc';exact r4 h3
 have start:Ph z n (b+1) M (S.ticks z e n).q (S.ticks z e n).noq (S.ticks z e n).noq/\(∀i,S.up i=true->EvN n T S i ((S.ticks z e n).noq.nd i))/\∀x∈(S.ticks z e n).noq.q,x.kind=2:=⟨p0,λi hi=>by
   obtain ⟨G,hG⟩:=hw;have hh:=(hG.ln i (hupn i hi)).hl;rw [(hown i (hupn i hi)).2] at hh;have e1:(S.ticks z e n).noq.nd i=(S.ticks z e n).nd i:=rfl;rw [e1];by_cases hc:dE S i
   ·rw [(hA i hi).1 hc];exact ⟨rfl,by show ((S.nd i).leads&&_)=false;rw [(hv.nd i hi).2];rfl,rfl,hh,λj=>.inl rfl,λhnc=>absurd hc hnc,λ_=>⟨by show (S.nd i).term+1=_;rw [(hv.nd i hi).1],rfl,by show (((S.nd i).own:Nat):Int)=_;rw [(hown i (hupn i hi)).1]⟩⟩
   ·rw [(hA i hi).2 hc];exact ⟨rfl,(hv.nd i hi).2,rfl,hh,λj=>.inl rfl,λ_=>.inl ⟨(hv.nd i hi).1,rfl⟩,λhc2=>absurd hc2 hc⟩,λx hx=>by cases hx⟩
 obtain ⟨P1,E1,K1⟩:=eP (z:=z) (e:=e) (ms:=(S.ticks z e n).q) (S:=(S.ticks z e n).noq) (λS' m hI hm=>(step S' m hI hm).1) start;have EVH:1<=T->∀i j,S.up i=true->S.up j=true->i≠j->¬dE S j->4<=(S.nd j).ticks+1->(((S.ticks z e n).noq.dl z e (S.ticks z e n).q).nd i).heard.getD j (0,0,0)=jx (S.nd j) ((S.nd i).clock+1:Nat):=λhT1 i j hi hj hij hcj h4=>by
  have hmq:=hhq j i hj hcj h4 (hupn i hi) hij;refine nQ (z:=z) (e:=e) (P:=λS'=>(S'.nd i).heard.getD j (0,0,0)=jx (S.nd j) ((S.nd i).clock+1:Nat)) hmq (λS' m hI hm=>(step S' m hI hm).1) (λS' hI=>?_) (λS' m hI hm hP=>?_) start
  ·exact ((step S' _ hI hmq).2 i hi rfl).2.2.1 j i hj rfl hT1
  ·obtain ⟨g1,i2,g2,g3,g4,g5,g6⟩:=hI.1.take (e:=e) hb hm (hMq m hm);by_cases e1:i2=i
   ·grind
   ·cases hu:S'.up i2 with
    | false=>rw [g6 hu];exact hP
    | true=>rw [g5 hu,bi,aw (ud e1)];exact hP
 have EVT:∀c i,S.up c=true->dE S c->S.up i=true->ix (S.nd c).log (S.nd i).log->(((S.ticks z e n).noq.dl z e (S.ticks z e n).q).nd i).ticks=0:=λc i hc1 hc2 hi hU=>by
  by_cases hci:dE S i
  ·exact ((E1 i hi).c hci).2.1
  ·have hic:i≠c:=λe1=>hci (e1 ▸ hc2);have hmq:=hcq c i hc1 hc2 (hupn i hi) hic;refine nQ (z:=z) (e:=e) (P:=λS'=>(S'.nd i).ticks=0) hmq (λS' m hI hm=>(step S' m hI hm).1) (λS' hI=>?_) (λS' m hI hm hP=>?_) start
   ·exact ((step S' _ hI hmq).2 i hi rfl).2.1 c i hc1 hc2 rfl hci hU
   ·obtain ⟨g1,i2,g2,g3,g4,g5,g6⟩:=hI.1.take (e:=e) hb hm (hMq m hm);cases hu:S'.up i2 with
    | false=>rw [g6 hu];exact hP
    | true =>
     rw [g5 hu,bi];split
     ·grind [g4.ticks]
     ·exact hP
 have EVV:∀c v,S.up c=true->dE S c->(∀c',S.up c'=true->dE S c'->c'=c)->S.up v=true->v≠c->ix (S.nd c).log (S.nd v).log->∃x∈((S.ticks z e n).noq.dl z e (S.ticks z e n).q).q,x.kind=2/\x.dst=(c:Int)/\x.frm=(v:Int)/\x.N.getD 0 0=T+1/\x.N.getD 1 0=1:=λc v hc1 hc2 hone hvu hvc hU=>by
  have hnc:¬dE S v:=λg=>hvc (hone v hvu g);have hmq:=hcq c v hc1 hc2 (hupn v hvu) hvc;refine nQ (z:=z) (e:=e) (P:=λS'=>∃x∈S'.q,x.kind=2/\x.dst=(c:Int)/\x.frm=(v:Int)/\x.N.getD 0 0=T+1/\x.N.getD 1 0=1) hmq (λS' m hI hm=>(step S' m hI hm).1) (λS' hI=>?_) (λS' m hI hm hP=>?_) start
  ·obtain ⟨g1,i,g2,g3,g4,g5,g6⟩:=hI.1.take (e:=e) hb hmq (hMq _ hmq);have hd:(bf (dq (S.nd c)) 1 v).dst=(v:Int):=rfl;obtain rfl:i=v:=by omega
   have hu:S'.up i=true:=by rw [hI.1.up];show (S.ticks z e n).up i=true;rw [t2];exact hvu
   rw [g5 hu];obtain ⟨G,hG,hms⟩:=hI.1.wk;have hni:=hG.ni i g2;have hE:=hI.2.1 i hvu;have hT:=hT0 i hvu;have k2:(bf (dq (S.nd c)) 1 i).N.getD 0 0=T+1:=by show (S.nd c).term+1=_;rw [(hv.nd c hc1).1]
   have k3:(bf (dq (S.nd c)) 1 i).frm=(c:Int):=by show (((S.nd c).own:Nat):Int)=_;rw [(hown c (hupn c hc1)).1]
   obtain ⟨i5,_,e5,_,hfit⟩:=(hms _ hmq).2.fit hb (by omega);obtain rfl:i5=i:=by omega
   obtain ⟨ak,_⟩:=rQ (z:=z) (e:=e) hfit hni.own hni.nn rfl;have hyes:=(uj (l:=(S.nd i5).log) (m:=bf (dq (S.nd c)) 1 i5) (S:=S) (c:=c) hE.log rfl rfl rfl).2 hU;have hterm:(S'.nd i5).term=T\/(S'.nd i5).term=T+1:=by
    grind [hE.nc]
   have ht1:(X.get z e (S'.nd i5) (bf (dq (S.nd c)) 1 i5)).2.term=T+1:=by rw [ak.term,k2];omega
   obtain ⟨_,_,x,x1,x2,x3,x4,x5,x6⟩:=ak.yes ⟨hyes,by rw [k2,ht1],by
    rcases hE.nc hnc with g | g | g
    ·exact .inl (by omega)
    ·exact .inr (.inl g.2.1)
    ·obtain ⟨_,_,c',g3,g4,_,g5⟩:=g;rw [hone c' g3 g4] at g5;exact .inr (.inr (by rw [g5,k3]))⟩
   exact ⟨x,aG _ x1,x2,by rw [x3,k3],by rw [x4,hni.own],by rw [x5,ht1],x6⟩
  ·obtain ⟨x,x1,x2⟩:=hP;obtain ⟨o,o1,_⟩:=qb (z:=z) (e:=e) S' m;exact ⟨x,by rw [o1];exact aD _ x1,x2⟩
 rw [<-h1] at P1 E1 K1 EVH EVT EVV;exact ⟨hT0,hA,hx,hcq,hstA,hnxA,hM,hMc,hMq,p0,P1,E1,K1,EVH,EVT,EVV⟩
theorem lz (hw:Wk z n b S) (hn:n<=5) (hn1:n≠1) (hb:b+1<=1099511627776) (hv:Ev T S) (h:Rd z e n b M Λ S S1 S2 S3) (h1:S1=(S.ticks z e n).noq.dl z e (S.ticks z e n).q) (h2:S2=S1.noq.dl z e S1.q) (hnl:∀i,S.up i=true->(S3.nd i).leads=false):EvR T M S S3:=by
 obtain ⟨t1,t2,t3⟩:=dm (z:=z) (e:=e) n S;obtain ⟨hT0,hA,hx,hcq,hstA,hnxA,hM,hMc,hMq,p0,P1,E1,K1,EVH,EVT,_⟩:=B3 hw hn hn1 hb hv h h1;have w1:=h.ra.w1.wkm;have u1:S1.up=S.up:=h.ra.u1.trans t2;have ub1:UB M S1.noq:=⟨h.ra.b1.nd,λm hm=>by cases hm⟩
 have p1:Ph z n (b+1) M S1.q S1.noq S1.noq:=Ph.start w1 ub1;have hM1:=h.ra.b1.q;have hS1M:S1.q≠[]->∀i,S.up i=true->M<=(S1.nd i).term:=λhne i hi=>by
  have hex:∃c,S.up c=true/\dE S c:=by
   apply bz;intro hno;apply hne;have:∀x∈(S.ticks z e n).q,x.kind=5:=λx hxq=>by
    rcases hx x hxq with ⟨c,d,c1,c2,_⟩ | ⟨c,d,c1,c2,_,rfl⟩
    ·exact absurd ⟨c,c1,c2⟩ hno
    ·rfl
   rw [h1];refine (eP (z:=z) (e:=e) (ms:=(S.ticks z e n).q) (S:=(S.ticks z e n).noq) (Inv:=λS'=>Ph z n (b+1) M (S.ticks z e n).q (S.ticks z e n).noq S'/\S'.q=[]) (λS' m hI hm=>?_) ⟨p0,rfl⟩).2;obtain ⟨g1,i2,g2,g3,g4,g5,g6⟩:=hI.1.take (e:=e) hb hm (hMq m hm);refine ⟨g1,?_⟩;cases hu:S'.up i2 with
   | false=>rw [g6 hu];exact hI.2
   | true =>
    rw [g5 hu,dR,hI.2,bR,cO];intro x hx2;obtain ⟨_,_,_,o,_⟩:=g4.out x hx2;have:=this m hm;rcases o with o | o | o | o<;>omega
  obtain ⟨c,c1,c2⟩:=hex;have hMT:=hMc c c1 c2;have:=h.all1 c c1 (by rw [hstA c c1 c2,hMT]) (by have:=hT0 c c1;omega) (λd d1 d2=>⟨_,hcq c d c1 c2 d1 d2,rfl,by show (S.nd c).term+1=M;rw [(hv.nd c c1).1,hMT]⟩) i hi;omega
 have I2:=eP (z:=z) (e:=e) (ms:=S1.q) (S:=S1.noq) (Inv:=λS'=>Ph z n (b+1) M S1.q S1.noq S'/\((∃l,S.up l=true/\(S'.nd l).leads=true/\(S'.nd l).term=M)\/(S'.q=[]/\∀i,S.up i=true->(S'.nd i).log=(S1.nd i).log/\(S'.nd i).heard=(S1.nd i).heard/\(S'.nd i).ticks=(S1.nd i).ticks/\(S'.nd i).leads=false))) (λS' m hI hm=>by
  obtain ⟨a1,a2⟩:=hI;obtain ⟨g1,i,g2,g3,g4,g5,g6⟩:=a1.take (e:=e) hb hm (hM1 m hm);refine ⟨g1,?_⟩;rcases a2 with ⟨l,l1,l2,l3⟩ | ⟨q1,q2⟩
  ·exact .inl ⟨l,l1,a1.lead hb hm (hM1 m hm) (by show S1.up l=true;rw [u1];exact l1) ⟨l2,l3⟩⟩
  ·cases hu:S'.up i with
   | false=>rw [g6 hu];exact .inr ⟨q1,q2⟩
   | true =>
    have hui:S.up i=true:=by rw [<-u1];rw [a1.up] at hu;exact hu
    have k2:=K1 m hm;have hne:S1.q≠[]:=λe1=>by rw [e1] at hm;cases hm
    cases hl:(X.get z e (S'.nd i) m).2.leads with
    | true =>
     left;refine ⟨i,hui,?_⟩;have hub:=g1.ub.nd i (by rw [ie];exact hu);rw [g5 hu,bi,ax rfl] at hub ⊢;refine ⟨hl,?_⟩;have h3:=hS1M hne i hui;have h4:=a1.term i;have e4:(S1.noq.nd i).term=(S1.nd i).term:=rfl;have h5:=g4.up;omega
    | false =>
     right;rw [g5 hu];have hlog:=l7 (z:=z) (e:=e) (s:=S'.nd i) (m:=m) (by omega) (.inl hl);have hhe:=l9 (z:=z) (e:=e) (s:=S'.nd i) (m:=m) (by omega);have htk:=tP (z:=z) (e:=e) (s:=S'.nd i) (m:=m) k2;refine ⟨?_,λi' hi'=>?_⟩
     ·rw [dR,q1,bR,cO];intro x hx2;obtain ⟨_,_,_,o,o5⟩:=g4.out x hx2;have:x.kind=3:=by rcases o with o | o | o | o<;>omega
      have:=o5 this;rw [hl] at this;cases this
     ·rw [bi];by_cases e1:i'=i
      ·subst e1;rw [ax rfl];obtain ⟨d1,d2,d3,_⟩:=q2 i' hi';exact ⟨hlog.trans d1,hhe.trans d2,htk.trans d3,hl⟩
      ·rw [aw e1];exact q2 i' hi') ⟨p1,.inr ⟨rfl,λi hi=>⟨rfl,rfl,rfl,(E1 i hi).leads⟩⟩⟩
 rw [<-h2] at I2;obtain ⟨P2,I2⟩:=I2;have u2:S2.up=S.up:=h.ra.u2.trans t2;rcases I2 with ⟨l,l1,l2,l3⟩ | ⟨q1,q2⟩
 ·exfalso;have:=(h.kp.lead l (by rw [u2];exact l1) l2).1;rw [hnl l l1] at this;cases this
 ·have h32:=h.same q1;have hterm:∀i,S.up i=true->(S3.nd i).term=M:=λi hi=>by
   have h3:=h.ub i hi;have h4:=h.term i;rcases hM with g | g
   ·by_cases hc:dE S i
    ·have:=hMc i hi hc;omega
    ·rw [hnxA i hi hc] at h4;omega
   ·obtain ⟨y,y1,y2,y3⟩:=h.top;have hcy:dE S y:=by
     apply bz;intro hc;rw [hnxA y y2 hc] at y3;omega
    exact h.all y y2 y3 (by have:=hT0 y y2;omega) (λd d1 d2=>⟨_,hcq y d y2 hcy d1 d2,rfl,by show (S.nd y).term+1=M;rw [(hv.nd y y2).1,g]⟩) i hi
  refine ⟨⟨h.q,λi hi=>⟨hterm i (by rw [<-h.up];exact hi),hnl i (by rw [<-h.up];exact hi)⟩⟩,h.up,λi hi=>?_,λi hi=>?_,λi hi j=>?_,λhT1 i j hi hj hij hc h4=>?_,λi hi hc=>?_,λc i hc1 hc2 hi hU=>?_,λc hc1 hc2=>⟨hMc c hc1 hc2,?_⟩,hM⟩
  ·rw [h32,(q2 i hi).1];exact (E1 i hi).log
  ·rw [h.clock];by_cases hc:dE S i
   ·rw [(hA i hi).1 hc];rfl
   ·rw [(hA i hi).2 hc];rfl
  ·rw [h32,(q2 i hi).2.1];exact (E1 i hi).heard j
  ·rw [h32,(q2 i hi).2.1];exact EVH hT1 i j hi hj hij hc h4
  ·rw [h32,(q2 i hi).2.2.1];rcases (E1 i hi).nc hc with g | g | g
   ·exact .inl g.2
   ·exact .inl g.2.2
   ·obtain ⟨_,g2,c,g3,g4,g5,_⟩:=g;exact .inr ⟨g2,c,g3,g4,g5⟩
  ·rw [h32,(q2 i hi).2.2.1];exact EVT c i hc1 hc2 hi hU
  ·rw [h32,(q2 c hc1).2.2.1];exact ((E1 c hc1).c hc2).2.1
end
section
variable {ρ:Type} {z:ρ->Bool} {e:ρ}
variable {n i:Nat} {b b' M T:Int} {S S' S0 S1 S2 S3:Cs ρ} {G:Gh ρ} {m:Ms ρ} {s:Nd ρ} {r:List (Ms ρ)×Nd ρ} {ms q:List (Ms ρ)} {Λ:Nat} {l:Lg ρ}
theorem lZ (h1:m.kind≠1) (h3:m.kind≠3):(X.get z e s m).2.ticks=s.ticks:=by
 have hin:∀s1:Nd ρ,(getIn z e s1 m).2.ticks=s1.ticks:=λs1=>by
  unfold getIn;rw [aw h1];split
  ·unfold voted;split
   ·rfl
   ·simp only;split
    ·exact (eC (z:=z) (e:=e) { s1 with votes:=s1.votes.set m.frm.toNat true }).ticks
    ·rfl
  ·grind [answered,dt]
 unfold X.get;split
 ·rfl
 ·split
  ·exact hin _
  ·exact hin _
theorem uN (h:m.kind=1\/m.kind=3) (ht:m.N.getD 0 0<s.term):(X.get z e s m).2.ticks=s.ticks:=by
 unfold X.get;split
 ·rfl
 ·grind [getIn,n7,lays]
theorem wB (h:m.kind≠2):(X.get z e s m).2.votes=s.votes:=by
 have hin:∀s1:Nd ρ,(getIn z e s1 m).2.votes=s1.votes:=λs1=>by
  unfold getIn;split
  ·unfold asked;split
   ·simp only;split
    ·split<;>rfl
    ·rfl
   ·rfl
  ·split
   ·unfold lays;split
    ·rfl
    ·split
     ·rfl
     ·simp only;split
      ·obtain ⟨_,_,k3⟩:=rJ (m.N.getD 1 0).toNat ((m.N.drop 4).zip m.B) 0 { s1 with ticks:=0 };generalize bE (m.N.getD 1 0).toNat ((m.N.drop 4).zip m.B) 0 { s1 with ticks:=0 }=p at *;split
       ·show (X.agree z p.2 _).votes=_;unfold X.agree;split<;>exact k3
       ·exact k3
      ·rfl
   ·grind [answered,dt]
 unfold X.get;split
 ·rfl
 ·split
  ·exact hin _
  ·exact hin _
def Nl (S:Cs ρ):Prop:=S.q=[]/\∀i,S.up i=true->(S.nd i).leads=false
theorem ym (hw:Wk z n b S) (hn:n<=5) (hn1:n≠1) (hb:b+1<=1099511627776) (hv:Nl S) (h:Rd z e n b M Λ S S1 S2 S3) (h1:S1=(S.ticks z e n).noq.dl z e (S.ticks z e n).q) (h2:S2=S1.noq.dl z e S1.q) (hd:∃k,S3=Cs.drain z e k S2/\phi n S2<=k) (hnl:∀i,S.up i=true->(S3.nd i).leads=false)
  {y:Nat} (hy:S.up y=true) (hmax:∀i,S.up i=true->(S.nd i).term<=(S.nd y).term) :
  (∃T,Ev T S3)\/((∀i,S.up i=true->(S3.nd i).term<=(S3.nd y).term)/\(S3.nd y).ticks=(S.nd y).ticks+1/\(S.nd y).ticks+1<4):=by
 obtain ⟨t1,t2,t3⟩:=dm (z:=z) (e:=e) n S;have hwA:=hw.ticks (e:=e) hb;have hupn:∀i,S.up i=true->i<n:=by obtain ⟨G,hG⟩:=hw;exact hG.up
 have hTk:=λi (hi:S.up i=true)=>hw.tk (e:=e) hb i (hupn i hi);have hnd:∀i,S.up i=true->(S.ticks z e n).nd i=(X.tick z e (S.nd i)).2:=λi hi=>by rw [t1,ax ⟨hupn i hi,hi⟩]
 have ht0:∀i,S.up i=true->0<=(S.nd i).term:=λi hi=>by obtain ⟨G,hG⟩:=hw;exact (hG.ni i (hupn i hi)).t0
 have hub0:∀i,S.up i=true->((S.ticks z e n).nd i).term<=M:=λi hi=>cS (h.term i) (h.ub i hi);have mk:(∀j,S.up j=true->(S3.nd j).term=M)->∃T,Ev T S3:=λhh=>⟨M,h.q,λi hi=>⟨hh i (by rw [<-h.up];exact hi),hnl i (by rw [<-h.up];exact hi)⟩⟩
 have hstood:∀w,S.up w=true->((S.ticks z e n).nd w).term=(S.nd w).term+1->((S.ticks z e n).nd w).term=M->∃T,Ev T S3:=λw w1 w2 w3=>by
  obtain ⟨tk,ho,hnn⟩:=hTk w w1;have hw2:=hnd w w1;refine mk (h.all w w1 w3 (by have:=ht0 w w1;omega) λd d1 d2=>?_);obtain ⟨x,x1,x2,_⟩:=tk.cand (by rw [<-hw2];exact w2) d (by rw [hnn];exact d1) (by rw [ho];exact d2);obtain ⟨_,o2,_⟩:=tk.out x x1;exact ⟨x,(t3 x).2 (.inr ⟨w,hupn w w1,w1,x1⟩),x2,by rw [o2,<-hw2];exact w3⟩
 obtain ⟨w,w1,w2,w3⟩:=h.top;have hyA:=(hTk y hy).1.term;rw [<-hnd y hy] at hyA;have hyM:=hub0 y hy;by_cases hMy:(S.nd y).term<M
 ·left;have hwA2:=(hTk w w2).1.term;rw [<-hnd w w2] at hwA2;have:=hmax w w2;rcases hwA2 with g | g
  ·omega
  ·exact hstood w w2 g w3
 ·have hMy:M=(S.nd y).term:=by rcases hyA with g | g<;>omega
  have hyt:((S.ticks z e n).nd y).term=(S.nd y).term:=by rcases hyA with g | g<;>omega
  by_cases hM0:M<1
  ·left;refine mk λj hj=>?_;have h3:=h.ub j hj;have h4:=h.term j;have h5:=(hTk j hj).1.term;rw [<-hnd j hj] at h5;have:=ht0 j hj;rcases h5 with g | g<;>omega
  ·rcases dS (z:=z) (e:=e) (S.nd y) with ⟨c1,c2⟩ | ⟨c1,c2,c3,c4⟩ | ⟨c1,c2,c3,c4⟩ | ⟨c1,c2,c3,c4⟩
   ·rw [hv.2 y hy] at c1;cases c1
   ·exfalso;have hoy:=(hTk y hy).2;obtain ⟨G,hG⟩:=hw;have htb:=hG.tb y (hupn y hy);rw [hnd y hy,c4,fB (by rw [hoy.1,hoy.2];exact hupn y hy) (by omega),aw (by rw [hoy.2];exact hn1)] at hyt;have hyt:(S.nd y).term+1=(S.nd y).term:=hyt;omega
   ·left;have hoy:=(hTk y hy).2;refine mk (h.all y hy (by rw [hyt,hMy]) (by omega) λd d1 d2=>?_);refine ⟨bf (nx (S.nd y)) 5 d,(t3 _).2 (.inr ⟨y,hupn y hy,hy,?_⟩),rfl,hMy.symm⟩;rw [c4];exact eJ _ _ d (by show d<(S.nd y).n;rw [hoy.2];exact d1) (by show d≠(S.nd y).own;rw [hoy.1];exact d2)
   ·-- it said nothing
    by_cases hex:∃w,S.up w=true/\((S.ticks z e n).nd w).term=(S.nd w).term+1/\((S.ticks z e n).nd w).term=M
    ·grind
    ·right;have hyk:((S.ticks z e n).nd y).ticks=(S.nd y).ticks+1:=by rw [hnd y hy,c4]
     have hkA:∀x∈(S.ticks z e n).q,(x.kind=1/\x.N.getD 0 0<M)\/x.kind=5:=λx hxq=>by
      rcases (t3 x).1 hxq with g | ⟨c,d1,d2,d3⟩
      ·rw [hv.1] at g;cases g
      ·obtain ⟨_,o2,_,_,o⟩:=(hTk c d2).1.out x d3;have hc:=hub0 c d2;rcases o with o | o | o
       ·grind
       ·exfalso;have hlc:=o.2;rcases dS (z:=z) (e:=e) (S.nd c) with ⟨g1,g2⟩ | ⟨g1,g2,g3,g4⟩ | ⟨g1,g2,g3,g4⟩ | ⟨g1,g2,g3,g4⟩
        ·rw [hv.2 c d2] at g1;cases g1
        ·have hoc:=(hTk c d2).2;obtain ⟨G,hG⟩:=hw;have htb:=hG.tb c d1;rw [g4,fB (by rw [hoc.1,hoc.2];exact d1) (by omega),aw (by rw [hoc.2];exact hn1)] at hlc;have hlc:((S.nd c).leads&&_)=true:=hlc;rw [g1] at hlc;cases hlc
        ·grind
        ·grind
       ·exact .inr o.1
     have hMq:∀m∈(S.ticks z e n).q,m.N.getD 0 0<=M:=λm hm=>by
      rcases (t3 m).1 hm with g | ⟨c,d1,d2,d3⟩
      ·rw [hv.1] at g;cases g
      ·obtain ⟨_,o2,_⟩:=(hTk c d2).1.out m d3;rw [o2,<-hnd c d2];exact hub0 c d2
     have ubA:UB M (S.ticks z e n).noq:=⟨λi hi=>hub0 i (by rw [<-t2];exact hi),λm hm=>by cases hm⟩
     have p0:Ph z n (b+1) M (S.ticks z e n).q (S.ticks z e n).noq (S.ticks z e n).noq:=Ph.start hwA.wkm ubA;have hyAt:((S.ticks z e n).noq.nd y).term=M:=by show ((S.ticks z e n).nd y).term=M;rw [hyt,hMy]
     have J1:=eP (z:=z) (e:=e) (ms:=(S.ticks z e n).q) (S:=(S.ticks z e n).noq) (Inv:=λS'=>Ph z n (b+1) M (S.ticks z e n).q (S.ticks z e n).noq S'/\(S'.nd y).ticks=(S.nd y).ticks+1/\∀x∈S'.q,x.kind=2) (λS' m hI hm=>by
      obtain ⟨a1,a2,a3⟩:=hI;obtain ⟨g1,i,g2,g3,g4,g5,g6⟩:=a1.take (e:=e) hb hm (hMq m hm);refine ⟨g1,?_⟩;cases hu:S'.up i with
      | false=>rw [g6 hu];exact ⟨a2,a3⟩
      | true =>
       rw [g5 hu];refine ⟨?_,λx hx=>?_⟩
       ·rw [bi];split
        ·rename_i e1;subst e1;have hty:M<=(S'.nd y).term:=by have:=a1.term y;omega
         rcases hkA m hm with g | g
         ·grind [uN]
         ·grind [lZ]
        ·exact a2
       ·rw [dR] at hx;rcases av.1 hx with hx | hx
        ·exact a3 x hx
        ·obtain ⟨_,_,_,o,_⟩:=g4.out x hx;rcases hkA m hm with g | g<;>rcases o with o | o | o | o<;>omega) ⟨p0,hyk,λx hx=>by cases hx⟩
     rw [<-h1] at J1;obtain ⟨P1,J1,K1⟩:=J1;have u1:S1.up=S.up:=h.ra.u1.trans t2;have ub1:UB M S1.noq:=⟨h.ra.b1.nd,λm hm=>by cases hm⟩
     have p1:Ph z n (b+1) M S1.q S1.noq S1.noq:=Ph.start h.ra.w1.wkm ub1;have hM1:=h.ra.b1.q;have J2:=eP (z:=z) (e:=e) (ms:=S1.q) (S:=S1.noq) (Inv:=λS'=>Ph z n (b+1) M S1.q S1.noq S'/\(S'.nd y).ticks=(S.nd y).ticks+1/\∀x∈S'.q,x.N.getD 0 0=M->∃l,S.up l=true/\(S'.nd l).leads=true/\(S'.nd l).term=M) (λS' m hI hm=>by
      obtain ⟨a1,a2,a3⟩:=hI;obtain ⟨g1,i,g2,g3,g4,g5,g6⟩:=a1.take (e:=e) hb hm (hM1 m hm);refine ⟨g1,?_⟩;have keep:∀l,S.up l=true->(S'.nd l).leads=true/\(S'.nd l).term=M->((S'.bring z e m).nd l).leads=true/\((S'.bring z e m).nd l).term=M:=λl l1 l2=>a1.lead hb hm (hM1 m hm) (by show S1.up l=true;rw [u1];exact l1) l2;cases hu:S'.up i with
      | false=>rw [g6 hu];exact ⟨a2,a3⟩
      | true =>
       have hui:S.up i=true:=by rw [<-u1];rw [a1.up] at hu;exact hu
       refine ⟨?_,λx hx hxM=>?_⟩
       ·grind [bi,lZ]
       ·rw [g5 hu,dR] at hx;rcases av.1 hx with hx | hx
        ·grind
        ·obtain ⟨_,o2,_,o,o5⟩:=g4.out x hx;have hk3:x.kind=3:=by have:=K1 m hm;rcases o with o | o | o | o<;>omega
         refine ⟨i,hui,?_⟩;rw [g5 hu,bi,ax rfl];exact ⟨o5 hk3,by rw [<-o2];exact hxM⟩) ⟨p1,J1,λx hx=>by cases hx⟩
     rw [<-h2] at J2;obtain ⟨P2,J2,L2⟩:=J2;have u2:S2.up=S.up:=h.ra.u2.trans t2;have nol:∀l,S.up l=true->(S2.nd l).leads=false:=λl l1=>by
      cases hc:(S2.nd l).leads with
      | false=>rfl
      | true =>
       have:=(h.kp.lead l (by rw [u2];exact l1) hc).1;rw [hnl l l1] at this;cases this
     obtain ⟨k,hk1,hk2⟩:=hd;obtain ⟨q1,q2,q3,q4,_⟩:=P3.end_ (z:=z) (e:=e) (Inv:=λS'=>S'.up=S.up/\(∀l,S.up l=true->(S'.nd l).leads=false)/\M<=(S'.nd y).term/\(S'.nd y).ticks=(S.nd y).ticks+1/\∀x∈S'.q,x.kind=3->x.N.getD 0 0<M) hn hb (λS' m q p hi hq st=>by
      obtain ⟨i1,i2,i3,i4,i5⟩:=hi;obtain ⟨i,c1,c2,c3,c4,c5⟩:=st.cut;have kp:=st.kp;have nl2:∀l,S.up l=true->(((S'.wq q).bring z e m).nd l).leads=false:=λl l1=>by
       grind [kp.back]
      refine ⟨kp.up.trans i1,nl2,cS i3 (kp.term y),?_,λx hx hk3=>?_⟩
      ·cases hu:S'.up i with
       | false=>rw [c5 hu];exact i4
       | true =>
        rw [c4 hu,bi];split
        ·grind [aP,uN,lZ,p.kd]
        ·exact i4
      ·cases hu:S'.up i with
       | false =>
        rw [c5 hu] at hx;exact i5 x (by rw [hq];exact aI _ hx) hk3
       | true =>
        have hb2:=nl2 i (by rw [<-i1];exact hu);rw [c4 hu] at hx hb2;rw [dR] at hx;rcases av.1 hx with hx | hx
        ·exact i5 x (by rw [hq];exact aI _ hx) hk3
        ·obtain ⟨_,_,_,_,o5⟩:=c3.out x hx;rw [bi,ax rfl] at hb2;rw [o5 hk3] at hb2;cases hb2) k S2 h.p2 ⟨u2,nol,by have:=P2.term y;have:=P1.term y;have e1:(S1.noq.nd y).term=(S1.nd y).term:=rfl;omega,J2,λx hx _=>by
       have h3:=h.ra.b2.q x hx;have:x.N.getD 0 0≠M:=λg=>by
        grind
       omega⟩ hk2
     rw [<-hk1] at q4;obtain ⟨_,_,r3,r4,_⟩:=q4;exact ⟨λi hi=>by have:=h.ub i hi;omega,r4,c3⟩
end
end Go.Proofs.Ytnicaicjgaoolaa.X
