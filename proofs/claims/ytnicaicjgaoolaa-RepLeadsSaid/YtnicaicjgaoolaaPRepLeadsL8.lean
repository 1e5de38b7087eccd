/-
  What the proof of the law leans on: contracts of the program's functions, one behind another. No condition.
-/
import Derived.Test.YtnicaicjgaoolaaU0
import Derived.Test.YtnicaicjgaoolaaPRepLeadsL7
set_option linter.unusedVariables false
set_option linter.unusedSimpArgs false
namespace Go.Proofs.Ytnicaicjgaoolaa.X
section
variable {ρ:Type} {z:ρ->Bool} {e:ρ}
variable {n i:Nat} {b b' M T:Int} {S S' S0 S1 S2 S3:Cs ρ} {G:Gh ρ} {m:Ms ρ} {s:Nd ρ} {r:List (Ms ρ)×Nd ρ} {ms q:List (Ms ρ)} {Λ:Nat}
theorem wC (hf:Fit i n m) (hi:s.own=i) (hn:s.n=n) (hk:m.kind=2) (ht:m.N.getD 0 0<=s.term):X.get z e s m=voted z e s m:=by
 unfold X.get;rw [hf.ok hi hn];simp only [cD,if_false];rw [aw (by omega)];unfold getIn;rw [aw (by omega),ax hk]
theorem z4 (l:List Bool) (a b:Nat) (h:a<l.length):(l.set a true).getD b false=if b=a then true else l.getD b false:=by
 grind
structure Wt (n:Nat) (M:Int) (c:Nat) (s:Nd ρ):Prop where
 leads:s.leads=false
 choice:s.choice=(c:Int)
 term:s.term=M
 vl:s.votes.length=n
 own:s.votes.getD c false=true
 no:gL s=false
theorem Wt.vote {c:Nat} (h:Wt n M c s) (hf:Fit c n m) (ho:s.own=c) (hn:s.n=n) (hk:m.kind=2) (ht:m.N.getD 0 0<=M) (hfn:m.frm.toNat<n) :
  ((X.get z e s m).2.leads=true/\(X.get z e s m).2.term=M)\/(Wt n M c (X.get z e s m).2/\(∀v,s.votes.getD v false=true->(X.get z e s m).2.votes.getD v false=true)/\(m.N.getD 0 0=M->m.N.getD 1 0=1->(X.get z e s m).2.votes.getD m.frm.toNat false=true)):=by
 obtain ⟨h1,h2,h3,h4,h5,h6⟩:=h;rw [wC hf ho hn hk (by omega)];unfold voted;split
 ·rename_i hy;right;refine ⟨⟨h1,h2,h3,h4,h5,h6⟩,λv hv=>hv,λa1 a2=>?_⟩;exfalso;simp only [aW,aV,be,ne_eq] at hy;rcases hy with ((g | g) | g) | g
  ·rw [h1] at g;cases g
  ·omega
  ·rw [ho] at g;exact g h2
  ·exact g a2
 ·simp only;split
  ·left;have hl:=eC (z:=z) (e:=e) { s with votes:=s.votes.set m.frm.toNat true };exact ⟨hl.leads,hl.term.trans h3⟩
  ·rename_i hc;right;have key:∀v,(s.votes.set m.frm.toNat true).getD v false=if v=m.frm.toNat then true else s.votes.getD v false:=λv=>z4 _ _ _ (by rw [h4];exact hfn)
   refine ⟨⟨h1,h2,h3,by show (s.votes.set _ _).length=n;rw [cW];exact h4,?_,by simpa using hc⟩,λv hv=>?_,λ_ _=>?_⟩
   ·grind
   ·grind
   ·grind
theorem BE (hw:Wk z n b S) (hn:n<=5) (hn1:n≠1) (hb:b+1<=1099511627776) (hv:Ev T S) (h:Rd z e n b M Λ S S1 S2 S3) (h1:S1=(S.ticks z e n).noq.dl z e (S.ticks z e n).q) (h2:S2=S1.noq.dl z e S1.q)
  {c:Nat} (hc1:S.up c=true) (hc2:dE S c) (hone:∀c',S.up c'=true->dE S c'->c'=c) (hU:∀i,S.up i=true->ix (S.nd c).log (S.nd i).log) (hmaj:Maj n λj=>S.up j):(S3.nd c).leads=true:=by
 obtain ⟨t1,t2,t3⟩:=dm (z:=z) (e:=e) n S;have hupn:∀i,S.up i=true->i<n:=by obtain ⟨G,hG⟩:=hw;exact hG.up
 have hown:∀i,i<n->(S.nd i).own=i/\(S.nd i).n=n:=by obtain ⟨G,hG⟩:=hw;exact λi hi=>⟨(hG.ni i hi).own,(hG.ni i hi).nn⟩
 obtain ⟨hT0,hA,hx,hcq,hstA,hnxA,hM,hMc,hMq,p0,P1,E1,K1,EVH,EVT,EVV⟩:=B3 hw hn hn1 hb hv h h1;have hcn:=hupn c hc1;have hoc:=hown c hcn;have hMT:=hMc c hc1 hc2;have hT:=hT0 c hc1;have V1:(S1.nd c).votes=(dq (S.nd c)).votes:=by
  rw [h1];refine (eP (z:=z) (e:=e) (ms:=(S.ticks z e n).q) (S:=(S.ticks z e n).noq) (Inv:=λS'=>Ph z n (b+1) M (S.ticks z e n).q (S.ticks z e n).noq S'/\(S'.nd c).votes=(dq (S.nd c)).votes) (λS' m hI hm=>?_) ⟨p0,?_⟩).2
  ·obtain ⟨g1,i2,g2,g3,g4,g5,g6⟩:=hI.1.take (e:=e) hb hm (hMq m hm);refine ⟨g1,?_⟩;cases hu:S'.up i2 with
   | false=>rw [g6 hu];exact hI.2
   | true =>
    rw [g5 hu,bi];split
    ·rename_i e1;subst e1;rw [wB (by rcases hx m hm with ⟨_,_,_,_,_,rfl⟩ | ⟨_,_,_,_,_,rfl⟩<;>(intro h;cases h))];exact hI.2
    ·exact hI.2
  ·show ((S.ticks z e n).nd c).votes=_;rw [(hA c hc1).1 hc2]
 have E:=E1 c hc1;obtain ⟨e1,e2,e3⟩:=E.c hc2;have hst:(dq (S.nd c)).votes=(List.replicate n false).set c true:=by show (List.replicate (S.nd c).n false).set (S.nd c).own true=_;rw [hoc.1,hoc.2]
 have w1:=h.ra.w1.wkm;have u1:S1.up=S.up:=h.ra.u1.trans t2;have hnS1:(S1.nd c).n=n:=by obtain ⟨G,hG,_⟩:=w1;exact (hG.ni c hcn).nn
 have start:Wt n M c (S1.nd c):=by
  refine ⟨E.leads,e3,by rw [e1,hMT],by rw [V1,hst];simp,?_,?_⟩
  ·grind
  ·grind [gL,dh,nh]
 have ub1:UB M S1.noq:=⟨h.ra.b1.nd,λm hm=>by cases hm⟩
 have p1:Ph z n (b+1) M S1.q S1.noq S1.noq:=Ph.start w1 ub1;have hM1:=h.ra.b1.q;have step:∀(S':Cs ρ) (m:Ms ρ),(Ph z n (b+1) M S1.q S1.noq S'/\(((S'.nd c).leads=true/\(S'.nd c).term=M)\/Wt n M c (S'.nd c)))->m∈S1.q->(Ph z n (b+1) M S1.q S1.noq (S'.bring z e m)/\((((S'.bring z e m).nd c).leads=true/\((S'.bring z e m).nd c).term=M)\/Wt n M c ((S'.bring z e m).nd c))) /\
   (((S'.bring z e m).nd c).leads=true\/((∀v,(S'.nd c).leads=false->(S'.nd c).votes.getD v false=true->((S'.bring z e m).nd c).votes.getD v false=true)/\(m.dst=(c:Int)->m.N.getD 0 0=M->m.N.getD 1 0=1->((S'.bring z e m).nd c).votes.getD m.frm.toNat false=true))):=λS' m hI hm=>by
  obtain ⟨a1,a2⟩:=hI;obtain ⟨g1,i2,g2,g3,g4,g5,g6⟩:=a1.take (e:=e) hb hm (hM1 m hm);rcases a2 with a2 | a2
  ·have:=a1.lead (e:=e) hb hm (hM1 m hm) (by show S1.up c=true;rw [u1];exact hc1) a2;exact ⟨⟨g1,.inl this⟩,.inl this.1⟩
  ·have hu':S'.up c=true:=by rw [a1.up];show S1.up c=true;rw [u1];exact hc1
   by_cases ei:i2=c
   ·subst ei;have hbr:(S'.bring z e m).nd i2=(X.get z e (S'.nd i2) m).2:=by rw [g5 hu',bi,ax rfl]
    obtain ⟨G,hG,hms⟩:=a1.wk;have hni:=hG.ni i2 g2;by_cases h1t:1<=m.N.getD 0 0
    ·obtain ⟨i5,_,e5,_,hfit⟩:=(hms m hm).2.fit hb h1t;obtain rfl:i5=i2:=by omega
     obtain ⟨f,f1,f2⟩:=zZ (hms m hm).2;rcases a2.vote (z:=z) (e:=e) hfit hni.own hni.nn (K1 m hm) (hM1 m hm) (by omega) with g | ⟨g,g',g''⟩
     ·grind
     ·grind
    ·grind [ly]
   ·have hbr:(S'.bring z e m).nd c=S'.nd c:=by
     cases hu:S'.up i2 with
     | false=>rw [g6 hu]
     | true=>rw [g5 hu,bi,aw (ud ei)]
    rw [hbr];refine ⟨⟨g1,.inr a2⟩,.inr ⟨λv _ hv=>hv,λhd=>?_⟩⟩;omega
 have fin:=eP (z:=z) (e:=e) (ms:=S1.q) (S:=S1.noq) (Inv:=λS'=>Ph z n (b+1) M S1.q S1.noq S'/\(((S'.nd c).leads=true/\(S'.nd c).term=M)\/Wt n M c (S'.nd c))) (λS' m hI hm=>(step S' m hI hm).1) ⟨p1,.inr start⟩;have EVE:∀v,S.up v=true->v≠c->((S1.noq.dl z e S1.q).nd c).leads=true\/((S1.noq.dl z e S1.q).nd c).votes.getD v false=true:=λv hv hvc=>by
  obtain ⟨x,x1,x2,x3,x4,x5,x6⟩:=EVV c v hc1 hc2 hone hv hvc (hU v hv);refine nQ (z:=z) (e:=e) (ms:=S1.q) (m:=x) (Inv:=λS'=>Ph z n (b+1) M S1.q S1.noq S'/\(((S'.nd c).leads=true/\(S'.nd c).term=M)\/Wt n M c (S'.nd c))) (P:=λS'=>(S'.nd c).leads=true\/(S'.nd c).votes.getD v false=true) x1 (λS' m hI hm=>(step S' m hI hm).1) (λS' hI=>?_) (λS' m hI hm hP=>?_) ⟨p1,.inr start⟩
  ·rcases (step S' x hI x1).2 with g | g
   ·exact .inl g
   ·right;have:=g.2 x3 (by rw [x5,hMT]) x6;rw [x4] at this;exact this
  ·rcases (step S' m hI hm).2 with g | g
   ·exact .inl g
   ·cases hl:(S'.nd c).leads with
    | true =>
     obtain ⟨a1,a2⟩:=hI;rcases a2 with a2 | a2
     ·exact .inl (a1.lead (e:=e) hb hm (hM1 m hm) (by show S1.up c=true;rw [u1];exact hc1) a2).1
     ·rw [a2.leads] at hl;cases hl
    | false =>
     right;rcases hP with hP | hP
     ·rw [hl] at hP;cases hP
     ·exact g.1 v hl hP
 rw [<-h2] at fin EVE;obtain ⟨P2,fin⟩:=fin;have u2:S2.up=S.up:=h.ra.u2.trans t2;have hlead:(S2.nd c).leads=true:=by
  rcases fin with fin | fin
  ·exact fin.1
  ·exfalso;have hall:∀v,v<n->S.up v=true->(S2.nd c).votes.getD v false=true:=λv _ hv=>by
    grind [fin.own,fin.leads]
   have hm2:=hmaj.mono hall;have hno:=fin.no;have hn2:(S2.nd c).n=n:=by obtain ⟨G,hG⟩:=h.ra.w2;exact (hG.ni c hcn).nn
   unfold gL dh at hno;rw [hn2] at hno;have hno:=of_decide_eq_false hno;have ef:=iU (S2.nd c).votes id false;rw [fin.vl] at ef;unfold Maj at hm2;have ef2:((List.range n).filter λj=>id ((S2.nd c).votes.getD j false)).length=((List.range n).filter λj=>(S2.nd c).votes.getD j false).length:=rfl;omega
 exact (h.kp.lead c (by rw [u2];exact hc1) hlead).1
end
section
variable {ρ:Type} (z:ρ->Bool) (e:ρ)
def Cs.rnd (n F:Nat) (S:Cs ρ):Cs ρ:=Cs.drain z e F (S.ticks z e n)
def Cs.rnds (n F:Nat):Nat->Cs ρ->Cs ρ
 | 0,S=>S
 | k+1,S=>Cs.rnd z e n F (Cs.rnds n F k S)
structure Ok (n:Nat) (b:Int) (Λ:Nat) (S:Cs ρ):Prop where
 wk:Wk z n b S
 q:S.q=[]
 up:∃i,i<n/\S.up i=true
 log:∀i,S.up i=true->(S.nd i).log.length<=Λ
variable {z e}
variable {n i F:Nat} {b b' M T:Int} {S S' S0 S1 S2 S3:Cs ρ} {G:Gh ρ} {m:Ms ρ} {s:Nd ρ} {r:List (Ms ρ)×Nd ρ} {ms q:List (Ms ρ)} {Λ:Nat}
theorem Ok.rnd (h:Ok z n b Λ S) (hn:n<=5) (hb:b+1<=1099511627776) (hF:200+22*(Λ+1)<=F):∃M,Rd z e n b M Λ S ((S.ticks z e n).noq.dl z e (S.ticks z e n).q) (((S.ticks z e n).noq.dl z e (S.ticks z e n).q).noq.dl z e ((S.ticks z e n).noq.dl z e (S.ticks z e n).q).q) (S.rnd z e n F)/\Ok z n (b+1) (Λ+1) (S.rnd z e n F):=by
 obtain ⟨M,hM⟩:=yK (e:=e) h.wk hn hb h.q h.up h.log F hF;exact ⟨M,hM,hM.wk,hM.q,by rw [show (S.rnd z e n F).up=S.up from hM.up];exact h.up,λi hi=>hM.log i (by rw [<-hM.up];exact hi)⟩
theorem Ok.rnds (h:Ok z n b Λ S) (hn:n<=5):∀k:Nat,b+k<=1099511627776->200+22*(Λ+k)<=F->Ok z n (b+k) (Λ+k) (S.rnds z e n F k)/\(S.rnds z e n F k).up=S.up:=by
 intro k;induction k with
 | zero=>intro _ _;rw [show b+((0:Nat):Int)=b by omega];exact ⟨h,rfl⟩
 | succ k ih =>
  intro hb hF;obtain ⟨h1,h2⟩:=ih (by omega) (by omega);obtain ⟨M,hM,h3⟩:=h1.rnd (e:=e) (F:=F) hn (by omega) (by omega);rw [show b+((k+1:Nat):Int)=b+(k:Int)+1 by omega];exact ⟨h3,hM.up.trans h2⟩
theorem oC {a b c:Lg ρ} (h1:ix a b) (h2:ix b c):ix a c:=by
 grind [ix]
theorem vg (a b:Lg ρ):ix a b\/ix b a:=by
 grind [ix,bD]
theorem Al (S:Cs ρ):∀k,(∃i,i<k/\S.up i=true)->∃l,l<k/\S.up l=true/\∀i,i<k->S.up i=true->ix (S.nd l).log (S.nd i).log/\(ix (S.nd i).log (S.nd l).log->l<=i):=by
 intro k;induction k with
 | zero=>rintro ⟨i,h,_⟩;omega
 | succ k ih =>
  rintro ⟨i,h1,h2⟩;by_cases hex:∃i,i<k/\S.up i=true
  ·obtain ⟨y,y1,y2,y3⟩:=ih hex;by_cases hk:S.up k=true/\¬ix (S.nd y).log (S.nd k).log
   ·have hky:ix (S.nd k).log (S.nd y).log:=by
     grind [vg]
    refine ⟨k,by omega,hk.1,λj j1 j2=>?_⟩;by_cases e1:j=k
    ·subst e1;exact ⟨kV _,λ_=>ah _⟩
    ·grind [oC]
   ·grind
  ·have:i=k:=by
    grind
   subst this;refine ⟨i,by omega,h2,λj j1 j2=>?_⟩;by_cases e1:j=i
   ·subst e1;exact ⟨kV _,λ_=>ah _⟩
   ·exact absurd ⟨j,by omega,j2⟩ hex
def Hv (c:Int) (S:Cs ρ):Prop:=∀i,S.up i=true->∀j,((S.nd i).heard.getD j (0,0,0)).1≠0->((S.nd i).clock:Int) - ((S.nd i).heard.getD j (0,0,0)).1<=c->S.up j=true/\((S.nd i).heard.getD j (0,0,0)).2=(((S.nd j).log.length:Int),bD (S.nd j).log (S.nd j).log.length)
theorem Hv.next {c:Int} (h:Hv c S) (hr:EvR T M S S3):Hv (c+1) S3:=λi hi j h1 h2=>by
 rw [hr.up] at hi;rw [hr.clock i hi] at h2;rcases hr.heard i hi j with g | ⟨g1,g2⟩
 ·rw [g] at h1 h2 ⊢;obtain ⟨a1,a2⟩:=h i hi j h1 (by omega);rw [hr.up,hr.log j a1];exact ⟨a1,a2⟩
 ·rw [g2,hr.up,hr.log j g1];exact ⟨g1,rfl⟩
theorem BM (h:Hv 3 S) {l:Nat} (hl:S.up l=true) (ho:(S.nd l).own=l) (hU:∀i,S.up i=true->ix (S.nd l).log (S.nd i).log/\(ix (S.nd i).log (S.nd l).log->l<=i)):kN { S.nd l with clock:=(S.nd l).clock+1,ticks:=(S.nd l).ticks+1 }=true:=by
 unfold kN;rw [fx];intro j _;show (!better { S.nd l with clock:=(S.nd l).clock+1,ticks:=(S.nd l).ticks+1 } j ((S.nd l).heard.getD j (0,0,0)))=true;rw [aV];have hv:=h l hl j;generalize (S.nd l).heard.getD j (0,0,0)=x at *;unfold better;show (!(x.1==0||decide (4<(((S.nd l).clock+1:Nat):Int) - x.1))&&(decide (bD (S.nd l).log (S.nd l).log.length<x.2.2)||(x.2.2==bD (S.nd l).log (S.nd l).log.length&&(decide (((S.nd l).log.length:Int)<x.2.1)||(x.2.1==((S.nd l).log.length:Int)&&decide (j<(S.nd l).own))))))=false;by_cases h0:x.1=0
 ·simp [h0]
 ·grind [Bool.and_eq_false_iff,dZ,ix,bD]
theorem y9 {l k:Nat} (hk:S.up k=true) (ho:(S.nd k).own=k) (hlk:l≠k) (hlen:l<(S.nd k).heard.length) (hh:(S.nd k).heard.getD l (0,0,0)=jx (S.nd l) ((S.nd k).clock:Int)) (hc:1<=(S.nd k).clock) (hU:ix (S.nd l).log (S.nd k).log/\(ix (S.nd k).log (S.nd l).log->l<=k)):kN { S.nd k with clock:=(S.nd k).clock+1,ticks:=(S.nd k).ticks+1 }=false:=by
 unfold kN;rw [List.all_eq_false];refine ⟨l,cX.2 hlen,?_⟩;show ¬(!better { S.nd k with clock:=(S.nd k).clock+1,ticks:=(S.nd k).ticks+1 } l ((S.nd k).heard.getD l (0,0,0)))=true;rw [hh];unfold better jx;simp only [Bool.not_not,i7,gS];simp only [bk,aV,dZ,aW,aR,cH,be,ne_eq,ke,dB];rw [ho];refine ⟨⟨by omega,by omega⟩,?_⟩;unfold ix at hU;rcases hU.1 with g | ⟨g,g'⟩
 ·exact .inl g
 ·omega
theorem Df (h:Ok z 1 b Λ S) (hb:b+26<=1099511627776) (hF:200+22*(Λ+26)<=F) (hno:∀k,1<=k->k<=26->∀i,S.up i=true->((S.rnds z e 1 F k).nd i).leads=false):False:=by
 have hu0:S.up 0=true:=by
  grind [h.up]
 have hk:∀k:Nat,k<=25->Ok z 1 (b+k) (Λ+k) (S.rnds z e 1 F k)/\(S.rnds z e 1 F k).up=S.up:=λk hk=>h.rnds (by omega) k (by omega) (by omega);have one:∀k,1<=k->k<=20->¬dE (S.rnds z e 1 F k) 0/\((S.rnds z e 1 F (k+1)).nd 0)=nx ((S.rnds z e 1 F k).nd 0):=λk k1 k2=>by
  obtain ⟨a1,a2⟩:=hk k (by omega);have hl:=hno k k1 (by omega) 0 hu0;have hl2:=hno (k+1) (by omega) (by omega) 0 hu0;obtain ⟨M,hM,_⟩:=a1.rnd (e:=e) (F:=F) (by omega) (by omega) (by omega);generalize hW:S.rnds z e 1 F k=Wn at *;have e0:S.rnds z e 1 F (k+1)=Wn.rnd z e 1 F:=by show Cs.rnd z e 1 F (S.rnds z e 1 F k)=_;rw [hW]
  rw [e0] at hl2 ⊢;obtain ⟨t1,t2,t3⟩:=dm (z:=z) (e:=e) 1 Wn;have hWu:Wn.up 0=true:=by rw [a2];exact hu0
  obtain ⟨tk,ho,hnn⟩:=a1.wk.tk (e:=e) (by omega) 0 (by omega);have hq:(Wn.ticks z e 1).q=[]:=by
   rw [cO];intro x hx;rcases (t3 x).1 hx with g | ⟨i,i1,i2,i3⟩
   ·rw [a1.q] at g;cases g
   ·grind [tk.num]
  have e1:Wn.rnd z e 1 F=Wn.ticks z e 1:=eG F hq;rw [e1] at hl2 ⊢;have e2:(Wn.ticks z e 1).nd 0=(X.tick z e (Wn.nd 0)).2:=by rw [t1,ax ⟨by omega,hWu⟩]
  rw [e2] at hl2 ⊢;have htb:(Wn.nd 0).term<=b+k:=by obtain ⟨G,hG⟩:=a1.wk;exact hG.tb 0 (by omega)
  rcases dS (z:=z) (e:=e) (Wn.nd 0) with ⟨c1,c2⟩ | ⟨c1,c2,c3,c4⟩ | ⟨c1,c2,c3,c4⟩ | ⟨c1,c2,c3,c4⟩
  ·rw [hl] at c1;cases c1
  ·exfalso;rw [c4,fB (by rw [ho,hnn];omega) (by omega),ax hnn,(eC (z:=z) (e:=e) (dq (Wn.nd 0))).leads] at hl2;cases hl2
  ·rw [c4];exact ⟨c2,rfl⟩
  ·rw [c4];exact ⟨c2,rfl⟩
 have grow:∀k,k<=10->k<=((S.rnds z e 1 F (1+k)).nd 0).ticks/\((S.rnds z e 1 F (1+k)).nd 0).clock=((S.rnds z e 1 F 1).nd 0).clock+k/\((S.rnds z e 1 F (1+k)).nd 0).heard=((S.rnds z e 1 F 1).nd 0).heard:=by
  intro k;induction k with
  | zero=>intro _;exact ⟨aA _,rfl,rfl⟩
  | succ k ih =>
   intro hk2;obtain ⟨g1,g2,g3⟩:=ih (by omega);have:=(one (1+k) (by omega) (by omega)).2;rw [show 1+(k+1)=1+k+1 by omega,this];refine ⟨by show k+1<=_+1;omega,by show _+1=_;rw [g2];omega,g3⟩
 obtain ⟨g1,g2,g3⟩:=grow 8 (by omega);refine (one 9 (by omega) (by omega)).1 ⟨by show 8<=((S.rnds z e 1 F (1+8)).nd 0).ticks+1;omega,?_⟩;obtain ⟨a1,a2⟩:=hk 1 (by omega);have hha:∀j,0<=(((S.rnds z e 1 F 1).nd 0).heard.getD j (0,0,0)).1/\(((S.rnds z e 1 F 1).nd 0).heard.getD j (0,0,0)).1<=(((S.rnds z e 1 F 1).nd 0).clock:Int):=by
  obtain ⟨G,hG⟩:=a1.wk;exact (hG.ln 0 (by omega)).ha
 unfold kN;rw [fx];intro j _;have e9:S.rnds z e 1 F 9=S.rnds z e 1 F (1+8):=rfl;rw [e9];show (!better { (S.rnds z e 1 F (1+8)).nd 0 with clock:=((S.rnds z e 1 F (1+8)).nd 0).clock+1,ticks:=((S.rnds z e 1 F (1+8)).nd 0).ticks+1 } j (((S.rnds z e 1 F (1+8)).nd 0).heard.getD j (0,0,0)))=true;rw [aV];unfold better;rw [Bool.and_eq_false_iff];left;rw [gS,aW];right;rw [aR,g3];show 4<((((S.rnds z e 1 F (1+8)).nd 0).clock+1:Nat):Int) - _;rw [g2];have:=(hha j).2;omega
end
set_option maxRecDepth 20000
section
variable {ρ:Type} {z:ρ->Bool} {e:ρ}
variable {n i F:Nat} {b b' M T:Int} {S S' S0 S1 S2 S3:Cs ρ} {G:Gh ρ} {m:Ms ρ} {s:Nd ρ} {r:List (Ms ρ)×Nd ρ} {ms q:List (Ms ρ)} {Λ:Nat}
theorem wM (h:Ok z n b Λ S) (hn:n<=5) (hmaj:Maj n λj=>S.up j) (hb:b+30<=1099511627776) (hF:200+22*(Λ+30)<=F):∃k,1<=k/\k<=26/\∃M l,Lead M (S.rnds z e n F k) l:=by
 apply bz;intro hcon;have hk:∀k:Nat,k<=29->Ok z n (b+k) (Λ+k) (S.rnds z e n F k)/\(S.rnds z e n F k).up=S.up:=λk hk=>h.rnds (by omega) k (by omega) (by omega);have hrd:∀k:Nat,k<=27->∃M,Rd z e n (b+k) M (Λ+k) (S.rnds z e n F k) (((S.rnds z e n F k).ticks z e n).noq.dl z e ((S.rnds z e n F k).ticks z e n).q) ((((S.rnds z e n F k).ticks z e n).noq.dl z e ((S.rnds z e n F k).ticks z e n).q).noq.dl z e (((S.rnds z e n F k).ticks z e n).noq.dl z e ((S.rnds z e n F k).ticks z e n).q).q) (S.rnds z e n F (k+1)):=λk hk2=>by
  obtain ⟨M,hM,_⟩:=(hk k (by omega)).1.rnd (e:=e) (F:=F) hn (by omega) (by omega);exact ⟨M,hM⟩
 have hno:∀k,1<=k->k<=26->∀i,S.up i=true->((S.rnds z e n F k).nd i).leads=false:=λk k1 k2 i hi=>by
  cases hl:((S.rnds z e n F k).nd i).leads with
  | false=>rfl
  | true =>
   exfalso;obtain ⟨k',rfl⟩:∃k',k=k'+1:=⟨k - 1,by omega⟩
   obtain ⟨M,hM⟩:=hrd k' (by omega);exact hcon ⟨k'+1,k1,k2,M,i,hM.lead i (by rw [(hk k' (by omega)).2];exact hi) hl⟩
 by_cases hn1:n=1
 ·subst hn1;exact Df h (by omega) (by omega) hno
 have hev:∃T,Ev T (S.rnds z e n F 5):=by
  obtain ⟨y,y1,y2,y3⟩:=lX (S.rnds z e n F 1) n (by rw [(hk 1 (by omega)).2];exact h.up);have key:∀k,k<=4->(∃T,Ev T (S.rnds z e n F (1+k)))\/((∀i,S.up i=true->((S.rnds z e n F (1+k)).nd i).term<=((S.rnds z e n F (1+k)).nd y).term)/\k<=((S.rnds z e n F (1+k)).nd y).ticks/\k<=3):=by
   intro k;induction k with
   | zero =>
    intro _;refine .inr ⟨λi hi=>?_,aA _,by omega⟩;have hu:=(hk 1 (by omega)).2;have hin:i<n:=by obtain ⟨G,hG⟩:=h.wk;exact hG.up i hi
    exact y3 i hin (by rw [hu];exact hi)
   | succ k ih =>
    intro hk4;obtain ⟨M,hM⟩:=hrd (1+k) (by omega);have hu:=(hk (1+k) (by omega)).2;have hq:=(hk (1+k) (by omega)).1.q;have hyS:S.up y=true:=by rw [<-(hk 1 (by omega)).2];exact y2
    have hnl:∀i,(S.rnds z e n F (1+k)).up i=true->((S.rnds z e n F (1+k+1)).nd i).leads=false:=λi hi=>hno _ (by omega) (by omega) i (by rw [<-hu];exact hi);rcases ih (by omega) with ⟨T,hT⟩ | ⟨g1,g2,g3⟩
    ·exact .inl ⟨M,(lz (hk (1+k) (by omega)).1.wk hn hn1 (by omega) hT hM rfl rfl hnl).ev⟩
    ·rcases ym (hk (1+k) (by omega)).1.wk hn hn1 (by omega) ⟨hq,λi hi=>hno _ (by omega) (by omega) i (by rw [<-hu];exact hi)⟩ hM rfl rfl hM.dr hnl (by rw [hu];exact hyS) (λi hi=>g1 i (by rw [<-hu];exact hi)) with g | ⟨q1,q2,q3⟩
     ·exact .inl g
     ·by_cases h3:k+1<=3
      ·refine .inr ⟨λi hi=>q1 i (by rw [hu];exact hi),?_,h3⟩;show k+1<=_;have e1:((S.rnds z e n F (1+(k+1))).nd y).ticks=((S.rnds z e n F (1+k+1)).nd y).ticks:=rfl;omega
      ·exfalso;omega
  rcases key 4 (by omega) with g | g
  ·exact g
  ·exfalso;omega
 have hE:∀k,k<=21->∃T,Ev T (S.rnds z e n F (5+k)):=by
  intro k;induction k with
  | zero=>intro _;exact hev
  | succ k ih =>
   intro hk2;obtain ⟨T,hT⟩:=ih (by omega);obtain ⟨M,hM⟩:=hrd (5+k) (by omega);have hu:=(hk (5+k) (by omega)).2;exact ⟨M,(lz (hk (5+k) (by omega)).1.wk hn hn1 (by omega) hT hM rfl rfl (λi hi=>hno _ (by omega) (by omega) i (by rw [<-hu];exact hi))).ev⟩
 have hR:∀k T,k<=20->Ev T (S.rnds z e n F (5+k))->∃M,EvR T M (S.rnds z e n F (5+k)) (S.rnds z e n F (5+k+1)):=λk T hk2 hT=>by
  obtain ⟨M,hM⟩:=hrd (5+k) (by omega);have hu:=(hk (5+k) (by omega)).2;exact ⟨M,lz (hk (5+k) (by omega)).1.wk hn hn1 (by omega) hT hM rfl rfl (λi hi=>hno _ (by omega) (by omega) i (by rw [<-hu];exact hi))⟩
 have hupn:∀i,S.up i=true->i<n:=by obtain ⟨G,hG⟩:=h.wk;exact hG.up
 have hlog:∀k,k<=20->∀i,S.up i=true->((S.rnds z e n F (5+k)).nd i).log=((S.rnds z e n F 5).nd i).log:=by
  intro k;induction k with
  | zero=>intro _ i _;rfl
  | succ k ih =>
   intro hk2 i hi;obtain ⟨T,hT⟩:=hE k (by omega);obtain ⟨M,hM⟩:=hR k T (by omega) hT;exact (hM.log i (by rw [(hk (5+k) (by omega)).2];exact hi)).trans (ih (by omega) i hi)
 have hhv:∀k:Nat,k<=20->Hv ((k:Int) - 1) (S.rnds z e n F (5+k)):=by
  intro k;induction k with
  | zero =>
   intro _ i hi j h1 h2;exfalso;rw [(hk 5 (by omega)).2] at hi;obtain ⟨G,hG⟩:=(hk 5 (by omega)).1.wk;have:=((hG.ln i (hupn i hi)).ha j).2;have e1:S.rnds z e n F (5+0)=S.rnds z e n F 5:=rfl;rw [e1] at h2;omega
  | succ k ih =>
   intro hk2;obtain ⟨T,hT⟩:=hE k (by omega);obtain ⟨M,hM⟩:=hR k T (by omega) hT;have:=(ih (by omega)).next hM;rw [show ((k+1:Nat):Int) - 1=(k:Int) - 1+1 by omega];exact this
 have hv3:∀k,4<=k->k<=20->Hv 3 (S.rnds z e n F (5+k)):=λk k1 k2 i hi j h1 h2=>hhv k k2 i hi j h1 (by omega);obtain ⟨l,l1,l2,l3⟩:=Al (S.rnds z e n F 5) n (by rw [(hk 5 (by omega)).2];exact h.up);have hl:S.up l=true:=by rw [<-(hk 5 (by omega)).2];exact l2
 have hU:∀k,k<=20->∀i,S.up i=true->ix ((S.rnds z e n F (5+k)).nd l).log ((S.rnds z e n F (5+k)).nd i).log/\(ix ((S.rnds z e n F (5+k)).nd i).log ((S.rnds z e n F (5+k)).nd l).log->l<=i):=λk hk2 i hi=>by
  rw [hlog k hk2 i hi,hlog k hk2 l hl];exact l3 i (hupn i hi) (by rw [(hk 5 (by omega)).2];exact hi)
 have hup:∀k,k<=20->(S.rnds z e n F (5+k)).up=S.up:=λk hk2=>(hk (5+k) (by omega)).2;have hown:∀k,k<=20->∀i,S.up i=true->((S.rnds z e n F (5+k)).nd i).own=i:=λk hk2 i hi=>by
  obtain ⟨G,hG⟩:=(hk (5+k) (by omega)).1.wk;exact (hG.ni i (hupn i hi)).own
 have hbl:∀k,4<=k->k<=20->kN { (S.rnds z e n F (5+k)).nd l with clock:=((S.rnds z e n F (5+k)).nd l).clock+1,ticks:=((S.rnds z e n F (5+k)).nd l).ticks+1 }=true:=λk k1 k2 =>
  BM (hv3 k k1 k2) (by rw [hup k k2];exact hl) (hown k k2 l hl) (λi hi=>hU k k2 i (by rw [<-hup k k2];exact hi))
 have hsync:∃p T,5<=p/\p<=12/\Ev T (S.rnds z e n F (5+p))/\1<=T/\∀i,S.up i=true->((S.rnds z e n F (5+p)).nd i).ticks=0:=by
  have key:∀k,k<=8->(∃p T,5<=p/\p<=4+k/\Ev T (S.rnds z e n F (5+p))/\1<=T/\∀i,S.up i=true->((S.rnds z e n F (5+p)).nd i).ticks=0)\/(k<=((S.rnds z e n F (5+(4+k))).nd l).ticks/\k<=7):=by
   intro k;induction k with
   | zero=>intro _;exact .inr ⟨aA _,by omega⟩
   | succ k ih =>
    intro hk8;rcases ih (by omega) with ⟨p,T,g1,g2,g3⟩ | ⟨g1,g2⟩
    ·exact .inl ⟨p,T,g1,by omega,g3⟩
    ·obtain ⟨T,hT⟩:=hE (4+k) (by omega);obtain ⟨M,hM⟩:=hR (4+k) T (by omega) hT;have hu:=hup (4+k) (by omega);have hT0:0<=T:=by
      obtain ⟨G,hG⟩:=(hk (5+(4+k)) (by omega)).1.wk;have:=(hG.ni l (hupn l hl)).t0;rw [(hT.nd l (by rw [hu];exact hl)).1] at this;exact this
     have sync:∀c,S.up c=true->dE (S.rnds z e n F (5+(4+k))) c->ix ((S.rnds z e n F (5+(4+k))).nd c).log ((S.rnds z e n F (5+(4+k))).nd l).log->∃p T,5<=p/\p<=4+(k+1)/\Ev T (S.rnds z e n F (5+p))/\1<=T/\∀i,S.up i=true->((S.rnds z e n F (5+p)).nd i).ticks=0:=λc c1 c2 c3 =>
      ⟨4+(k+1),M,by omega,ah _,hM.ev,by have:=(hM.candT c (by rw [hu];exact c1) c2).1;omega,λi hi=>hM.cand c i (by rw [hu];exact c1) c2 (by rw [hu];exact hi) (oC c3 (hU (4+k) (by omega) i hi).1)⟩
     by_cases hc:dE (S.rnds z e n F (5+(4+k))) l
     ·exact .inl (sync l hl hc (kV _))
     ·rcases hM.ticks l (by rw [hu];exact hl) hc with g | ⟨g,c,c1,c2,c3⟩
      ·right;have hb4:=hbl (4+k) (by omega) (by omega);have hlt:((S.rnds z e n F (5+(4+k))).nd l).ticks+1<8:=by
        apply bz;intro hge;exact hc ⟨by omega,hb4⟩
       refine ⟨?_,by omega⟩;show k+1<=((S.rnds z e n F (5+(4+k)+1)).nd l).ticks;omega
      ·exact .inl (sync c (by rw [<-hu];exact c1) c2 c3)
  rcases key 8 (by omega) with ⟨p,T,g1,g2,g3⟩ | g
  ·exact ⟨p,T,g1,by omega,g3⟩
  ·exfalso;omega
 obtain ⟨p,T0,p1,p2,p3,p4,p5⟩:=hsync;have hgo:∀k,k<=7->(∃T,Ev T (S.rnds z e n F (5+(p+k)))/\1<=T)/\(∀i,S.up i=true->((S.rnds z e n F (5+(p+k))).nd i).ticks=k)/\(k=7->∀i j,S.up i=true->S.up j=true->i≠j->((S.rnds z e n F (5+(p+k))).nd i).heard.getD j (0,0,0)=jx ((S.rnds z e n F (5+(p+k))).nd j) (((S.rnds z e n F (5+(p+k))).nd i).clock:Int)):=by
  intro k;induction k with
  | zero=>intro _;exact ⟨⟨T0,p3,p4⟩,p5,λh=>by omega⟩
  | succ k ih =>
   intro hk7;obtain ⟨⟨T,hT,hT1⟩,g2,_⟩:=ih (by omega);obtain ⟨M,hM⟩:=hR (p+k) T (by omega) hT;have hu:=hup (p+k) (by omega);have hnc:∀i,S.up i=true->¬dE (S.rnds z e n F (5+(p+k))) i:=λi hi hc=>by
    have h8:8<=((S.rnds z e n F (5+(p+k))).nd i).ticks+1:=hc.1;rw [g2 i hi] at h8;omega
   refine ⟨⟨M,hM.ev,by rcases hM.M with g | g<;>omega⟩,λi hi=>?_,λhk6 i j hi hj hij=>?_⟩
   ·rcases hM.ticks i (by rw [hu];exact hi) (hnc i hi) with g | ⟨_,c,c1,c2,_⟩
    ·show ((S.rnds z e n F (5+(p+k)+1)).nd i).ticks=k+1;rw [g,g2 i hi]
    ·exact absurd c2 (hnc c (by rw [<-hu];exact c1))
   ·have ht:=hM.told hT1 i j (by rw [hu];exact hi) (by rw [hu];exact hj) hij (hnc j hj) (by rw [g2 j hj];omega);have hcl:=hM.clock i (by rw [hu];exact hi);have hlg:=hM.log j (by rw [hu];exact hj);show ((S.rnds z e n F (5+(p+k)+1)).nd i).heard.getD j (0,0,0)=jx ((S.rnds z e n F (5+(p+k)+1)).nd j) (((S.rnds z e n F (5+(p+k)+1)).nd i).clock:Int);rw [ht,hcl];unfold jx;rw [hlg]
 obtain ⟨⟨T,hT,hT1⟩,g2,g3⟩:=hgo 7 (by omega);have hu:=hup (p+7) (by omega);obtain ⟨M,hM⟩:=hrd (5+(p+7)) (by omega);have hcl:dE (S.rnds z e n F (5+(p+7))) l:=⟨by rw [g2 l hl];omega,hbl (p+7) (by omega) (by omega)⟩
 have hone:∀c,(S.rnds z e n F (5+(p+7))).up c=true->dE (S.rnds z e n F (5+(p+7))) c->c=l:=λc hc1 hc2=>by
  rw [hu] at hc1;apply bz;intro hne;obtain ⟨G,hG⟩:=(hk (5+(p+7)) (by omega)).1.wk;have hln:=hG.ln c (hupn c hc1);have hnn:=(hG.ni c (hupn c hc1)).nn;have hclk:1<=((S.rnds z e n F (5+(p+7))).nd c).clock:=by
   obtain ⟨T',hT'⟩:=hE (p+6) (by omega);obtain ⟨M',hM'⟩:=hR (p+6) T' (by omega) hT';have:=hM'.clock c (by rw [hup (p+6) (by omega)];exact hc1);show 1<=((S.rnds z e n F (5+(p+6)+1)).nd c).clock;omega
  have:=y9 (S:=S.rnds z e n F (5+(p+7))) (l:=l) (k:=c) (by rw [hu];exact hc1) (hown (p+7) (by omega) c hc1) (ud hne) (by rw [hln.hl,hnn];exact hupn l hl) (g3 rfl c l hc1 hl hne) hclk (hU (p+7) (by omega) c hc1);have hb2:kN { (S.rnds z e n F (5+(p+7))).nd c with clock:=((S.rnds z e n F (5+(p+7))).nd c).clock+1,ticks:=((S.rnds z e n F (5+(p+7))).nd c).ticks+1 }=true:=hc2.2;rw [this] at hb2;cases hb2
 have hfin:=BE (hk (5+(p+7)) (by omega)).1.wk hn hn1 (by omega) hT hM rfl rfl (c:=l) (by rw [hu];exact hl) hcl hone (λi hi=>(hU (p+7) (by omega) i (by rw [<-hu];exact hi)).1) (by rw [hu];exact hmaj);have:=hno (5+(p+7)+1) (by omega) (by omega) l hl;rw [hfin] at this;cases this
end
section
variable {ρ:Type} {z:ρ->Bool} {e:ρ}
variable {n i F:Nat} {b b' M T:Int} {S S' S0 S1 S2 S3:Cs ρ} {G:Gh ρ} {m:Ms ρ} {s:Nd ρ} {r:List (Ms ρ)×Nd ρ} {ms q:List (Ms ρ)} {Λ:Nat}
structure Rep (s:Nd ρ) (m x:Ms ρ):Prop where
 kind:x.kind=4
 dst:x.dst=m.frm
 frm:x.frm=(s.own:Int)
 term:x.N.getD 0 0=m.N.getD 0 0
 what:(x.N.getD 1 0=1/\x.N.getD 2 0=m.N.getD 1 0+(m.B.length:Int))\/(x.N.getD 1 0=0/\1<=m.N.getD 1 0/\x.N.getD 2 0<m.N.getD 1 0)
theorem pa (hg:GI n G) (h:NI z n G i s) (hf:Fit i n m) (hm:MI n G m) (hk:m.kind=3) (ht:s.term<=m.N.getD 0 0) (hl:s.leads=false\/s.term<m.N.getD 0 0) :
  ∃x,(X.get z e s m).1=[x]/\Rep s m x/\(x.N.getD 1 0=1->s.agreed<=(X.get z e s m).2.agreed/\(0<=m.N.getD 3 0->min (m.N.getD 3 0) (m.N.getD 1 0+(m.B.length:Int))<=((X.get z e s m).2.agreed:Int))):=by
 obtain ⟨f,hfn,hfe,_,_,h3,_⟩:=hm.f;obtain ⟨e1,p,a,e2,e3,e4,e5,e6,e7,e8⟩:=h3 hk;have key:∀s1:Nd ρ,NI z n G i s1->s1.term=m.N.getD 0 0->s1.leads=false->s1.own=s.own->s1.agreed=s.agreed->∃x,(getIn z e s1 m).1=[x]/\Rep s m x/\(x.N.getD 1 0=1->s.agreed<=(getIn z e s1 m).2.agreed/\(0<=m.N.getD 3 0->min (m.N.getD 3 0) (m.N.getD 1 0+(m.B.length:Int))<=((getIn z e s1 m).2.agreed:Int))):=λs1 h1 h2 h4 h5 h6=>by
  rw [<-h2] at e1 e3 e5 e7 e8;unfold getIn;rw [aw (by omega),aw (by omega),ax hk];unfold lays;rw [aw (by
   simp only [aW,aV,be,ne_eq,aR,bk,cH,h4];rintro ((h1 | h1) | ⟨_,h1⟩)
   ·exact h1 e6
   ·omega
   ·cases h1),aw (by omega)]
  simp only;split
  ·rename_i hfit;unfold ox at hfit;simp only [bk,aR,cH] at hfit;rw [e2] at hfit ⊢;obtain ⟨f1,f2⟩:=hfit;have f1:p<=s1.log.length:=by have f1:(p:Int)<=(s1.log.length:Int):=f1;omega
   have f2:bD s1.log p=bD (G.L s1.term) p:=by rw [<-e3];exact f2
   have hpp:=h1.ok.same (hg.ok s1.term) f1 (by omega) f2;have hal:s1.log.take s1.agreed=(G.L s1.term).take s1.agreed:=by
    rcases h1.ag.2 with h2 | ⟨u,k,k1,k2,k3,k4⟩
    ·rw [h2];simp
    ·rw [k4];exact (gt (hg.later k1 k2 (by rw [e1];simp)) k3).symm
   have htop:∀k,k<(G.L s1.term).length->bD (G.L s1.term) (k+1)<=s1.term:=λk hk=>by
    rcases hg.top s1.term with h2 | h2
    ·exact cS ((hg.ok s1.term).up _ _ (by omega) (ah _)) h2
    ·rw [h2] at hk;simp at hk
   have hpn:((p:Int)).toNat=p:=by omega
   rw [hpn,e7];obtain ⟨c,lg,c1,c2⟩:=uH (hg.ok s1.term) htop p m.B.length 0 { s1 with ticks:=0 } rfl h1.ok hpp f1 h1.ag.1 hal e5;rw [eK] at c1;rw [c1];simp only [if_true];refine ⟨_,rfl,⟨rfl,rfl,?_,?_,.inl ⟨rfl,?_⟩⟩,λ_=>?_⟩
   ·show (((X.agree z { s1 with ticks:=0,log:=lg,cnt:=c } _).own:Nat):Int)=_;rw [(gF (z:=z) _ _).1];show ((s1.own:Nat):Int)=_;rw [h5]
   ·show (X.agree z { s1 with ticks:=0,log:=lg,cnt:=c } _).term=_;rw [(gF (z:=z) _ _).2.2.2.1];exact h2
   ·show (((p+m.B.length:Nat):Int))=m.N.getD 1 0+(m.B.length:Int)
    rw [e2];omega
   ·have hag:∀k:Nat,s1.agreed<=(X.agree z { s1 with ticks:=0,log:=lg,cnt:=c } k).agreed/\k<=(X.agree z { s1 with ticks:=0,log:=lg,cnt:=c } k).agreed:=λk=>by
     unfold X.agree;split
     ·grind
     ·grind
    have:=hag (min (m.N.getD 3 0) (((p+m.B.length:Nat):Int))).toNat;refine ⟨by rw [<-h6];exact this.1,λh0=>?_⟩;have h9:=this.2;show _<=(((X.agree z { s1 with ticks:=0,log:=lg,cnt:=c } (min (m.N.getD 3 0) (((p+m.B.length:Nat):Int))).toNat).agreed:Nat):Int);omega
  ·rename_i hfit;refine ⟨_,rfl,⟨rfl,rfl,?_,h2,.inr ⟨rfl,?_,?_⟩⟩,λh9=>?_⟩
   ·show ((s1.own:Nat):Int)=_;rw [h5]
   ·apply bz;intro hn;apply hfit;have hp0:p=0:=by omega
    unfold ox;simp only [bk,aR,cH];rw [e2,e3,hp0];exact ⟨by show ((0:Nat):Int)<=(s1.log.length:Int);omega,rfl⟩
   ·show min (s1.log.length:Int) (max (m.N.getD 1 0 - 1) 0)<m.N.getD 1 0;have:1<=m.N.getD 1 0:=by
     apply bz;intro hn;apply hfit;have hp0:p=0:=by omega
     unfold ox;simp only [bk,aR,cH];rw [e2,e3,hp0];exact ⟨by show ((0:Nat):Int)<=(s1.log.length:Int);omega,rfl⟩
    omega
   ·have h9:(0:Int)=1:=h9;omega
 unfold X.get;rw [hf.ok h.own h.nn];simp only [cD,if_false];split
 ·rename_i h1;exact key _ (h.enter h1) rfl (fE _ h1) rfl rfl
 ·grind
inductive AnsK (s:Nd ρ) (f k:Nat):Bool->List (Ms ρ)×Nd ρ->Prop
 | no:∀ok,(ok=true->k<=s.mat.getD f 0)->(ok=false->s.next.getD f 0<=k)->AnsK s f k ok ([],s)
 | back:∀s1:Nd ρ,k<s.next.getD f 0->s1.log=s.log->s1.own=s.own->s1.mat=s.mat->(∀j,s1.next.getD j 0=if j=f then max k (s.mat.getD f 0) else s.next.getD j 0)->AnsK s f k false ([bI s1 f],s1)
 | on:∀(s1:Nd ρ) (ms:List (Ms ρ)),s.mat.getD f 0<k->k<=s.log.length->s1.log=s.log->s1.own=s.own->s1.n=s.n->(∀j,j≠s.own->s1.mat.getD j 0=if j=f then k else s.mat.getD j 0)->(∀j,s1.next.getD j 0=if j=f then max k (s.next.getD f 0) else s.next.getD j 0) ->
  (ms=cT s1 (bI s1)\/ms=[bI s1 f]\/(ms=[]/\s.log.length<=s1.next.getD f 0))->AnsK s f k true (ms,s1)
theorem oa (hln:LN s) (ho:s.own<s.n) (hl:s.leads=true) (hf:m.frm.toNat<s.n) (hfo:m.frm.toNat≠s.own) (h0:m.N.getD 0 0=s.term) (h3:m.N.length=3) (h2:0<=m.N.getD 2 0) (h5:m.N.getD 2 0<=(s.log.length:Int)) :
  AnsK s m.frm.toNat (m.N.getD 2 0).toNat (m.N.getD 1 0 != 0) (answered z s m):=by
 unfold answered;rw [aw (by
  simp only [aW,aV,be,ne_eq,aR];rintro ((((h | h) | h) | h) | h)
  ·rw [hl] at h;cases h
  ·exact h h0
  ·exact h h3
  ·omega
  ·omega)]
 simp only;split
 ·rename_i hN1;rw [show (m.N.getD 1 0 != 0)=false by rw [hN1];rfl];split
  ·rename_i hk;exact .no _ (λh=>by cases h) (λ_=>hk)
  ·rename_i hk;refine .back _ (by omega) rfl rfl rfl (λj=>?_);show (s.next.set m.frm.toNat _).getD j 0=_;rw [eg _ _ _ _ (by rw [hln.nl];exact hf)]
 ·rename_i hN1;rw [show (m.N.getD 1 0 != 0)=true by simpa using hN1];split
  ·rename_i hk;exact .no _ (λ_=>hk) (λh=>by cases h)
  ·rename_i hk;obtain ⟨g1,g2,g3,g4,g5,g6,g7,g8,g9,g10,g11,g12,g13⟩:=dt (z:=z) (s:={ s with mat:=s.mat.set m.frm.toNat (m.N.getD 2 0).toNat,next:=s.next.set m.frm.toNat (max (m.N.getD 2 0).toNat (s.next.getD m.frm.toNat 0))});have hmat:∀j,j≠s.own->(X.settle z { s with mat:=s.mat.set m.frm.toNat (m.N.getD 2 0).toNat,next:=s.next.set m.frm.toNat (max (m.N.getD 2 0).toNat (s.next.getD m.frm.toNat 0))}).2.mat.getD j 0=if j=m.frm.toNat then (m.N.getD 2 0).toNat else s.mat.getD j 0:=λj hj=>by
    rw [g13];show ((s.mat.set m.frm.toNat _).set s.own _).getD j 0=_;rw [eg _ _ _ _ (by rw [cW,hln.ml];exact ho),aw hj,eg _ _ _ _ (by rw [hln.ml];exact hf)]
   have hnext:∀j,(X.settle z { s with mat:=s.mat.set m.frm.toNat (m.N.getD 2 0).toNat,next:=s.next.set m.frm.toNat (max (m.N.getD 2 0).toNat (s.next.getD m.frm.toNat 0))}).2.next.getD j 0=if j=m.frm.toNat then max (m.N.getD 2 0).toNat (s.next.getD m.frm.toNat 0) else s.next.getD j 0:=λj=>by
    grind [hln.nl]
   split
   ·exact .on _ _ (by omega) (by omega) g8 g1 g2 hmat hnext (.inl rfl)
   ·split
    ·exact .on _ _ (by omega) (by omega) g8 g1 g2 hmat hnext (.inr (.inl rfl))
    ·rename_i hnx;refine .on _ _ (by omega) (by omega) g8 g1 g2 hmat hnext (.inr (.inr ⟨rfl,?_⟩));rw [g8] at hnx;have hnx:¬(X.settle z { s with mat:=s.mat.set m.frm.toNat (m.N.getD 2 0).toNat,next:=s.next.set m.frm.toNat (max (m.N.getD 2 0).toNat (s.next.getD m.frm.toNat 0))}).2.next.getD m.frm.toNat 0<s.log.length:=hnx;omega
end
end Go.Proofs.Ytnicaicjgaoolaa.X
