/-
  What the proof of the law leans on: contracts of the program's functions, one behind another. No condition.
-/
import Derived.Test.YtnicaicjgaoolaaU0
import Derived.Test.YtnicaicjgaoolaaPRepLeadsL10
import Derived.Test.YtnicaicjgaoolaaPRepLeadsL1
import Derived.Test.YtnicaicjgaoolaaU17
import Derived.Test.YtnicaicjgaoolaaU30
set_option linter.unusedVariables false
set_option linter.unusedSimpArgs false
namespace Go.Proofs.Ytnicaicjgaoolaa.X
set_option maxRecDepth 20000
section
variable {ρ:Type} {z:ρ->Bool} {e:ρ}
variable {n i F l len:Nat} {b b' M T B:Int} {S S' S0 S1 S2 S3:Cs ρ} {G:Gh ρ} {m:Ms ρ} {s s':Nd ρ} {r:List (Ms ρ)×Nd ρ} {ms q:List (Ms ρ)} {Λ:Nat} {Lt:Lg ρ}
theorem Wn.more (h:Wn B Lt s) {B':Int} (hB:B<=B'):Wn B' Lt s:=by
 obtain ⟨A,a1,a2,a3,a4⟩:=h;exact ⟨A,a1,a2,a3,by omega⟩
theorem Wn.on (h:Wn B Lt s) (x:Int×ρ):Wn B (Lt++[x]) s:=by
 obtain ⟨A,a1,a2,a3,a4⟩:=h;exact ⟨A,a1,by rw [ay];omega,by rw [cI a2];exact a3,a4⟩
theorem Cv (hn:n<=5) (hb:b+1<=1099511627776) (h:Rd z e n b M Λ S S1 S2 S3) (hl:Lead T S3 l) (j:Nat) (hj:S.up j=true) (hB:pl (S2.nd j)+bN j S2.q<=B):Wn B (S3.nd l).log (S3.nd j):=by
 have u2:S2.up=S.up:=h.ra.u2.trans (dm (z:=z) (e:=e) n S).2.1;have hlu:S2.up l=true:=by rw [<-h.kp.up];exact hl.up
 have h1:=h.kp.back l hl.leads;obtain ⟨k,k1,k2⟩:=h.dr;obtain ⟨g1,g2,g3,_⟩:=h.kp.lead l hlu h1;have hTM:T=M:=by rw [<-hl.term,g3];exact h.p2.ld l hlu h1
 have hjb:=h.p2.ub.nd j (by rw [u2];exact hj);have hbM:=Dd (M:=M) (i:=j) S2.q;have w:=yr (e:=e) (B:=B) h.p2 hn hb hlu h1 k k2 j (by rw [u2];exact hj) (by
  by_cases ht:(S2.nd j).term=M
  ·exact .inr ⟨ht,0,aA _,aA _,by simp,by omega⟩
  ·exact .inl ⟨by omega,by omega⟩)
 rw [<-k1] at w;rw [g2];have hj3:(S3.nd j).term=M:=by
  grind [hl.term,hl.oth,h.up]
 rcases w with ⟨w1,_⟩ | ⟨_,w2⟩
 ·omega
 ·exact w2
theorem Dn (h:Sb z n b M Λ l S) (hn:n<=5) (hb:b+1<=1099511627776) (hmaj:Maj n λj=>S.up j) (hF:100+22*Λ<=F) (j:Nat) (hj:S.up j=true) (hw:Wn B (S.nd l).log (S.nd j)):Wn B ((S.rnd z e n F).nd l).log ((S.rnd z e n F).nd j):=by
 have r:=iG (e:=e) h hn hb hmaj hF;obtain ⟨k,k1,k2⟩:=r.dr;have u:=(dm (z:=z) (e:=e) n S).2.1;obtain ⟨t1,t2,t3,t4,t5⟩:=r.tk j hj;obtain ⟨l1,l2,l3,l4,l5⟩:=r.tk l h.lead.up;have hjM:(S.nd j).term=M:=by
  by_cases e1:j=l
  ·subst e1;exact h.lead.term
  ·exact (h.lead.oth j hj e1).1
 have w:=yr (e:=e) (B:=B) r.p3 hn hb (by rw [u];exact h.lead.up) (by rw [l1];exact h.lead.leads) k k2 j (by rw [u];exact hj) (.inr ⟨by rw [t3];exact hjM,by rw [l2];exact hw.of t2 (DK (mM t4 t3 t5))⟩);rw [<-k1,l2] at w;rw [r.log];have hj3:((S.rnd z e n F).nd j).term=M:=by
  by_cases e1:j=l
  ·subst e1;exact r.sb.lead.term
  ·exact (r.sb.lead.oth j (by rw [r.up];exact hj) e1).1
 rcases w with ⟨w1,_⟩ | ⟨_,w2⟩
 ·omega
 ·exact w2
theorem yG (h:Sb z n b M Λ l S) (hn:n<=5) (hmaj:Maj n λj=>S.up j) (hF:100+22*Λ<=F) (j:Nat) (hj:S.up j=true) (hw:Wn B (S.nd l).log (S.nd j)):∀k:Nat,b+k<=1099511627776->Sb z n (b+k) M Λ l (S.rnds z e n F k)/\(S.rnds z e n F k).up=S.up/\Wn B ((S.rnds z e n F k).nd l).log ((S.rnds z e n F k).nd j):=by
 intro k;induction k with
 | zero=>intro _;exact ⟨by rw [show b+((0:Nat):Int)=b by omega];exact h,rfl,hw⟩
 | succ k ih =>
  intro hb;obtain ⟨a1,a2,a3⟩:=ih (by omega);have r:=iG (e:=e) (F:=F) a1 hn (by omega) (by rw [a2];exact hmaj) hF;refine ⟨by rw [show b+((k+1:Nat):Int)=b+(k:Int)+1 by omega];exact r.sb,r.up.trans a2,?_⟩;exact Dn (e:=e) (F:=F) a1 hn (by omega) (by rw [a2];exact hmaj) hF j (by rw [a2];exact hj) a3
end
section
variable {ρ:Type} {z:ρ->Bool} {e:ρ}
variable {n i F l len:Nat} {b b' M T B:Int} {S S' S0 S1 S2 S3:Cs ρ} {G:Gh ρ} {m:Ms ρ} {s s':Nd ρ} {r:List (Ms ρ)×Nd ρ} {ms q:List (Ms ρ)} {Λ:Nat} {Lt:Lg ρ}
theorem CW (hw:Wk z 1 b S) (hb:b+1<=1099511627776) (hq:S.q=[]):(S.ticks z e 1).q=[]:=by
 rw [cO];intro x hx;obtain ⟨t1,t2,t3⟩:=dm (z:=z) (e:=e) 1 S;rcases (t3 x).1 hx with g | ⟨c,d1,d2,d3⟩
 ·rw [hq] at g;cases g
 ·obtain ⟨h1,_,h3⟩:=hw.tk (e:=e) hb c d1;have:=h1.num;rw [h3] at this;have:=List.length_pos_of_mem d3;omega
theorem AZ (hw:Wk z 1 b S) (hb:b+1<=1099511627776) (hq:S.q=[]) (h1:S1=(S.ticks z e 1).noq.dl z e (S.ticks z e 1).q) (h2:S2=S1.noq.dl z e S1.q) (i:Nat):pl (S2.nd i)+bN i S2.q<=pl (S.nd i)+1:=by
 rw [CW hw hb hq] at h1;have h1:S1=(S.ticks z e 1).noq:=h1;subst h1;have h2:S2=(S.ticks z e 1).noq.noq:=h2;subst h2;have:=kW (e:=e) hw hb i;rw [ax rfl] at this;show pl ((S.ticks z e 1).nd i)+((0:Nat):Int)<=_;omega
theorem yD (h:Ok z n b Λ S) (hn:n<=5) (hmaj:Maj n λj=>S.up j) (hb:b+70<=1099511627776) (hF:200+22*(Λ+30)<=F):∃M l,Sd z n (b+60) M (Λ+30) l (S.rnds z e n F 60)/\(S.rnds z e n F 60).up=S.up/\∀j,S.up j=true->Wn (pl (S.nd j)+1121) ((S.rnds z e n F 60).nd l).log ((S.rnds z e n F 60).nd j):=by
 obtain ⟨k,k1,⟨M,l,hl⟩,k3,k4⟩:=z8 (e:=e) h hn hmaj (by omega) hF;obtain ⟨h1,h2⟩:=h.rnds (e:=e) (F:=F) hn (k+1) (by omega) (by omega);obtain ⟨g1,g2⟩:=h.rnds (e:=e) (F:=F) hn k (by omega) (by omega);obtain ⟨M',hM,_⟩:=g1.rnd (e:=e) (F:=F) hn (by omega) (by omega);have sb:Sb z n (b+(k+1:Nat)) M (Λ+30) l (S.rnds z e n F (k+1)):=⟨h1.wk,hl,λx hx=>(by rw [h1.q] at hx;cases hx),by rw [h1.q];exact aA _,λi hi=>by have:=h1.log i hi;omega⟩
 have hw:∀j,S.up j=true->Wn (pl (S.nd j)+1121) ((S.rnds z e n F (k+1)).nd l).log ((S.rnds z e n F (k+1)).nd j):=λj hj=>by
  refine Cv (S:=S.rnds z e n F k) hn (by omega) hM hl j (by rw [g2];exact hj) ?_;have hp:=k4 j;by_cases hk:k=0
  ·subst hk;have:=oM g1.wk hn (by omega) g1.q hM rfl rfl j;have e1:S.rnds z e n F 0=S:=rfl;rw [e1] at this;rw [e1];omega
  ·by_cases hn1:n=1
   ·subst hn1;have:=AZ (e:=e) g1.wk (by omega) g1.q rfl rfl j;omega
   ·have:=mY g1.wk hn hn1 (by omega) ⟨g1.q,λi hi=>k3 (by omega) i (by rw [<-g2];exact hi)⟩ hM rfl rfl j;omega
 obtain ⟨s1,s2,s3⟩:=yH (e:=e) (F:=F) sb hn (by omega) (by rw [h2];exact hmaj) (by omega);obtain ⟨q1,q2,q3⟩:=s1.rnds (e:=e) (F:=F) hn (by rw [s3,h2];exact hmaj) (by omega) (57 - k) (by omega);have e60:S.rnds z e n F 60=((S.rnds z e n F (k+1)).rnds z e n F 2).rnds z e n F (57 - k):=by
  rw [<-jE,<-jE];congr 1;omega
 have e59:S.rnds z e n F 60=(S.rnds z e n F (k+1)).rnds z e n F (59 - k):=by
  rw [<-jE];congr 1;omega
 refine ⟨M,l,?_,?_,λj hj=>?_⟩
 ·grind
 ·rw [e60];exact q3.trans (s3.trans h2)
 ·rw [e59];exact (yG (e:=e) (F:=F) sb hn (by rw [h2];exact hmaj) (by omega) j (by rw [h2];exact hj) (hw j hj) (59 - k) (by omega)).2.2
theorem zW (h:Sd z n b M Λ l S) (hn:n<=5) (hmaj:Maj n λj=>S.up j) (hΛ:Λ<=1900) (hb:b+20<=1099511627776) (hF:100+22*(Λ+1)<=F) (x:ρ) (j:Nat) (hj:S.up j=true) (hw:Wn B (S.nd l).log (S.nd j)):∀k:Nat,k<=10->Wn B (((S.call l ((X.submit z (S.nd l) x).1,(X.submit z (S.nd l) x).2.2)).rnds z e n F k).nd l).log (((S.call l ((X.submit z (S.nd l) x).1,(X.submit z (S.nd l) x).2.2)).rnds z e n F k).nd j):=λk hk=>by
 obtain ⟨_,h2,h3⟩:=h.give hn hΛ x;have hp:=oI (z:=z) (s:=S.nd l) x;refine (yG (e:=e) (F:=F) h2 hn hmaj hF j hj ?_ k (by omega)).2.2;rw [bi,ax rfl,bi];show Wn B (X.submit z (S.nd l) x).2.2.log (if j=l then (X.submit z (S.nd l) x).2.2 else S.nd j);rw [h3];split
 ·rename_i e1;subst e1;obtain ⟨A,a1,a2,a3,a4⟩:=hw;exact ⟨(S.nd j).log.length+1,by rw [h3];simp,by simp,by rw [h3],by omega⟩
 ·exact hw.on _
theorem Wn.cnt (h:Wn B Lt s):(s.cnt:Int)<=B+Lt.length+2*s.term+1:=by
 have:=h.le;have:=yT s;omega
end
structure Mo {ρ:Type} (c c':Nd ρ):Prop where
 cnt:c.cnt<=c'.cnt
 bad:c'.bad=false->c.bad=false
 own:c'.own=c.own
 n:c'.n=c.n
section
variable {ρ:Type} {z:ρ->Bool} {e:ρ} {c:Nd ρ}
theorem Mo.refl (c:Nd ρ):Mo c c:=⟨ah _,id,rfl,rfl⟩
theorem Mo.trans {a b c:Nd ρ} (h:Mo a b) (g:Mo b c):Mo a c:=⟨aF h.cnt g.cnt,λx=>h.bad (g.bad x),g.own.trans h.own,g.n.trans h.n⟩
theorem zj (t w:Int):Mo c (enter c t w):=⟨bO _,id,rfl,rfl⟩
theorem rk (p:Nat) (x:Int×ρ):Mo c (place c p x):=⟨bO _,id,rfl,rfl⟩
theorem rq (m:Nat):Mo c (agree z c m):=by
 unfold agree;split
 ·exact ⟨ah _,id,rfl,rfl⟩
 ·exact Mo.refl _
theorem lU:Mo c (settle z c).2:=by
 unfold settle;split
 ·exact Mo.trans (b:={ c with mat:=c.mat.set c.own c.log.length }) ⟨ah _,id,rfl,rfl⟩ (rq _)
 ·exact ⟨ah _,id,rfl,rfl⟩
theorem uE:Mo c (lead z e c).2:=by
 unfold lead;exact Mo.trans (b:=place { c with leads:=true,next:=List.replicate c.n c.log.length,mat:=List.replicate c.n 0 } c.log.length (c.term,e)) ⟨bO _,id,rfl,rfl⟩ lU
theorem zh:Mo c (stand z e c).2:=by
 unfold stand;split
 ·exact Mo.refl _
 ·have h:Mo c { enter c (c.term+1) (c.own:Int) with ticks:=0,votes:=(List.replicate c.n false).set c.own true }:=⟨bO _,id,rfl,rfl⟩
  simp only;split
  ·exact h.trans uE
  ·exact h
theorem Bf:Mo c (tick z e c).2:=by
 unfold tick;simp only;split
 ·exact ⟨ah _,id,rfl,rfl⟩
 ·split
  ·exact Mo.trans (b:={ c with clock:=c.clock+1,ticks:=c.ticks+1 }) ⟨ah _,id,rfl,rfl⟩ zh
  ·split<;>exact ⟨ah _,id,rfl,rfl⟩
theorem zk (m:Ms ρ):Mo c (asked c m).2:=by
 unfold asked;split
 ·simp only;split
  ·split
   ·exact ⟨bO _,id,rfl,rfl⟩
   ·exact ⟨ah _,id,rfl,rfl⟩
  ·exact Mo.refl _
 ·exact Mo.refl _
theorem zg (m:Ms ρ):Mo c (voted z e c m).2:=by
 unfold voted;split
 ·exact Mo.refl _
 ·have h:Mo c { c with votes:=c.votes.set m.frm.toNat true }:=⟨ah _,id,rfl,rfl⟩
  simp only;split
  ·exact h.trans uE
  ·exact h
theorem zi (f:Nat) (l:List (Int×ρ)):∀(i:Nat) (c:Nd ρ),Mo c (bE f l i c).2:=by
 induction l with
 | nil=>intro i c;exact Mo.refl _
 | cons a l ih =>
  intro i c;obtain ⟨t,rec⟩:=a;unfold bE;split
  ·exact ih _ _
  ·split
   ·exact Mo.refl _
   ·exact (rk _ _).trans (ih _ _)
theorem Bg (m:Ms ρ):Mo c (lays z c m).2:=by
 unfold lays;split
 ·exact Mo.refl _
 ·split
  ·exact Mo.refl _
  ·have h:Mo c { c with ticks:=0 }:=⟨ah _,id,rfl,rfl⟩
   simp only;split
   ·have h2:=zi (m.N.getD 1 0).toNat ((m.N.drop 4).zip m.B) 0 { c with ticks:=0 };split
    ·exact (h.trans h2).trans (rq _)
    ·exact (h.trans h2).trans ⟨ah _,λx=>by simp at x,rfl,rfl⟩
   ·exact h
theorem rp (m:Ms ρ):Mo c (answered z c m).2:=by
 unfold answered;split
 ·exact Mo.refl _
 ·simp only;split
  ·split
   ·exact Mo.refl _
   ·exact ⟨ah _,id,rfl,rfl⟩
  ·split
   ·exact Mo.refl _
   ·have h:=lU (z:=z) (c:={ c with mat:=c.mat.set m.frm.toNat (m.N.getD 2 0).toNat,next:=c.next.set m.frm.toNat (max (m.N.getD 2 0).toNat (c.next.getD m.frm.toNat 0))});have h2:Mo c (settle z { c with mat:=c.mat.set m.frm.toNat (m.N.getD 2 0).toNat,next:=c.next.set m.frm.toNat (max (m.N.getD 2 0).toNat (c.next.getD m.frm.toNat 0))}).2:=Mo.trans (b:={ c with mat:=c.mat.set m.frm.toNat (m.N.getD 2 0).toNat,next:=c.next.set m.frm.toNat (max (m.N.getD 2 0).toNat (c.next.getD m.frm.toNat 0))}) ⟨ah _,id,rfl,rfl⟩ h;split
    ·exact h2
    ·split<;>exact h2
theorem rm (m:Ms ρ):Mo c (getIn z e c m).2:=by
 unfold getIn;split
 ·exact zk m
 ·split
  ·exact zg m
  ·split
   ·exact Bg m
   ·split
    ·exact rp m
    ·split
     ·split
      ·exact ⟨ah _,id,rfl,rfl⟩
      ·exact Mo.refl _
     ·exact Mo.refl _
theorem Cu (m:Ms ρ):Mo c (get z e c m).2:=by
 unfold get;split
 ·exact Mo.refl _
 ·split
  ·exact (zj _ _).trans (rm m)
  ·exact rm m
theorem Di:Mo c (back c):=⟨ah _,id,rfl,rfl⟩
end
end Go.Proofs.Ytnicaicjgaoolaa.X
namespace Go.Proofs.Ytnicaicjgaoolaa
set_option maxRecDepth 20000
def oY {ρ:Type} (f:ρ->List UInt8) (x:Int×ρ):Ent:=⟨x.1,f x.2⟩
def dL {ρ:Type} (f:ρ->List UInt8) (m:X.Ms ρ):Msg:=⟨m.frm,m.dst,m.kind,m.N,m.B.map f⟩
def qm (k:Dk):Prop:=∀l q,k.file=some (l,q)->q=l.length
structure RelU {ρ:Type} (f:ρ->List UInt8) (s:Rp) (k:Dk) (c:X.Nd ρ):Prop where
 own:s.own=c.own
 n:s.n=c.n
 term:s.term=c.term
 choice:s.choice=c.choice
 log:s.log=c.log.map (oY f)
 agreed:s.agreed=c.agreed
 many:s.many=c.many
 leads:s.leads=c.leads
 votes:s.votes=c.votes
 next:s.next=c.next
 mat:s.mat=c.mat
 ticks:s.ticks=c.ticks
 clock:s.clock=c.clock
 heard:s.heard=c.heard
 done:s.done=false
 liv:s.lives=k.lives
 wliv:s.wl.lives=k.lives
 wdone:s.wl.done=false
 off:k.off=false
 room:k.room=1048576
 tot:k.total<=c.cnt*344
structure Rel {ρ:Type} (f:ρ->List UInt8) (s:Rp) (k:Dk) (c:X.Nd ρ):Prop where
 u:RelU f s k c
 syn:qm k
structure RelP {ρ:Type} (f:ρ->List UInt8) (p:List Msg×Rp×Dk) (q:List (X.Ms ρ)×X.Nd ρ):Prop where
 ms:p.1=q.1.map (dL f)
 rel:Rel f p.2.1 p.2.2 q.2
section
variable {ρ:Type} {f:ρ->List UInt8} {z:ρ->Bool} {e:ρ} {s:Rp} {k:Dk} {c:X.Nd ρ}
theorem B6 {s:Wl} (h:s.done=false):jP s 0=s:=by
 unfold jP;rw [h];obtain ⟨a,b,c⟩:=s;simp only at h;rw [h];rfl
theorem qY (h:RelU f s k c):lj s.wl k=false:=by
 unfold lj;rw [h.wdone,h.wliv,h.off];simp
theorem RelU.done_same (h:RelU f s k c):ew s k=false/\aY s k=s:=by
 have hd:ew s k=false:=by
  unfold ew;rw [h.done,h.off,h.liv];simp
 refine ⟨hd,?_⟩;unfold aY;rw [hd,<-h.done]
theorem RelU.wl (h:RelU f s k c) {w':Wl} {k':Dk} (h1:w'.lives=k'.lives) (h2:w'.done=false) (h3:k'.lives=k.lives) (h4:k'.off=k.off) (h5:k'.room=k.room) {m:Nat} (h6:k'.total<=m*344):RelU f { s with wl:=w',done:=false } k' { c with cnt:=m } :=
 ⟨h.own,h.n,h.term,h.choice,h.log,h.agreed,h.many,h.leads,h.votes,h.next,h.mat,h.ticks,h.clock,h.heard,rfl,h.liv.trans h3.symm,h1,h2,h4.trans h.off,h5.trans h.room,h6⟩
theorem oz (h:RelU f s k c) (b:List UInt8) (hb:b.length<=332) (hc:c.cnt<=3030) :
  ∃s' k',bK s k b=(s',k')/\RelU f s' k' { c with cnt:=c.cnt+1 }:=by
 have ht:=h.tot;have hr:=h.room;have ha:ft s.wl k b=(0,{ s.wl with recs:=s.wl.recs++[b]},appD k (F.cz b)):=by
  grind [ft,qY,B6,cD,h.wdone]
 refine ⟨{ s with wl:={ s.wl with recs:=s.wl.recs++[b]},done:=false },appD k (F.cz b),?_,h.wl (w':={ s.wl with recs:=s.wl.recs++[b]}) (k':=appD k (F.cz b)) h.wliv h.wdone rfl rfl rfl ?_⟩
 ·unfold bK;rw [h.done,ha];simp
 ·show (appD k (F.cz b)).total<=(c.cnt+1)*344;rw [eN] at ht ⊢;rw [n8,ay,F.di];omega
theorem m0 (h:RelU f s k c):∃s' k',cx s k=(s',k')/\Rel f s' k' c:=by
 unfold cx fO;rw [h.done,qY h,B6 h.wdone];simp only [cD,if_false];have ht:=h.tot;cases hk:k.file with
 | none=>exact ⟨{ s with wl:=s.wl,done:=false },k,by simp,⟨h.wl (w':=s.wl) (k':=k) h.wliv h.wdone rfl rfl rfl ht,λl q e=>by rw [hk] at e;cases e⟩⟩
 | some p =>
  obtain ⟨l,q⟩:=p;refine ⟨{ s with wl:=s.wl,done:=false },{ k with file:=some (l,l.length)},by simp,⟨h.wl (w':=s.wl) (k':={ k with file:=some (l,l.length)}) h.wliv h.wdone rfl rfl rfl ?_,λl2 q2 e2=>by cases e2;rfl⟩⟩;unfold Dk.total at ht ⊢;rw [hk] at ht;exact ht
theorem mc (h:RelU f s k c) (t w:Int) (hc:c.cnt<=3030):∃s' k',bx s k t w=(true,s',k')/\Rel f s' k' (X.enter c t w):=by
 obtain ⟨s1,k1,e1,h1⟩:=oz h (dF t w) (by rw [iK];omega) hc;obtain ⟨s2,k2,e2,h2⟩:=m0 h1;unfold bx;rw [e1];simp only [h1.done,cD,if_false];rw [e2];simp only [h2.u.done,cD,if_false];refine ⟨_,k2,rfl,⟨⟨h2.u.own,h2.u.n,rfl,rfl,h2.u.log,h2.u.agreed,h2.u.many,?_,h2.u.votes,h2.u.next,h2.u.mat,h2.u.ticks,h2.u.clock,h2.u.heard,rfl,h2.u.liv,h2.u.wliv,h2.u.wdone,h2.u.off,h2.u.room,h2.u.tot⟩,h2.syn⟩⟩;show (s2.leads && !decide (s2.term<t))=(c.leads && !decide (c.term<t))
 rw [h2.u.leads,h2.u.term]
theorem oQ (h:RelU f s k c) (p:Nat) (x:Int×ρ) (hx:(f x.2).length<=300) (hc:c.cnt<=3030):∃s' k',cG s k p (oY f x)=(true,s',k')/\RelU f s' k' (X.place c p x):=by
 obtain ⟨s1,k1,e1,h1⟩:=oz h (dp p (oY f x)) (by rw [gX];show 32+(f x.2).length<=332;omega) hc;unfold cG;rw [e1];simp only [h1.done,cD,if_false];refine ⟨_,k1,rfl,⟨h1.own,h1.n,h1.term,h1.choice,?_,h1.agreed,h1.many,h1.leads,h1.votes,h1.next,h1.mat,h1.ticks,h1.clock,h1.heard,rfl,h1.liv,h1.wliv,h1.wdone,h1.off,h1.room,h1.tot⟩⟩;show s1.log.take p++[oY f x]=(c.log.take p++[x]).map (oY f);rw [h1.log,bW,ju];rfl
theorem ux (h:RelU f s k c) (x:Int×ρ) (hx:(f x.2).length<=300) (hc:c.cnt<=3030):∃s' k',fy s k (oY f x)=(true,s',k')/\Rel f s' k' (X.place c c.log.length x):=by
 have hl:s.log.length=c.log.length:=by rw [h.log,aQ]
 obtain ⟨s1,k1,e1,h1⟩:=oQ h s.log.length x hx hc;obtain ⟨s2,k2,e2,h2⟩:=m0 h1;unfold fy;rw [e1];simp only [if_true];rw [e2];refine ⟨s2,k2,by simp [h2.u.done],?_⟩;rw [<-hl];exact h2
theorem gj (l:List (Int×ρ)) (n:Nat):bT (l.map (oY f)) n=X.bD l n:=by
 unfold bT X.bD;cases n with
 | zero=>rfl
 | succ n =>
  rw [aw (by omega)];simp only [Nat.add_sub_cancel,pw,aK,List.getElem?_map];cases l[n]? with
  | none=>rfl
  | some x=>rfl
theorem vn (l:List (Int×ρ)):(l.map (oY f)).map Ent.term=l.map Prod.fst:=by
 rw [pw];rfl
theorem CJ (l:List (Int×ρ)):(l.map (oY f)).map Ent.bs=(l.map Prod.snd).map f:=by
 rw [pw,pw];rfl
theorem gg (h:RelU f s k c) (d:Nat):cw s d=dL f (X.bI c d):=by
 unfold cw X.bI dL;simp only [h.own,h.term,h.next,h.agreed,h.log,gj,<-Dr,<-ju,vn,CJ]
theorem mq (h:RelU f s k c) (kd:Int) (d:Nat):bf s kd d=dL f (X.bf c kd d):=by
 unfold bf X.bf dL dv X.od;simp only [h.own,h.term,h.log,gj,aQ,List.map_nil]
theorem jZ (h:RelU f s k c) (d kd:Int) (N:List Int):dv s d kd N=dL f (X.od c d kd N):=by
 unfold dv X.od dL;simp only [h.own,List.map_nil]
theorem kE (h:RelU f s k c) (g:Nat->Msg) (g':Nat->X.Ms ρ) (hg:∀i,g i=dL f (g' i)):dc s g=(X.cT c g').map (dL f):=by
 unfold dc X.cT;rw [h.own,h.n,pw];exact Dl (λi _=>hg i)
section
variable (hz:∀x,z x=(f x).isEmpty)
include hz
theorem qQ (l:List (Int×ρ)):recs (l.map (oY f))=(X.recs z l).map f:=by
 induction l with
 | nil=>rfl
 | cons a l ih =>
  unfold recs X.recs at *;simp only [ii,fw];have e1:(oY f a).bs.isEmpty=z a.2:=(hz a.2).symm;rw [e1];split
  ·simp only [ii,ih];rfl
  ·exact ih
theorem pq (h:Rel f s k c) (m:Nat):Rel f (bZ s m) k (X.agree z c m):=by
 have e:(recs ((s.log.take m).drop s.agreed)).length=(X.recs z ((c.log.take m).drop c.agreed)).length:=by
  rw [h.u.log,h.u.agreed,<-ju,<-Dr,qQ hz,aQ]
 unfold bZ X.agree;rw [e,h.u.agreed];split
 ·exact ⟨⟨h.u.own,h.u.n,h.u.term,h.u.choice,h.u.log,rfl,by show s.many+_=c.many+_;rw [h.u.many],h.u.leads,h.u.votes,h.u.next,h.u.mat,h.u.ticks,h.u.clock,h.u.heard,h.u.done,h.u.liv,h.u.wliv,h.u.wdone,h.u.off,h.u.room,h.u.tot⟩,h.syn⟩
 ·exact h
omit hz in
theorem qI (h:RelU f s k c) (m:Nat):_root_.Go.Proofs.Ytnicaicjgaoolaa.settleF s m=X.settleF c m:=by
 induction m with
 | zero=>rfl
 | succ m ih =>
  unfold _root_.Go.Proofs.Ytnicaicjgaoolaa.settleF X.settleF;rw [ih,h.agreed,h.log,gj,h.term];have e:js s (ey s.mat (m+1))=X.dh c (ey c.mat (m+1)):=by
   unfold js X.dh;rw [h.n,h.mat]
  rw [e]
theorem kw (h:Rel f s k c):(bS s).1=(X.settle z c).1/\Rel f (bS s).2 k (X.settle z c).2:=by
 have h1:Rel f { s with mat:=s.mat.set s.own s.log.length } k { c with mat:=c.mat.set c.own c.log.length } :=
  ⟨⟨h.u.own,h.u.n,h.u.term,h.u.choice,h.u.log,h.u.agreed,h.u.many,h.u.leads,h.u.votes,h.u.next,by show s.mat.set s.own s.log.length=c.mat.set c.own c.log.length;rw [h.u.mat,h.u.own,h.u.log,aQ],h.u.ticks,h.u.clock,h.u.heard,h.u.done,h.u.liv,h.u.wliv,h.u.wdone,h.u.off,h.u.room,h.u.tot⟩,h.syn⟩
 have e:=qI h1.u s.log.length;have hl:s.log.length=c.log.length:=by rw [h.u.log,aQ]
 unfold bS X.settle;simp only;rw [e,hl];cases X.settleF { c with mat:=c.mat.set c.own c.log.length } c.log.length with
 | none=>exact ⟨rfl,by rw [hl] at h1;exact h1⟩
 | some m=>exact ⟨rfl,by have:=pq hz h1 m;rw [hl] at this;exact this⟩
end
end
section
variable {ρ:Type} {f:ρ->List UInt8} {z:ρ->Bool} {e:ρ} {s:Rp} {k:Dk} {c:X.Nd ρ}
theorem RelU.mk2 (h:RelU f s k c) {s':Rp} {c':X.Nd ρ} (h1:s'.own=c'.own) (h2:s'.n=c'.n) (h3:s'.term=c'.term) (h4:s'.choice=c'.choice) (h5:s'.log=c'.log.map (oY f)) (h6:s'.agreed=c'.agreed) (h7:s'.many=c'.many) (h8:s'.leads=c'.leads) (h9:s'.votes=c'.votes) (h10:s'.next=c'.next) (h11:s'.mat=c'.mat) (h12:s'.ticks=c'.ticks) (h13:s'.clock=c'.clock) (h14:s'.heard=c'.heard) (g1:s'.done=s.done) (g2:s'.lives=s.lives) (g3:s'.wl=s.wl) (g4:c'.cnt=c.cnt):RelU f s' k c' :=
 ⟨h1,h2,h3,h4,h5,h6,h7,h8,h9,h10,h11,h12,h13,h14,g1.trans h.done,g2.trans h.liv,by rw [g3];exact h.wliv,by rw [g3];exact h.wdone,h.off,h.room,by rw [g4];exact h.tot⟩
theorem RelU.len (h:RelU f s k c):s.log.length=c.log.length:=by rw [h.log,aQ]
theorem nV (h:RelU f s k c):fG s=X.gL c:=by
 unfold fG js X.gL X.dh;rw [h.n,h.votes]
theorem Ak (h:RelU f s k c):jQ s=X.kN c:=by
 unfold jQ X.kN;rw [h.heard];congr 1;funext i;unfold _root_.Go.Proofs.Ytnicaicjgaoolaa.better X.better;rw [h.clock,h.log,gj,aQ,h.own]
theorem ep (h:Rel f s k c):RelP f ([],s,k) ([],c):=⟨rfl,h⟩
theorem gy (h:Rel f s k c) {m:Msg} {m':X.Ms ρ} (e:m=dL f m'):RelP f ([m],s,k) ([m'],c):=⟨by rw [e];rfl,h⟩
theorem lf (h:Rel f s k c) (g:Nat->Msg) (g':Nat->X.Ms ρ) (hg:∀i,g i=dL f (g' i)):RelP f (dc s g,s,k) (X.cT c g',c):=⟨kE h.u g g' hg,h⟩
theorem uL {P Q:Prop} [Decidable P] [Decidable Q] {a b:List Msg×Rp×Dk} {a' b':List (X.Ms ρ)×X.Nd ρ} (e:P=Q) (ha:Q->RelP f a a') (hb:¬Q->RelP f b b'):RelP f (if P then a else b) (if Q then a' else b'):=by
 grind
section
variable (hz:∀x,z x=(f x).isEmpty) (he:f e=[])
include hz he
theorem rz (h:Rel f s k c) (hc:c.cnt<=3030):RelP f (fR s k) (X.lead z e c):=by
 have h1:Rel f { s with leads:=true,next:=List.replicate s.n s.log.length,mat:=List.replicate s.n 0 } k { c with leads:=true,next:=List.replicate c.n c.log.length,mat:=List.replicate c.n 0 } :=
  ⟨h.u.mk2 h.u.own h.u.n h.u.term h.u.choice h.u.log h.u.agreed h.u.many rfl h.u.votes (by show List.replicate s.n s.log.length=List.replicate c.n c.log.length;rw [h.u.n,h.u.len]) (by show List.replicate s.n 0=List.replicate c.n 0;rw [h.u.n]) h.u.ticks h.u.clock h.u.heard rfl rfl rfl rfl,h.syn⟩
 obtain ⟨s2,k2,e2,h2⟩:=ux h1.u (c.term,e) (by rw [he];simp) hc;have e3:oY f (c.term,e)=⟨s.term,[]⟩:=by unfold oY;rw [he,h.u.term]
 rw [e3] at e2;have h3:=(kw hz h2).2;unfold fR X.lead;simp only;rw [e2];simp only [if_true];exact lf h3 _ _ (λi=>gg h3.u i)
theorem vx (h:Rel f s k c) (hc:c.cnt<=3020):RelP f (fP s k) (X.stand z e c):=by
 unfold fP X.stand;rw [h.u.term];split
 ·exact ep h
 ·obtain ⟨s1,k1,e1,h1⟩:=mc h.u (c.term+1) (c.own:Int) (by omega);simp only;rw [h.u.own,e1];simp only [if_true];have h2:Rel f { s1 with ticks:=0,votes:=(List.replicate s.n false).set c.own true } k1 { X.enter c (c.term+1) (c.own:Int) with ticks:=0,votes:=(List.replicate c.n false).set c.own true } :=
   ⟨h1.u.mk2 h1.u.own h1.u.n h1.u.term h1.u.choice h1.u.log h1.u.agreed h1.u.many h1.u.leads (by show (List.replicate s.n false).set c.own true=_;rw [h.u.n]) h1.u.next h1.u.mat rfl h1.u.clock h1.u.heard rfl rfl rfl rfl,h1.syn⟩
  rw [nV h2.u];split
  ·exact rz hz he h2 (by show c.cnt+1<=3030;omega)
  ·grind [lf,mq,h2.u]
theorem yp (h:Rel f s k c) (hc:c.cnt<=3020):RelP f (eh s k) (X.tick z e c):=by
 have h1:Rel f { s with clock:=s.clock+1 } k { c with clock:=c.clock+1 } :=
  ⟨h.u.mk2 h.u.own h.u.n h.u.term h.u.choice h.u.log h.u.agreed h.u.many h.u.leads h.u.votes h.u.next h.u.mat h.u.ticks (by show s.clock+1=c.clock+1;rw [h.u.clock]) h.u.heard rfl rfl rfl rfl,h.syn⟩
 have h2:Rel f { s with clock:=s.clock+1,ticks:=s.ticks+1 } k { c with clock:=c.clock+1,ticks:=c.ticks+1 } :=
  ⟨h.u.mk2 h.u.own h.u.n h.u.term h.u.choice h.u.log h.u.agreed h.u.many h.u.leads h.u.votes h.u.next h.u.mat (by show s.ticks+1=c.ticks+1;rw [h.u.ticks]) (by show s.clock+1=c.clock+1;rw [h.u.clock]) h.u.heard rfl rfl rfl rfl,h.syn⟩
 have hb:=Ak h2.u;have ht:s.ticks+1=c.ticks+1:=by rw [h.u.ticks]
 unfold eh X.tick;simp only;rw [h.u.done_same.2,aw (by rw [h.u.done];simp)];refine uL (by rw [h.u.leads]) (λ_=>lf h1 _ _ (λi=>gg h1.u i)) λ_=>?_;refine uL (by rw [hb,ht]) (λ_=>vx hz he h2 hc) λ_=>?_;exact uL (by rw [ht]) (λ_=>lf h2 _ _ (λi=>mq h2.u 5 i)) (λ_=>ep h2)
omit hz he in
theorem wW (h:Rel f s k c) (hc:c.cnt<=3020) (m:X.Ms ρ):RelP f (dV s k (dL f m)) (X.asked c m):=by
 unfold dV X.asked;refine uL rfl (λ_=>?_) (λ_=>ep h);simp only;refine uL ?_ (λ_=>?_) (λ_=>gy h (by rw [h.u.term];exact jZ h.u _ _ _))
 ·rw [h.u.log,gj,aQ,h.u.term,h.u.choice];rfl
 ·refine uL (by rw [h.u.choice]) (λ_=>?_) (λ_=>?_)
  ·obtain ⟨s1,k1,e1,h1⟩:=mc h.u c.term m.frm (by omega);have h2:Rel f { s1 with ticks:=0 } k1 { X.enter c c.term m.frm with ticks:=0 } :=
    ⟨h1.u.mk2 h1.u.own h1.u.n h1.u.term h1.u.choice h1.u.log h1.u.agreed h1.u.many h1.u.leads h1.u.votes h1.u.next h1.u.mat rfl h1.u.clock h1.u.heard rfl rfl rfl rfl,h1.syn⟩
   have e2:bx s k s.term (dL f m).frm=(true,s1,k1):=by rw [h.u.term];exact e1
   rw [e2];simp only [if_true];have h3:s1.term=c.term:=h1.u.term;refine gy h2 ?_;rw [h3];exact jZ h2.u _ _ _
  ·have h2:Rel f { s with ticks:=0 } k { c with ticks:=0 } :=
    ⟨h.u.mk2 h.u.own h.u.n h.u.term h.u.choice h.u.log h.u.agreed h.u.many h.u.leads h.u.votes h.u.next h.u.mat rfl h.u.clock h.u.heard rfl rfl rfl rfl,h.syn⟩
   refine gy h2 ?_;have h3:dv { s with ticks:=0 } (dL f m).frm 2 [s.term,1]=dL f (X.od { c with ticks:=0 } m.frm 2 [c.term,1]):=by rw [h.u.term];exact jZ h2.u _ _ _
   exact h3
theorem u9 (h:Rel f s k c) (hc:c.cnt<=3020) (m:X.Ms ρ):RelP f (eM s k (dL f m)) (X.voted z e c m):=by
 have h2:Rel f { s with votes:=s.votes.set m.frm.toNat true } k { c with votes:=c.votes.set m.frm.toNat true } :=
  ⟨h.u.mk2 h.u.own h.u.n h.u.term h.u.choice h.u.log h.u.agreed h.u.many h.u.leads (by show s.votes.set _ _=_;rw [h.u.votes]) h.u.next h.u.mat h.u.ticks h.u.clock h.u.heard rfl rfl rfl rfl,h.syn⟩
 have hch:=nV h2.u;unfold eM X.voted;refine uL ?_ (λ_=>ep h) (λ_=>?_)
 ·rw [h.u.leads,h.u.term,h.u.choice,h.u.own];rfl
 ·simp only;refine uL ?_ (λ_=>rz hz he h2 (by show c.cnt<=3030;omega)) (λ_=>ep h2);rw [<-hch];rfl
omit he in
theorem ng (h:Rel f s k c) (hc:c.cnt<=3020) (x:ρ) (hx:(f x).length<=300) (hne:z x=false):∃er,bJ s k (f x)=((X.submit z c x).1.map (dL f),er,(bJ s k (f x)).2.2)/\(er=0↔(X.submit z c x).2.1=true)/\Rel f (bJ s k (f x)).2.2.1 (bJ s k (f x)).2.2.2 (X.submit z c x).2.2:=by
 have hn:(f x).length≠0:=by
  grind
 have ho:ik s=X.qX z c:=by
  unfold ik X.qX;rw [h.u.log,h.u.agreed,h.u.term,<-Dr,List.filter_map,aQ];congr 2;funext y;simp [oY,hz]
 obtain ⟨s2,k2,e2,h2⟩:=ux h.u (c.term,x) hx (by omega);have h3:=(kw hz h2).2;have e3:oY f (c.term,x)=⟨s.term,f x⟩:=by unfold oY;rw [h.u.term]
 rw [e3] at e2;have E:bJ s k (f x)=if !s.leads then ([],15,s,k) else if 200<=ik s\/2000<=s.many then ([],9,s,k) else (let s2:=(bS s2).2;(dc s2 (cw s2),0,s2,k2)):=by
  unfold bJ;rw [aw hn,aw (by omega)];simp only;rw [h.u.done_same.2,h.u.done,e2];simp
 rw [E];unfold X.submit;rw [h.u.leads,ho,h.u.many];split
 ·exact ⟨15,rfl,by simp,h⟩
 ·grind [kE,gg,h3.u]
omit hz he in
theorem wt (hf:∀x,(f x).length<=300) (fr:Nat) (l:List (Int×ρ)):∀(i:Nat) (s:Rp) (k:Dk) (c:X.Nd ρ),RelU f s k c->c.cnt+l.length<=3030 ->
  (bE fr (l.map λx=>(x.1,f x.2)) i s k).1=(X.bE fr l i c).1/\RelU f (bE fr (l.map λx=>(x.1,f x.2)) i s k).2.1 (bE fr (l.map λx=>(x.1,f x.2)) i s k).2.2 (X.bE fr l i c).2:=by
 induction l with
 | nil=>intro i s k c h _;exact ⟨rfl,h⟩
 | cons a l ih =>
  intro i s k c h hc;obtain ⟨t,rec⟩:=a;simp only [aX] at hc;have hL:(s.log.map Ent.term).getD (fr+i) 0=X.bD c.log (fr+i+1):=by
   rw [<-gj (f:=f),<-h.log];unfold bT;rw [aw (by omega)];rfl
  obtain ⟨s1,k1,e1,h1⟩:=oQ h (fr+i) (t,rec) (hf rec) (by omega);have e3:oY f (t,rec)=⟨t,f rec⟩:=rfl;rw [e3] at e1;simp only [ii];unfold bE X.bE;simp only [hL,h.len,h.term,h.agreed];rw [e1];have hr:=hf rec;by_cases g1:fr+i<c.log.length/\X.bD c.log (fr+i+1)=t
  ·grind
  ·rw [aw g1,aw g1];by_cases g2:t<1\/c.term<t\/fr+i<c.agreed
   ·grind
   ·rw [aw g2,aw (by rintro (g | g);omega;exact g2 g)];simp only [if_true];exact ih _ _ _ _ h1 (by show c.cnt+1+l.length<=3030;omega)
omit hz he in
theorem AL (N:List Int) (B:List ρ):N.zip (B.map f)=(N.zip B).map λx=>(x.1,f x.2):=by
 rw [List.zip_map_right];rfl
omit he in
theorem zy (hf:∀x,(f x).length<=300) (h:Rel f s k c) (hc:c.cnt<=3000) (m:X.Ms ρ) (hb:m.B.length<=20) (hbad:(X.lays z c m).2.bad=false):RelP f (dK s k (dL f m)) (X.lays z c m):=by
 have h1:Rel f { s with ticks:=0 } k { c with ticks:=0 } :=
  ⟨h.u.mk2 h.u.own h.u.n h.u.term h.u.choice h.u.log h.u.agreed h.u.many h.u.leads h.u.votes h.u.next h.u.mat rfl h.u.clock h.u.heard rfl rfl rfl rfl,h.syn⟩
 have hfit:eW { s with ticks:=0 } (m.N.getD 1 0) (m.N.getD 2 0)=X.ox { c with ticks:=0 } (m.N.getD 1 0) (m.N.getD 2 0):=by
  unfold eW X.ox;simp only [h.u.log,gj,aQ]
 have hzl:((m.N.drop 4).zip m.B).length<=20:=by rw [og];omega
 obtain ⟨l1,l2⟩:=wt hf (m.N.getD 1 0).toNat ((m.N.drop 4).zip m.B) 0 _ k _ h1.u (by show c.cnt+_<=3030;omega);rw [<-AL] at l1 l2;revert hbad;have hA:∀(s2:Rp) (k2:Dk) (c2:X.Nd ρ),Rel f s2 k2 c2->RelP f (([dv (bZ s2 (min (m.N.getD 3 0) (((m.N.getD 1 0).toNat+m.B.length:Nat):Int)).toNat) m.frm 4 [(bZ s2 (min (m.N.getD 3 0) (((m.N.getD 1 0).toNat+m.B.length:Nat):Int)).toNat).term,1,(((m.N.getD 1 0).toNat+m.B.length:Nat):Int)]],bZ s2 (min (m.N.getD 3 0) (((m.N.getD 1 0).toNat+m.B.length:Nat):Int)).toNat,k2)) ([X.od (X.agree z c2 (min (m.N.getD 3 0) (((m.N.getD 1 0).toNat+m.B.length:Nat):Int)).toNat) m.frm 4 [(X.agree z c2 (min (m.N.getD 3 0) (((m.N.getD 1 0).toNat+m.B.length:Nat):Int)).toNat).term,1,(((m.N.getD 1 0).toNat+m.B.length:Nat):Int)]],X.agree z c2 (min (m.N.getD 3 0) (((m.N.getD 1 0).toNat+m.B.length:Nat):Int)).toNat):=by
  intro s2 k2 c2 h2;have h3:=pq hz h2 (min (m.N.getD 3 0) (((m.N.getD 1 0).toNat+m.B.length:Nat):Int)).toNat;refine gy h3 ?_;rw [h3.u.term];exact jZ h3.u _ _ _
 unfold dK X.lays;have hBl:(dL f m).B.length=m.B.length:=aQ _;rw [hBl];have hP:(!((dL f m).N.length==4+m.B.length)||decide ((dL f m).N.getD 1 0<0)||((dL f m).N.getD 0 0==s.term&&s.leads))=(!(m.N.length==4+m.B.length)||decide (m.N.getD 1 0<0)||(m.N.getD 0 0==c.term&&c.leads)):=by rw [h.u.term,h.u.leads];rfl
 rw [hP];by_cases q1:(!(m.N.length==4+m.B.length)||decide (m.N.getD 1 0<0)||(m.N.getD 0 0==c.term&&c.leads))=true
 ·grind [ep]
 ·rw [aw q1,aw q1];by_cases q2:m.N.getD 0 0<c.term
  ·rw [ax q2,ax (show (dL f m).N.getD 0 0<s.term by rw [h.u.term];exact q2)];intro _;exact gy h (by rw [h.u.term];exact jZ h.u _ _ _)
  ·rw [aw q2,aw (show ¬(dL f m).N.getD 0 0<s.term by rw [h.u.term];exact q2)];simp only;by_cases q3:X.ox { c with ticks:=0 } (m.N.getD 1 0) (m.N.getD 2 0)=true
   ·rw [ax q3,ax (show eW { s with ticks:=0 } ((dL f m).N.getD 1 0) ((dL f m).N.getD 2 0)=true from hfit.trans q3)];have l1':(bE ((dL f m).N.getD 1 0).toNat (((dL f m).N.drop 4).zip (dL f m).B) 0 { s with ticks:=0 } k).1=(X.bE (m.N.getD 1 0).toNat ((m.N.drop 4).zip m.B) 0 { c with ticks:=0 }).1:=l1;by_cases q4:(X.bE (m.N.getD 1 0).toNat ((m.N.drop 4).zip m.B) 0 { c with ticks:=0 }).1=true
    ·rw [ax q4,ax (l1'.trans q4)];intro _;obtain ⟨s2,k2,e2,h2⟩:=m0 l2;have e2':cx (bE ((dL f m).N.getD 1 0).toNat (((dL f m).N.drop 4).zip (dL f m).B) 0 { s with ticks:=0 } k).2.1 (bE ((dL f m).N.getD 1 0).toNat (((dL f m).N.drop 4).zip (dL f m).B) 0 { s with ticks:=0 } k).2.2=(s2,k2):=e2;by_cases hb0:m.B.length=0
     ·rw [ax hb0,aw (by omega)];have hB:m.B=[]:=List.eq_nil_of_length_eq_zero hb0;have hl0:(bE ((dL f m).N.getD 1 0).toNat (((dL f m).N.drop 4).zip (dL f m).B) 0 { s with ticks:=0 } k)=(true,{ s with ticks:=0 },k):=by
       unfold dL;simp [hB,bE]
      have hl1:(X.bE (m.N.getD 1 0).toNat ((m.N.drop 4).zip m.B) 0 { c with ticks:=0 })=(true,{ c with ticks:=0 }):=by
       simp [hB,X.bE]
      rw [hl0,hl1];exact hA _ _ _ h1
     ·rw [aw hb0,e2',aw (by rw [h2.u.done];simp)];exact hA _ _ _ h2
    ·rw [aw q4];intro hx;cases hx
   ·rw [aw q3,aw (show ¬eW { s with ticks:=0 } ((dL f m).N.getD 1 0) ((dL f m).N.getD 2 0)=true from λx=>q3 (hfit.symm.trans x))];intro _;refine gy h1 ?_;rw [h.u.term,h.u.len];exact jZ h1.u _ _ _
omit he in
theorem qe (h:Rel f s k c) (m:X.Ms ρ):RelP f ((ct s (dL f m)).1,(ct s (dL f m)).2,k) (X.answered z c m):=by
 have h1:Rel f { s with next:=s.next.set m.frm.toNat (max (m.N.getD 2 0).toNat (s.mat.getD m.frm.toNat 0))} k { c with next:=c.next.set m.frm.toNat (max (m.N.getD 2 0).toNat (c.mat.getD m.frm.toNat 0))} :=
  ⟨h.u.mk2 h.u.own h.u.n h.u.term h.u.choice h.u.log h.u.agreed h.u.many h.u.leads h.u.votes (by show s.next.set _ _=_;rw [h.u.next,h.u.mat]) h.u.mat h.u.ticks h.u.clock h.u.heard rfl rfl rfl rfl,h.syn⟩
 have h2:Rel f { s with mat:=s.mat.set (dL f m).frm.toNat ((dL f m).N.getD 2 0).toNat,next:=s.next.set (dL f m).frm.toNat (max ((dL f m).N.getD 2 0).toNat (s.next.getD (dL f m).frm.toNat 0))} k { c with mat:=c.mat.set m.frm.toNat (m.N.getD 2 0).toNat,next:=c.next.set m.frm.toNat (max (m.N.getD 2 0).toNat (c.next.getD m.frm.toNat 0))} :=
  ⟨h.u.mk2 h.u.own h.u.n h.u.term h.u.choice h.u.log h.u.agreed h.u.many h.u.leads h.u.votes (by show s.next.set _ _=_;rw [h.u.next];rfl) (by show s.mat.set _ _=_;rw [h.u.mat];rfl) h.u.ticks h.u.clock h.u.heard rfl rfl rfl rfl,h.syn⟩
 obtain ⟨g1,g2⟩:=kw hz h2;have hl:=g2.u.len;have hnx:=g2.u.next;have hlw:=gg g2.u m.frm.toNat;have hlo:=kE g2.u _ _ (λi=>gg g2.u i);have hlay:=gg h1.u m.frm.toNat;unfold ct X.answered;have hP:(!s.leads || !((dL f m).N.getD 0 0==s.term) || !((dL f m).N.length==3)||decide ((dL f m).N.getD 2 0<0)||decide ((s.log.length:Int)<(dL f m).N.getD 2 0))=(!c.leads || !(m.N.getD 0 0==c.term) || !(m.N.length==3)||decide (m.N.getD 2 0<0)||decide ((c.log.length:Int)<m.N.getD 2 0)):=by rw [h.u.leads,h.u.term,h.u.len];rfl
 rw [hP];by_cases q1:(!c.leads || !(m.N.getD 0 0==c.term) || !(m.N.length==3)||decide (m.N.getD 2 0<0)||decide ((c.log.length:Int)<m.N.getD 2 0))=true
 ·rw [ax q1,ax q1];exact ep h
 ·rw [aw q1,aw q1];simp only;by_cases q2:m.N.getD 1 0=0
  ·rw [ax q2,ax (show (dL f m).N.getD 1 0=0 from q2)];by_cases q3:c.next.getD m.frm.toNat 0<=(m.N.getD 2 0).toNat
   ·rw [ax q3,ax (show s.next.getD (dL f m).frm.toNat 0<=((dL f m).N.getD 2 0).toNat by rw [h.u.next];exact q3)];exact ep h
   ·rw [aw q3,aw (show ¬s.next.getD (dL f m).frm.toNat 0<=((dL f m).N.getD 2 0).toNat by rw [h.u.next];exact q3)];exact gy h1 hlay
  ·rw [aw q2,aw (show ¬(dL f m).N.getD 1 0=0 from q2)];by_cases q3:(m.N.getD 2 0).toNat<=c.mat.getD m.frm.toNat 0
   ·rw [ax q3,ax (show ((dL f m).N.getD 2 0).toNat<=s.mat.getD (dL f m).frm.toNat 0 by rw [h.u.mat];exact q3)];exact ep h
   ·rw [aw q3,aw (show ¬((dL f m).N.getD 2 0).toNat<=s.mat.getD (dL f m).frm.toNat 0 by rw [h.u.mat];exact q3)];by_cases q4:(X.settle z { c with mat:=c.mat.set m.frm.toNat (m.N.getD 2 0).toNat,next:=c.next.set m.frm.toNat (max (m.N.getD 2 0).toNat (c.next.getD m.frm.toNat 0))}).1=true
    ·rw [ax q4,ax (g1.trans q4)];exact ⟨hlo,g2⟩
    ·rw [aw q4,aw (λx=>q4 (g1.symm.trans x))];by_cases q5:(X.settle z { c with mat:=c.mat.set m.frm.toNat (m.N.getD 2 0).toNat,next:=c.next.set m.frm.toNat (max (m.N.getD 2 0).toNat (c.next.getD m.frm.toNat 0))}).2.next.getD m.frm.toNat 0<(X.settle z { c with mat:=c.mat.set m.frm.toNat (m.N.getD 2 0).toNat,next:=c.next.set m.frm.toNat (max (m.N.getD 2 0).toNat (c.next.getD m.frm.toNat 0))}).2.log.length
     ·rw [ax q5,ax]
      ·exact gy g2 hlw
      ·have:=q5;rw [<-hl,<-hnx] at this;exact this
     ·rw [aw q5,aw]
      ·exact ep g2
      ·intro x;apply q5;rw [<-hl,<-hnx];exact x
end
end
section
variable {ρ:Type} {f:ρ->List UInt8} {z:ρ->Bool} {e:ρ} {s:Rp} {k:Dk} {c:X.Nd ρ}
theorem pe (hz:∀x,z x=(f x).isEmpty) (he:f e=[]) (hf:∀x,(f x).length<=300) (h:Rel f s k c) (hc:c.cnt<=3000) (m:X.Ms ρ) (hb:m.B.length<=20) (hbad:(X.getIn z e c m).2.bad=false) :
  RelP f (if (dL f m).kind=1 then dV s k (dL f m) else if (dL f m).kind=2 then eM s k (dL f m) else if (dL f m).kind=3 then dK s k (dL f m) else if (dL f m).kind=4 then ((ct s (dL f m)).1,(ct s (dL f m)).2,k)
   else if (dL f m).kind=5 then (if (dL f m).N.length=3 then ([],{ s with heard:=s.heard.set (dL f m).frm.toNat ((s.clock:Int),(dL f m).N.getD 1 0,(dL f m).N.getD 2 0)},k) else ([],s,k)) else ([],s,k)) (X.getIn z e c m):=by
 unfold X.getIn at hbad ⊢;refine uL rfl (λ_=>wW h (by omega) m) λq1=>?_;rw [aw q1] at hbad;refine uL rfl (λ_=>u9 hz he h (by omega) m) λq2=>?_;rw [aw q2] at hbad;refine uL rfl (λq3=>?_) λq3=>?_
 ·grind [zy]
 ·refine uL rfl (λ_=>qe hz h m) λ_=>?_;refine uL rfl (λ_=>?_) λ_=>ep h;refine uL rfl (λ_=>?_) λ_=>ep h;refine ep ⟨h.u.mk2 h.u.own h.u.n h.u.term h.u.choice h.u.log h.u.agreed h.u.many h.u.leads h.u.votes h.u.next h.u.mat h.u.ticks h.u.clock ?_ rfl rfl rfl rfl,h.syn⟩;show s.heard.set _ _=_;rw [h.u.heard,h.u.clock];rfl
theorem Bx (hz:∀x,z x=(f x).isEmpty) (he:f e=[]) (hf:∀x,(f x).length<=300) (h:Rel f s k c) (hc:c.cnt<=2990) (m:X.Ms ρ) (hb:m.B.length<=20) (hbad:(X.get z e c m).2.bad=false):RelP f (fC s k (dL f m)) (X.get z e c m):=by
 have hbm:mh s (dL f m)=X.nZ c m:=by
  unfold mh X.nZ;rw [h.u.own,h.u.n];rfl
 unfold fC;unfold X.get at hbad ⊢;simp only;rw [h.u.done_same.2,hbm];by_cases q1:X.nZ c m=true
 ·grind [ep]
 ·rw [aw q1] at hbad ⊢;rw [aw (by rw [h.u.done];simpa using q1)];by_cases q2:c.term<m.N.getD 0 0
  ·rw [ax q2] at hbad ⊢;rw [ax (show s.term<(dL f m).N.getD 0 0 by rw [h.u.term];exact q2)];obtain ⟨s1,k1,e1,h1⟩:=mc h.u (m.N.getD 0 0) (-1) (by omega);have e2:bx s k ((dL f m).N.getD 0 0) (-1)=(true,s1,k1):=e1;rw [e2];exact pe hz he hf h1 (by show c.cnt+1<=3000;omega) m hb hbad
  ·rw [aw q2] at hbad ⊢;rw [aw (show ¬s.term<(dL f m).N.getD 0 0 by rw [h.u.term];exact q2)];exact pe hz he hf h (by omega) m hb hbad
theorem Bp (l:List (List UInt8)):zP l (F.aL l).length=l.length:=by
 induction l with
 | nil=>rfl
 | cons a l ih =>
  unfold zP;rw [F.et,ay,F.di,ax (by omega),aX];rw [show 12+a.length+(F.aL l).length - (12+a.length)=(F.aL l).length from by omega,ih]
theorem lB (h:qm k) (keep:Int):dN k keep={ k with off:=true }:=by
 unfold dN nT;cases hk:k.file with
 | none=>rfl
 | some p =>
  obtain ⟨l,q⟩:=p;have:=h l q hk;subst this;have e:jr l l.length keep=l.length:=by unfold jr;omega
  simp only;rw [e,cM]
theorem Aq (h:Rel f s k c) (hu:UpI s k) (keep:Int):Rel f (fN s.own s.n s (dN k keep)) (fu s (dN k keep)) (X.back c):=by
 have hd:=hu.crash keep;rw [lB h.syn] at hd ⊢;have hfil:eZ { k with off:=true }=F.aL s.wl.recs:=hu.wf.fil;have hR:dT s { k with off:=true }=s.wl.recs:=by
  unfold dT;rw [hfil,Bp,cM]
 obtain ⟨ns,g1,g2,g3⟩:=hu.nok.ex;obtain ⟨m1,m2,m3⟩:=g3 h.u.done;obtain ⟨ht,hr,htot,ns',hb,hnd,hk',hns⟩:=qd hd;rw [hR] at hnd hb;have hlike:=jF (dz s.own s.n (k.lives+1) s.wl.recs) (iI s.n) rfl rfl rfl rfl ns;have hN:(s.wl.recs).map lk=ns:=by
  rw [g1];refine la (iI s.n) ns g2 ?_ (aM _) (by show (0:Int)<=_;decide) hu.wf.n5;have e1:ns.length=ns'.length:=by
   grind
  show 0+_<=_;omega
 have hS:fN s.own s.n s { k with off:=true }=cK (dz s.own s.n (k.lives+1) s.wl.recs) ns:=by
  unfold fN;rw [hR,hN]
 obtain ⟨t,ch,g,er⟩:=fK (dz s.own s.n (k.lives+1) s.wl.recs) ns;rw [er] at hlike hS;have ht':t=c.term:=(hlike.1.trans m1).trans h.u.term;have hc':ch=c.choice:=(hlike.2.1.trans m2).trans h.u.choice;have hg':g=c.log.map (oY f):=(hlike.2.2.1.trans m3).trans h.u.log;have hK:fu s { k with off:=true }={ k with off:=false,lives:=k.lives+1 }:=by
  unfold fu eR BZ;rw [hR];cases hf:k.file with
  | none=>simp [hf]
  | some p =>
   obtain ⟨l,q⟩:=p;have e1:l=F.aL s.wl.recs:=by
    grind [eZ]
   have e2:=h.syn l q hf;simp only [hf];rw [e2,e1,pv]
 rw [hS,hK];have ho:=h.u.own;have hn:=h.u.n;refine ⟨⟨ho,hn,ht',hc',hg',rfl,rfl,rfl,?_,?_,?_,rfl,rfl,?_,rfl,rfl,rfl,rfl,rfl,h.u.room,h.u.tot⟩,h.syn⟩
 ·show List.replicate s.n false=List.replicate c.n false;rw [hn]
 ·show List.replicate s.n 0=List.replicate c.n 0;rw [hn]
 ·show List.replicate s.n 0=List.replicate c.n 0;rw [hn]
 ·show List.replicate s.n (0,0,0)=List.replicate c.n (0,0,0);rw [hn]
end
end Go.Proofs.Ytnicaicjgaoolaa
namespace Go.Proofs.Ytnicaicjgaoolaa.X
set_option maxRecDepth 20000
section
variable {ρ:Type} (z:ρ->Bool) (e:ρ)
def gM (q:List (Ms ρ)) (m:Ms ρ):List (Ms ρ):=if q.length<2000 then q++[m] else q
end
end Go.Proofs.Ytnicaicjgaoolaa.X
namespace Go.Proofs.Ytnicaicjgaoolaa
set_option maxRecDepth 20000
namespace X
section
variable {ρ:Type} {z:ρ->Bool} {e:ρ}
end
end X
section
variable {ρ:Type} {f:ρ->List UInt8} {z:ρ->Bool} {e:ρ} {n cl lv:Nat} {S:Mn}
theorem AD (q:List (X.Ms ρ)) (m:X.Ms ρ):gM (q.map (dL f)) (dL f m)=(X.gM q m).map (dL f):=by
 unfold gM X.gM;rw [aQ];split
 ·rw [bW];rfl
 ·rfl
section
variable (hz:∀x,z x=(f x).isEmpty) (he:f e=[]) (hf:∀x,(f x).length<=300)
end
end
section
variable {ρ:Type} {f:ρ->List UInt8} {z:ρ->Bool} {e:ρ} {n cl lv:Nat} {S:Mn}
section
variable (hz:∀x,z x=(f x).isEmpty) (he:f e=[]) (hf:∀x,(f x).length<=300)
end
section
end
end
end Go.Proofs.Ytnicaicjgaoolaa
