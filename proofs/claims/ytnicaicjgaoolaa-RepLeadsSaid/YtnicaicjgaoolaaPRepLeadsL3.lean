/-
  What the proof of the law leans on: contracts of the program's functions, one behind another. No condition.
-/
import Derived.Test.YtnicaicjgaoolaaU0
import Derived.Test.YtnicaicjgaoolaaPRepLeadsL2
set_option linter.unusedVariables false
set_option linter.unusedSimpArgs false
namespace Go.Proofs.Ytnicaicjgaoolaa.X
section
variable {ρ:Type} {z:ρ->Bool} {e:ρ}
variable {n i:Nat} {s s':Nd ρ} {m:Ms ρ}
theorem fk (s:Nd ρ) (f:Nat->Ms ρ) (h:s.own<s.n):(cT s f).length+1<=s.n:=by
 unfold cT;rw [aQ];have h1:∀k,s.own<k->((List.range k).filter λi=>i != s.own).length+1<=k:=by
  intro k;induction k with
  | zero=>intro h;omega
  | succ k ih =>
   intro hk;rw [cE,cC,ay];by_cases e:k=s.own
   ·grind
   ·grind
 exact h1 _ h
theorem eJ (s:Nd ρ) (f:Nat->Ms ρ) (d:Nat) (h1:d<s.n) (h2:d≠s.own):f d∈cT s f:=by
 grind [cT,gR.2,oe.2,cX.2]
theorem dt:(X.settle z s).2.own=s.own/\(X.settle z s).2.n=s.n/\(X.settle z s).2.clock=s.clock/\(X.settle z s).2.ticks=s.ticks/\(X.settle z s).2.leads=s.leads/\(X.settle z s).2.term=s.term/\(X.settle z s).2.choice=s.choice/\(X.settle z s).2.log=s.log/\(X.settle z s).2.next=s.next/\(X.settle z s).2.heard=s.heard/\(X.settle z s).2.votes=s.votes/\(X.settle z s).2.cnt=s.cnt/\(X.settle z s).2.mat=s.mat.set s.own s.log.length:=by
 unfold X.settle X.agree;split
 ·grind
 ·grind
structure Leads (s:Nd ρ) (r:List (Ms ρ)×Nd ρ):Prop where
 own:r.2.own=s.own
 n:r.2.n=s.n
 clock:r.2.clock=s.clock
 term:r.2.term=s.term
 ticks:r.2.ticks=s.ticks
 leads:r.2.leads=true
 heard:r.2.heard=s.heard
 len:r.2.log.length=s.log.length+1
 cnt:r.2.cnt=s.cnt+1
 ms:r.1=cT r.2 (bI r.2)
theorem eC (s:Nd ρ):Leads s (lead z e s):=by
 obtain ⟨h1,h2,h3,h4,h5,h6,h7,h8,h9,h10,h11,h12,h13⟩:=dt (z:=z) (s:=place { s with leads:=true,next:=List.replicate s.n s.log.length,mat:=List.replicate s.n 0 } s.log.length (s.term,e));refine ⟨h1,h2,h3,h6,h4,h5,h10,?_,h12,rfl⟩;show (X.settle z _).2.log.length=_;rw [h8];show (s.log.take s.log.length++[(s.term,e)]).length=_;simp
structure Got (s:Nd ρ) (m:Ms ρ) (r:List (Ms ρ)×Nd ρ):Prop where
 own:r.2.own=s.own
 n:r.2.n=s.n
 clock:r.2.clock=s.clock
 up:s.term<=r.2.term
 top:r.2.term<=max s.term (m.N.getD 0 0)
 reach:m.N.getD 0 0<=r.2.term
 leads:r.2.leads=true->(s.leads=true/\r.2.term=s.term)\/(m.kind=2/\m.N.getD 0 0=s.term/\r.2.term=s.term/\m.N.getD 1 0=1/\s.leads=false)
 keeps:s.leads=true->r.2.term=s.term->r.2.leads=true
 out:∀x∈r.1,x.frm=(s.own:Int)/\x.N.getD 0 0=r.2.term/\2<=x.N.length /\
  ((m.kind=1/\x.kind=2/\x.dst=m.frm)\/(m.kind=2/\x.kind=3)\/(m.kind=3/\x.kind=4/\x.dst=m.frm)\/(m.kind=4/\x.kind=3))/\(x.kind=3->r.2.leads=true)
 num:r.1.length<=1\/((m.kind=2\/m.kind=4)/\r.1.length+1<=s.n)
 ticks:r.2.ticks=s.ticks\/r.2.ticks=0
theorem fE (t:Int) (h:s.term<t):(enter s t (-1)).leads=false:=by
 show (s.leads && !decide (s.term<t))=false;simp [h]
theorem Got.of {ms:List (Ms ρ)} {s1:Nd ρ} (hN:m.N.getD 0 0<=s.term) (h1:s1.own=s.own) (h2:s1.n=s.n) (h3:s1.clock=s.clock) (h4:s1.term=s.term) (h5:s1.leads=true->s.leads=true\/(m.kind=2/\m.N.getD 0 0=s.term/\m.N.getD 1 0=1/\s.leads=false)) (h6:s.leads=true->s1.leads=true)
  (h7:∀x∈ms,x.frm=(s.own:Int)/\x.N.getD 0 0=s1.term/\2<=x.N.length/\((m.kind=1/\x.kind=2/\x.dst=m.frm)\/(m.kind=2/\x.kind=3)\/(m.kind=3/\x.kind=4/\x.dst=m.frm)\/(m.kind=4/\x.kind=3))/\(x.kind=3->s1.leads=true))
  (h8:ms.length<=1\/((m.kind=2\/m.kind=4)/\ms.length+1<=s.n)) (h9:s1.ticks=s.ticks\/s1.ticks=0):Got s m (ms,s1) :=
 ⟨h1,h2,h3,by show s.term<=s1.term;omega,by show s1.term<=_;omega,by show _<=s1.term;omega,λh=>by
  rcases h5 h with g | ⟨g1,g2,g3,g4⟩
  ·exact .inl ⟨g,h4⟩
  ·exact .inr ⟨g1,g2,h4,g3,g4⟩,λh _=>h6 h,h7,h8,h9⟩
theorem wX (hN:m.N.getD 0 0<=s.term) (hk:m.kind=1):Got s m (asked s m):=by
 have hnil:Got s m ([],s):=Got.of hN rfl rfl rfl rfl .inl id (λx hx=>by cases hx) (.inl (by simp)) (.inl rfl);have hkeep:∀(s1:Nd ρ) (v:Int),s1.own=s.own->s1.n=s.n->s1.clock=s.clock->s1.term=s.term->(s1.leads=s.leads)->(s1.ticks=s.ticks\/s1.ticks=0)->Got s m ([od s1 m.frm 2 [s1.term,v]],s1):=λs1 v h1 h2 h3 h4 h5 h6=>by
  refine Got.of hN h1 h2 h3 h4 (λh=>.inl (h5 ▸ h)) (λh=>h5 ▸ h) (λx hx=>?_) (.inl (by simp)) h6;rw [aj.1 hx];exact ⟨by show ((s1.own:Nat):Int)=_;rw [h1],rfl,by show 2<=2;omega,.inl ⟨hk,rfl,rfl⟩,λe=>(by cases e)⟩
 unfold asked;split
 ·simp only;split
  ·split
   ·exact hkeep _ _ rfl rfl rfl rfl (by show (s.leads && !decide (s.term<s.term))=_;simp) (.inr rfl)
   ·simp_all
  ·grind
 ·exact hnil
theorem vc (ho:s.own<s.n) (hN:m.N.getD 0 0<=s.term) (hk:m.kind=2):Got s m (voted z e s m):=by
 unfold voted;split
 ·exact Got.of hN rfl rfl rfl rfl .inl id (λx hx=>by cases hx) (.inl (by simp)) (.inl rfl)
 ·rename_i hy;simp only [aW,aV,be,not_or,ne_eq,da,i7] at hy;obtain ⟨⟨⟨hy1,hy2⟩,hy3⟩,hy4⟩:=hy;simp only;split
  ·have h:=eC (z:=z) (e:=e) { s with votes:=s.votes.set m.frm.toNat true };refine Got.of (s1:=(lead z e { s with votes:=s.votes.set m.frm.toNat true }).2) (ms:=(lead z e { s with votes:=s.votes.set m.frm.toNat true }).1) hN h.own h.n h.clock h.term (λ_=>.inr ⟨hk,hy2,hy4,hy1⟩) (λ_=>h.leads) (λx hx=>?_) (.inr ⟨.inl hk,?_⟩) (.inl h.ticks)
   ·grind [cJ,lead,bI,h.ms,h.own,h.leads]
   ·rw [h.ms];have:=fk (lead z e { s with votes:=s.votes.set m.frm.toNat true }).2 (bI (lead z e { s with votes:=s.votes.set m.frm.toNat true }).2) (by rw [h.own,h.n];exact ho);rw [h.n] at this;exact this
  ·grind [Got.of]
theorem iM (p:Nat) (l:List (Int×ρ)):∀(j:Nat) (s:Nd ρ),(bE p l j s).2.own=s.own/\(bE p l j s).2.n=s.n/\(bE p l j s).2.clock=s.clock/\(bE p l j s).2.term=s.term/\(bE p l j s).2.leads=s.leads/\(bE p l j s).2.ticks=s.ticks/\(bE p l j s).2.cnt<=s.cnt+l.length/\(bE p l j s).2.heard=s.heard:=by
 induction l with
 | nil=>intro j s;exact ⟨rfl,rfl,rfl,rfl,rfl,rfl,ah _,rfl⟩
 | cons x l ih =>
  intro j s;obtain ⟨t,rec⟩:=x;unfold bE;split
  ·grind
  ·split
   ·grind
   ·grind [place,aX]
theorem gF (s:Nd ρ) (k:Nat):(X.agree z s k).own=s.own/\(X.agree z s k).n=s.n/\(X.agree z s k).clock=s.clock/\(X.agree z s k).term=s.term/\(X.agree z s k).leads=s.leads/\(X.agree z s k).ticks=s.ticks/\(X.agree z s k).cnt=s.cnt/\(X.agree z s k).heard=s.heard:=by
 unfold X.agree;split<;>exact ⟨rfl,rfl,rfl,rfl,rfl,rfl,rfl,rfl⟩
theorem zB (hN:m.N.getD 0 0<=s.term) (hk:m.kind=3):Got s m (lays z s m):=by
 have hkeep:∀(s1:Nd ρ) (a b:Int),s1.own=s.own->s1.n=s.n->s1.clock=s.clock->s1.term=s.term->(s1.leads=s.leads)->(s1.ticks=s.ticks\/s1.ticks=0)->Got s m ([od s1 m.frm 4 [s1.term,a,b]],s1):=λs1 a b h1 h2 h3 h4 h5 h6=>by
  refine Got.of hN h1 h2 h3 h4 (λh=>.inl (h5 ▸ h)) (λh=>h5 ▸ h) (λx hx=>?_) (.inl (by simp)) h6;rw [aj.1 hx];exact ⟨by show ((s1.own:Nat):Int)=_;rw [h1],rfl,by show 2<=3;omega,.inr (.inr (.inl ⟨hk,rfl,rfl⟩)),λe=>(by cases e)⟩
 have hnil:∀(s1:Nd ρ),s1.own=s.own->s1.n=s.n->s1.clock=s.clock->s1.term=s.term->(s1.leads=s.leads)->(s1.ticks=s.ticks\/s1.ticks=0)->Got s m ([],s1):=λs1 h1 h2 h3 h4 h5 h6=>Got.of hN h1 h2 h3 h4 (λh=>.inl (h5 ▸ h)) (λh=>h5 ▸ h) (λx hx=>by cases hx) (.inl (by simp)) h6;unfold lays;split
 ·exact hnil s rfl rfl rfl rfl rfl (.inl rfl)
 ·split
  ·grind
  ·simp only;split
   ·grind [iM,bE,gF]
   ·simp_all
theorem qf (ho:s.own<s.n) (hN:m.N.getD 0 0<=s.term) (hk:m.kind=4):Got s m (answered z s m):=by
 have hnil:Got s m ([],s):=Got.of hN rfl rfl rfl rfl .inl id (λx hx=>by cases hx) (.inl (by simp)) (.inl rfl);unfold answered;split
 ·exact hnil
 ·rename_i hy;simp only [aW,aV,be,not_or,ne_eq,da,dB,aR,Int.not_lt] at hy;obtain ⟨⟨⟨⟨hl,hy2⟩,hy3⟩,hy4⟩,hy5⟩:=hy;have hone:∀(s1:Nd ρ) (ms:List (Ms ρ)),s1.own=s.own->s1.n=s.n->s1.clock=s.clock->s1.term=s.term->s1.leads=true->s1.ticks=s.ticks->(ms.length<=1\/ms.length+1<=s.n)->(∀x∈ms,∃d,x=bI s1 d)->Got s m (ms,s1):=λs1 ms h1 h2 h3 h4 h5 h6 h7 h8=>by
   grind [Got.of,bI]
  simp only;split
  ·grind
  ·grind [dt,fk,bI,cJ,aj.1]
theorem pf (ho:s.own<s.n) (hN:m.N.getD 0 0<=s.term):Got s m (getIn z e s m):=by
 have hnil:∀(hh:List (Int×Int×Int)),Got s m ([],{ s with heard:=hh }):=λhh=>Got.of hN rfl rfl rfl rfl .inl id (λx hx=>by cases hx) (.inl (by simp)) (.inl rfl);unfold getIn;split
 ·rename_i hk;exact wX hN hk
 ·split
  ·rename_i hk;exact vc ho hN hk
  ·split
   ·rename_i hk;exact zB hN hk
   ·split
    ·rename_i hk;exact qf ho hN hk
    ·split
     ·split
      ·exact hnil _
      ·exact hnil s.heard
     ·exact hnil s.heard
structure Fit (i n:Nat) (m:Ms ρ):Prop where
 dst:m.dst=(i:Int)
 f:∃f:Nat,f<n/\m.frm=(f:Int)/\f≠i
 len:2<=m.N.length
 t1:1<=m.N.getD 0 0
 t2:m.N.getD 0 0<=1099511627776
theorem Fit.ok (h:Fit i n m) (ho:s.own=i) (hn:s.n=n):nZ s m=false:=by
 grind [nZ,dZ,gS,h.f,h.len,h.t1,h.t2,h.dst]
theorem Bz (hi:s.own=i) (hn:s.n=n) (hin:i<n) (hf:Fit i n m):Got s m (get z e s m):=by
 unfold get;rw [hf.ok hi hn];simp only [cD,if_false];split
 ·rename_i ht;have h:Got (enter s (m.N.getD 0 0) (-1)) m (getIn z e (enter s (m.N.getD 0 0) (-1)) m):=pf (by show s.own<s.n;omega) (aM _);have e1:(enter s (m.N.getD 0 0) (-1)).term=m.N.getD 0 0:=rfl;have h1:=h.up;have h2:=h.top;refine ⟨h.own,h.n,h.clock,by omega,by omega,h.reach,λhl=>?_,λ_ hl=>by omega,h.out,h.num,h.ticks⟩;rcases h.leads hl with ⟨h3,_⟩ | ⟨h3,h4,h5,h6,h7⟩
  ·rw [fE _ ht] at h3;cases h3
  ·exfalso;have hc:(enter s (m.N.getD 0 0) (-1)).choice = -1:=rfl;have hv:(getIn z e (enter s (m.N.getD 0 0) (-1)) m)=voted z e (enter s (m.N.getD 0 0) (-1)) m:=by
    grind [getIn]
   rw [hv] at hl;unfold voted at hl;rw [ax (by
    rw [hc];simp only [aW,aV,be];exact .inl (.inr (by omega)))] at hl
   rw [fE _ ht] at hl;cases hl
 ·exact pf (by omega) (by omega)
end
section
variable {ρ:Type} {z:ρ->Bool} {e:ρ}
variable {n i:Nat} {s s':Nd ρ} {m:Ms ρ}
structure LN (s:Nd ρ):Prop where
 nl:s.next.length=s.n
 hl:s.heard.length=s.n
 ml:s.mat.length=s.n
 vl:s.votes.length=s.n
 mn:s.leads=true->∀j,j≠s.own->s.mat.getD j 0<=s.next.getD j 0
 ha:∀j,0<=(s.heard.getD j (0,0,0)).1/\(s.heard.getD j (0,0,0)).1<=(s.clock:Int)
 lt:s.leads=true->1<=s.log.length/\bD s.log s.log.length=s.term
 qs:s.leads=true->settleF s s.log.length=none/\s.mat.getD s.own 0=s.log.length
theorem jb (s s':Nd ρ) (h1:s'.log=s.log) (h2:s'.term=s.term) (h3:s'.mat=s.mat) (h4:s'.n=s.n) (h5:s'.agreed=s.agreed):∀k,settleF s' k=settleF s k:=by
 intro k;induction k with
 | zero=>rfl
 | succ k ih =>
  unfold settleF dh;rw [h1,h2,h3,h4,h5,ih]
theorem pG (s s':Nd ρ) (h1:s'.log=s.log) (h2:s'.term=s.term) (h3:s'.mat=s.mat) (h4:s'.n=s.n):∀k r,settleF s k=some r->s'.agreed=r->settleF s' k=none:=by
 intro k;induction k with
 | zero=>intro r e;simp [settleF] at e
 | succ k ih =>
  intro r e h5;have hr:=gU s (k+1) r e;unfold settleF at e ⊢;split at e
  ·grind [co,dh,ey]
  ·cases e
theorem pF (s:Nd ρ):settleF (X.settle z s).2 s.log.length=none:=by
 unfold X.settle;split
 ·rename_i k hk;obtain ⟨k1,k2,k3,k4⟩:=gU _ _ _ hk;have k2:s.agreed<k:=k2;obtain ⟨a1,a2,a3,a4,a5,a6,a7⟩:=ig (z:=z) (s:={ s with mat:=s.mat.set s.own s.log.length }) k;refine pG _ _ a1 a2 a7 a5 _ k hk ?_;unfold X.agree;rw [ax k2]
 ·rename_i hk;exact hk
theorem eg (l:List Nat) (a b v:Nat) (h:a<l.length):(l.set a v).getD b 0=if b=a then v else l.getD b 0:=by
 grind
theorem nB {α:Type} (k j:Nat) (a d:α):(List.replicate k a).getD j d=if j<k then a else d:=by
 grind
theorem oL:s.agreed<=(X.settle z s).2.agreed:=by
 unfold X.settle X.agree;split
 ·grind
 ·exact ah _
theorem LN.settle (ho:s.own<s.n) (h1:s.next.length=s.n) (h2:s.heard.length=s.n) (h3:s.mat.length=s.n) (h4:s.votes.length=s.n) (h5:∀j,j≠s.own->s.mat.getD j 0<=s.next.getD j 0) (h6:∀j,0<=(s.heard.getD j (0,0,0)).1/\(s.heard.getD j (0,0,0)).1<=(s.clock:Int)) (h7:1<=s.log.length/\bD s.log s.log.length=s.term):LN (X.settle z s).2:=by
 obtain ⟨g1,g2,g3,g4,g5,g6,g7,g8,g9,g10,g11,g12,g13⟩:=dt (z:=z) (s:=s);refine ⟨by rw [g9,g2];exact h1,by rw [g10,g2];exact h2,by rw [g13,g2,cW];exact h3,by rw [g11,g2];exact h4,λ_ j hj=>?_,λj=>by rw [g10,g3];exact h6 j,λ_=>by rw [g8,g6];exact h7,λ_=>⟨by rw [g8];exact pF s,?_⟩⟩
 ·grind
 ·grind
theorem LN.quiet (h:LN s) (h1:s'.n=s.n) (h2:s'.own=s.own) (h3:s'.next=s.next) (h4:s'.mat=s.mat) (h5:s'.votes.length=s.votes.length) (h6:s'.heard=s.heard) (h7:s.clock<=s'.clock) (h8:s'.leads=true->s.leads=true/\s'.log=s.log/\s'.term=s.term/\s'.agreed=s.agreed):LN s':=by
 refine ⟨by rw [h3,h1];exact h.nl,by rw [h6,h1];exact h.hl,by rw [h4,h1];exact h.ml,by rw [h5,h1];exact h.vl,λe j hj=>?_,λj=>?_,λe=>?_,λe=>?_⟩
 ·rw [h4,h3];exact h.mn (h8 e).1 j (by rw [<-h2];exact hj)
 ·rw [h6];have:=h.ha j;exact ⟨this.1,by omega⟩
 ·obtain ⟨a,b,c,_⟩:=h8 e;rw [b,c];exact h.lt a
 ·obtain ⟨a,b,c,d⟩:=h8 e;rw [b,h4,h2,jb s s' b c h4 h1 d];exact h.qs a
theorem LN.lead (h:LN s) (ho:s.own<s.n):LN (lead z e s).2:=by
 refine LN.settle ho (by show (List.replicate s.n s.log.length).length=s.n;simp) h.hl (by show (List.replicate s.n 0).length=s.n;simp) h.vl (λj _=>?_) h.ha ?_
 ·show (List.replicate s.n 0).getD j 0<=_;rw [nB];split<;>exact aA _
 ·show 1<=(s.log.take s.log.length++[(s.term,e)]).length/\bD (s.log.take s.log.length++[(s.term,e)]) (s.log.take s.log.length++[(s.term,e)]).length=s.term;rw [cM];refine ⟨by simp,?_⟩;have e1:(s.log++[(s.term,e)]).length=s.log.length+1:=by simp
  rw [e1,jl];simp
theorem LN.stand (h:LN s) (ho:s.own<s.n):LN (stand z e s).2:=by
 unfold X.stand;split
 ·exact h
 ·have h1:LN { enter s (s.term+1) (s.own:Int) with ticks:=0,votes:=(List.replicate s.n false).set s.own true }:=by
   refine h.quiet rfl rfl rfl rfl (by show ((List.replicate s.n false).set s.own true).length=_;rw [h.vl];simp) rfl (ah _) (λhl=>?_);have hl:(s.leads && !decide (s.term<s.term+1))=true:=hl;simp at hl;omega
  simp only;split
  ·exact h1.lead ho
  ·exact h1
theorem LN.tick (h:LN s) (ho:s.own<s.n):LN (tick z e s).2:=by
 have h1:LN { s with clock:=s.clock+1 }:=h.quiet rfl rfl rfl rfl rfl rfl (bO _) (λhl=>⟨hl,rfl,rfl,rfl⟩);have h2:LN { s with clock:=s.clock+1,ticks:=s.ticks+1 }:=h.quiet rfl rfl rfl rfl rfl rfl (bO _) (λhl=>⟨hl,rfl,rfl,rfl⟩);unfold X.tick;simp only;split
 ·exact h1
 ·grind [h2.stand]
theorem LN.submit (h:LN s) (ho:s.own<s.n) (x:ρ):LN (submit z s x).2.2:=by
 unfold X.submit;split
 ·exact h
 ·rename_i hl;have hl:s.leads=true:=by simpa using hl
  split
  ·exact h
  ·refine LN.settle ho h.nl h.hl h.ml h.vl (λj hj=>h.mn hl j hj) h.ha ?_;show 1<=(s.log.take s.log.length++[(s.term,x)]).length/\bD (s.log.take s.log.length++[(s.term,x)]) (s.log.take s.log.length++[(s.term,x)]).length=s.term;rw [cM];refine ⟨by simp,?_⟩;have e1:(s.log++[(s.term,x)]).length=s.log.length+1:=by simp
   rw [e1,jl];simp
theorem LN.back:LN (X.back s):=by
 refine ⟨by show (List.replicate s.n 0).length=s.n;simp,by show (List.replicate s.n (0,0,0)).length=s.n;simp,by show (List.replicate s.n 0).length=s.n;simp,by show (List.replicate s.n false).length=s.n;simp,λh=>(by cases h),λj=>?_,λh=>(by cases h),λh=>(by cases h)⟩;show 0<=((List.replicate s.n (0,0,0)).getD j (0,0,0)).1/\((List.replicate s.n (0,0,0)).getD j (0,0,0)).1<=((0:Nat):Int);rw [nB];split<;>simp
theorem LN.new (i n:Nat):LN (X.new i n:Nd ρ):=by
 refine ⟨by show (List.replicate n 0).length=n;simp,by show (List.replicate n (0,0,0)).length=n;simp,by show (List.replicate n 0).length=n;simp,by show (List.replicate n false).length=n;simp,λh=>(by cases h),λj=>?_,λh=>(by cases h),λh=>(by cases h)⟩;show 0<=((List.replicate n (0,0,0)).getD j (0,0,0)).1/\((List.replicate n (0,0,0)).getD j (0,0,0)).1<=((0:Nat):Int);rw [nB];split<;>simp
theorem LN.enter (h:LN s) (t w:Int) (ht:s.term<t):LN (X.enter s t w):=by
 refine h.quiet rfl rfl rfl rfl rfl rfl (ah _) (λhl=>?_);have hl:(s.leads && !decide (s.term<t))=true:=hl;simp [ht] at hl
theorem LN.asked (h:LN s):LN (asked s m).2:=by
 unfold X.asked;split
 ·simp only;split
  ·split
   ·refine h.quiet rfl rfl rfl rfl rfl rfl (ah _) (λhl=>⟨?_,rfl,rfl,rfl⟩);have hl:(s.leads && !decide (s.term<s.term))=true:=hl;simpa using hl
   ·grind [h.quiet]
  ·exact h
 ·exact h
theorem LN.voted (h:LN s) (ho:s.own<s.n):LN (voted z e s m).2:=by
 unfold X.voted;split
 ·exact h
 ·have h1:LN { s with votes:=s.votes.set m.frm.toNat true }:=h.quiet rfl rfl rfl rfl (by show (s.votes.set _ _).length=_;rw [cW]) rfl (ah _) (λhl=>⟨hl,rfl,rfl,rfl⟩);simp only;split
  ·exact h1.lead ho
  ·exact h1
theorem rJ (p:Nat) (l:List (Int×ρ)):∀(j:Nat) (s:Nd ρ),(bE p l j s).2.next=s.next/\(bE p l j s).2.mat=s.mat/\(bE p l j s).2.votes=s.votes:=by
 induction l with
 | nil=>intro j s;exact ⟨rfl,rfl,rfl⟩
 | cons x l ih =>
  intro j s;obtain ⟨t,rec⟩:=x;unfold bE;split
  ·exact ih (j+1) s
  ·grind [place]
theorem LN.lays (h:LN s) (hN:m.N.getD 0 0<=s.term):LN (lays z s m).2:=by
 unfold X.lays;split
 ·exact h
 ·rename_i hb;split
  ·exact h
  ·have hl:s.leads=false:=by
    grind
   simp only;split
   ·obtain ⟨h1,h2,h3,h4,h5,h6,_,h8⟩:=iM (m.N.getD 1 0).toNat ((m.N.drop 4).zip m.B) 0 { s with ticks:=0 };obtain ⟨k1,k2,k3⟩:=rJ (m.N.getD 1 0).toNat ((m.N.drop 4).zip m.B) 0 { s with ticks:=0 };generalize bE (m.N.getD 1 0).toNat ((m.N.drop 4).zip m.B) 0 { s with ticks:=0 }=p at *;have hp:p.2.leads=false:=h5.trans hl;split
    ·obtain ⟨g1,g2,g3,g4,g5,g6,_,g8⟩:=gF (z:=z) p.2 (min (m.N.getD 3 0) (((m.N.getD 1 0).toNat+m.B.length:Nat):Int)).toNat;obtain ⟨_,_,_,_,_,a6,a7⟩:=ig (z:=z) (s:=p.2) (min (m.N.getD 3 0) (((m.N.getD 1 0).toNat+m.B.length:Nat):Int)).toNat;have a8:(X.agree z p.2 (min (m.N.getD 3 0) (((m.N.getD 1 0).toNat+m.B.length:Nat):Int)).toNat).votes=p.2.votes:=by unfold X.agree;split<;>rfl
     refine h.quiet (g2.trans h2) (g1.trans h1) (a6.trans k1) (a7.trans k2) (by rw [a8,k3]) (g8.trans h8) (by rw [g3,h3];exact ah _) (λhl=>?_);rw [g5,hp] at hl;cases hl
    ·refine h.quiet h2 h1 k1 k2 (by show p.2.votes.length=_;rw [k3]) h8 (by show s.clock<=p.2.clock;rw [h3];exact ah _) (λhl=>?_);have hl:p.2.leads=true:=hl;rw [hp] at hl;cases hl
   ·grind [h.quiet]
theorem LN.answered (h:LN s) (ho:s.own<s.n) (hf:m.frm.toNat<s.n/\m.frm.toNat≠s.own):LN (answered z s m).2:=by
 unfold X.answered;split
 ·exact h
 ·rename_i hy;simp only [aW,aV,be,not_or,ne_eq,da,dB,aR,Int.not_lt] at hy;obtain ⟨⟨⟨⟨hl,hy2⟩,hy3⟩,hy4⟩,hy5⟩:=hy;simp only;split
  ·split
   ·exact h
   ·refine ⟨by show (s.next.set _ _).length=s.n;rw [cW];exact h.nl,h.hl,h.ml,h.vl,λ_ j hj=>?_,h.ha,λ_=>h.lt hl,λ_=>?_⟩
    ·show s.mat.getD j 0<=(s.next.set _ _).getD j 0;rw [eg _ _ _ _ (by rw [h.nl];exact hf.1)];have:=h.mn hl j hj;split
     ·rename_i e;subst e;omega
     ·exact this
    ·have e1:∀nx,settleF { s with next:=nx } s.log.length=none:=λnx=>(jb s { s with next:=nx } rfl rfl rfl rfl rfl _).trans (h.qs hl).1;exact ⟨e1 _,(h.qs hl).2⟩
  ·split
   ·exact h
   ·rename_i hkm;have h1:LN (X.settle z { s with mat:=s.mat.set m.frm.toNat (m.N.getD 2 0).toNat,next:=s.next.set m.frm.toNat (max (m.N.getD 2 0).toNat (s.next.getD m.frm.toNat 0))}).2:=by
     refine LN.settle ho (by show (s.next.set _ _).length=s.n;rw [cW];exact h.nl) h.hl (by show (s.mat.set _ _).length=s.n;rw [cW];exact h.ml) h.vl (λj hj=>?_) h.ha (h.lt hl);show (s.mat.set _ _).getD j 0<=(s.next.set _ _).getD j 0;rw [eg _ _ _ _ (by rw [h.ml];exact hf.1),eg _ _ _ _ (by rw [h.nl];exact hf.1)];split
     ·omega
     ·exact h.mn hl j hj
    split
    ·exact h1
    ·split<;>exact h1
theorem LN.getIn (h:LN s) (ho:s.own<s.n) (hN:m.N.getD 0 0<=s.term) (hf:m.frm.toNat<s.n/\m.frm.toNat≠s.own):LN (getIn z e s m).2:=by
 unfold X.getIn;split
 ·exact h.asked
 ·split
  ·exact h.voted ho
  ·split
   ·exact h.lays hN
   ·split
    ·exact h.answered ho hf
    ·split
     ·split
      ·refine ⟨h.nl,by show (s.heard.set _ _).length=s.n;rw [cW];exact h.hl,h.ml,h.vl,h.mn,λj=>?_,h.lt,λhl=>?_⟩
       ·show 0<=((s.heard.set m.frm.toNat ((s.clock:Int),m.N.getD 1 0,m.N.getD 2 0)).getD j (0,0,0)).1/\_;rw [aK,kS];have h3:=h.ha j;rw [aK] at h3;split
        ·grind
        ·exact h3
       ·have e1:∀hh,settleF { s with heard:=hh } s.log.length=none:=λhh=>(jb s { s with heard:=hh } rfl rfl rfl rfl rfl _).trans (h.qs hl).1;exact ⟨e1 _,(h.qs hl).2⟩
      ·exact h
     ·exact h
theorem LN.get (h:LN s) (hi:s.own=i) (hn:s.n=n) (hin:i<n):LN (get z e s m).2:=by
 unfold X.get;split
 ·exact h
 ·rename_i hb;unfold nZ at hb;simp only [aW,aV,be,cH,not_or,ne_eq,da,aR] at hb;obtain ⟨⟨⟨⟨⟨⟨b1,b2⟩,b3⟩,b4⟩,b5⟩,b6⟩,b7⟩:=hb;split
  ·rename_i ht;exact (h.enter _ _ ht).getIn (by show s.own<s.n;omega) (aM _) (by show m.frm.toNat<s.n/\m.frm.toNat≠s.own;omega)
  ·grind [h.getIn]
end
structure Cs (ρ:Type) where
 nd:Nat->Nd ρ
 up:Nat->Bool
 q:List (Ms ρ)
 lo:Lg ρ
section
variable {ρ:Type} (z:ρ->Bool) (e:ρ)
def Cs.call (S:Cs ρ) (i:Nat) (r:List (Ms ρ)×Nd ρ):Cs ρ:=⟨λj=>if j=i then r.2 else S.nd j,S.up,S.q++r.1,S.lo⟩
def Cs.bring (S:Cs ρ) (m:Ms ρ):Cs ρ:=if S.up m.dst.toNat then S.call m.dst.toNat (X.get z e (S.nd m.dst.toNat) m) else S
def Cs.tick (S:Cs ρ) (i:Nat):Cs ρ:=if S.up i then S.call i (X.tick z e (S.nd i)) else S
def Cs.ticks (S:Cs ρ) (n:Nat):Cs ρ:=(List.range n).foldl (Cs.tick z e) S
def Cs.noq {ρ:Type} (S:Cs ρ):Cs ρ:=⟨S.nd,S.up,[],S.lo⟩
def Cs.dl (S:Cs ρ) (ms:List (Ms ρ)):Cs ρ:=ms.foldl (Cs.bring z e) S
def Cs.drain:Nat->Cs ρ->Cs ρ
 | 0,S=>S
 | f+1,S=>match S.q with
  | []=>S
  | m::q=>Cs.drain f (Cs.bring z e { S with q:=q } m)
structure Fm (n:Nat) (b:Int) (m:Ms ρ):Prop where
 f:∃i f:Nat,i<n/\f<n/\f≠i/\m.dst=(i:Int)/\m.frm=(f:Int)
 len:2<=m.N.length
 t0:0<=m.N.getD 0 0
 tb:m.N.getD 0 0<=b
structure WkG (n:Nat) (b:Int) (G:Gh ρ) (S:Cs ρ):Prop where
 gi:GI n G
 ni:∀i,i<n->NI z n G i (S.nd i)
 ln:∀i,i<n->LN (S.nd i)
 mi:∀m∈S.q,MI n G m/\Fm n b m
 up:∀i,S.up i=true->i<n
 tb:∀i,i<n->(S.nd i).term<=b
 lo:∃t,Agd n G t S.lo S.lo.length
def Wk (n:Nat) (b:Int) (S:Cs ρ):Prop:=∃G,WkG z n b G S
variable {z e}
variable {n i:Nat} {b b':Int} {S S':Cs ρ} {G:Gh ρ} {m:Ms ρ} {s:Nd ρ} {r:List (Ms ρ)×Nd ρ}
theorem Fm.mono (h:Fm n b m) (hb:b<=b'):Fm n b' m:=⟨h.f,h.len,h.t0,cS h.tb hb⟩
theorem Wk.mono (h:Wk z n b S) (hb:b<=b'):Wk z n b' S:=by
 obtain ⟨G,h⟩:=h;exact ⟨G,h.gi,h.ni,h.ln,λm hm=>⟨(h.mi m hm).1,(h.mi m hm).2.mono hb⟩,h.up,λi hi=>cS (h.tb i hi) hb,h.lo⟩
theorem WkG.call (h:WkG z n b G S) (hi:i<n) (hs:Stp z n i G r) (hl:LN r.2) (ht:r.2.term<=b) (hm:∀m∈r.1,Fm n b m):∃G',By i G G'/\WkG z n b G' (S.call i r):=by
 obtain ⟨G',h1,h2,h3,h4⟩:=hs;refine ⟨G',h1,h2,λj hj=>?_,λj hj=>?_,λm hx=>?_,h.up,λj hj=>?_,h.lo.elim λt g=>⟨t,g.mono h1.le (aM _)⟩⟩
 ·show NI z n G' j (if j=i then r.2 else S.nd j);by_cases e:j=i
  ·subst e;rw [ax rfl];exact h3
  ·rw [aw e];exact (h.ni j hj).other h.gi h1 e
 ·show LN (if j=i then r.2 else S.nd j);by_cases e:j=i
  ·rw [ax e];exact hl
  ·rw [aw e];exact h.ln j hj
 ·rcases av.1 hx with hx | hx
  ·exact ⟨(h.mi m hx).1.mono h1.le,(h.mi m hx).2⟩
  ·exact ⟨h4 m hx,hm m hx⟩
 ·show (if j=i then r.2 else S.nd j).term<=b;by_cases e:j=i
  ·rw [ax e];exact ht
  ·rw [aw e];exact h.tb j hj
theorem bi (S:Cs ρ) (i j:Nat) (r:List (Ms ρ)×Nd ρ):(S.call i r).nd j=if j=i then r.2 else S.nd j:=rfl
theorem Fm.fit (h:Fm n b m) (hb:b<=1099511627776) (h1:1<=m.N.getD 0 0):∃i,i<n/\m.dst=(i:Int)/\m.dst.toNat=i/\Fit i n m:=by
 obtain ⟨i,f,h2,h3,h4,h5,h6⟩:=h.f;exact ⟨i,h2,h5,by omega,h5,⟨f,h3,h6,h4⟩,h.len,h1,cS h.tb hb⟩
theorem ly (h:m.N.getD 0 0<1):X.get z e s m=([],s):=by
 unfold get nZ;rw [ax];simp only [aW,aR];exact .inl (.inr h)
theorem Bv (h:m.N.getD 0 0<=s.term):Got s m ([],s):=Got.of h rfl rfl rfl rfl .inl id (λx hx=>by cases hx) (.inl (by simp)) (.inl rfl)
theorem Wk.got (h:Wk z n b S) (hb:b<=1099511627776) (hf:Fm n b m):∃i,i<n/\m.dst=(i:Int)/\m.dst.toNat=i/\Got (S.nd i) m (X.get z e (S.nd i) m):=by
 obtain ⟨G,h⟩:=h;by_cases h1:1<=m.N.getD 0 0
 ·obtain ⟨i,h2,h3,h4,h5⟩:=hf.fit hb h1;exact ⟨i,h2,h3,h4,Bz (h.ni i h2).own (h.ni i h2).nn h2 h5⟩
 ·obtain ⟨i,f,h2,h3,h4,h5,h6⟩:=hf.f;have:=(h.ni i h2).t0;exact ⟨i,h2,h5,by omega,by rw [ly (by omega)];exact Bv (by omega)⟩
theorem zZ (h:Fm n b m):∃f:Nat,f<n/\m.frm=(f:Int):=by
 grind [h.f]
theorem BA (hi:s.own=i) (hn:s.n=n) (x:Ms ρ) (hx:x∈(X.get z e s m).1) (hf:Fm n b m) (hd:m.dst=(i:Int)):∃j:Nat,j<n/\j≠i/\x.dst=(j:Int):=by
 obtain ⟨i2,f,h2,h3,h4,h5,h6⟩:=hf.f;have hoth:∀(s1:Nd ρ) (g:Nat->Ms ρ),s1.own=i->s1.n=n->(∀d,(g d).dst=(d:Int))->∀y∈cT s1 g,∃j:Nat,j<n/\j≠i/\y.dst=(j:Int):=λs1 g o1 o2 o3 y hy=>by
  grind [cJ]
 have hrep:∀(s1:Nd ρ) (k:Int) (N:List Int),∃j:Nat,j<n/\j≠i/\(od s1 m.frm k N).dst=(j:Int):=λs1 k N=>⟨f,h3,by omega,h6⟩
 have hlead:∀s1:Nd ρ,s1.own=i->s1.n=n->∀y∈(lead z e s1).1,∃j:Nat,j<n/\j≠i/\y.dst=(j:Int):=λs1 o1 o2 y hy=>by
  have hl:=eC (z:=z) (e:=e) s1;rw [hl.ms] at hy;exact hoth _ _ (hl.own.trans o1) (hl.n.trans o2) (λd=>rfl) y hy
 have hin:∀s1:Nd ρ,s1.own=i->s1.n=n->∀y∈(getIn z e s1 m).1,∃j:Nat,j<n/\j≠i/\y.dst=(j:Int):=λs1 o1 o2 y hy=>by
  unfold getIn at hy;split at hy
  ·unfold asked at hy;split at hy
   ·simp only at hy;split at hy
    ·split at hy
     ·simp_all
     ·simp_all
    ·simp_all
   ·cases hy
  ·split at hy
   ·grind [voted]
   ·split at hy
    ·unfold lays at hy;split at hy
     ·cases hy
     ·split at hy
      ·simp_all
      ·simp only at hy;split at hy
       ·split at hy
        ·simp_all
        ·cases hy
       ·simp_all
    ·split at hy
     ·unfold answered at hy;split at hy
      ·cases hy
      ·simp only at hy;split at hy
       ·split at hy
        ·cases hy
        ·rw [aj.1 hy];exact ⟨f,h3,by omega,by show ((m.frm.toNat:Nat):Int)=_;omega⟩
       ·split at hy
        ·cases hy
        ·obtain ⟨g1,g2,_⟩:=dt (z:=z) (s:={ s1 with mat:=s1.mat.set m.frm.toNat (m.N.getD 2 0).toNat,next:=s1.next.set m.frm.toNat (max (m.N.getD 2 0).toNat (s1.next.getD m.frm.toNat 0))});split at hy
         ·exact hoth _ _ (g1.trans o1) (g2.trans o2) (λd=>rfl) y hy
         ·split at hy
          ·rw [aj.1 hy];exact ⟨f,h3,by omega,by show ((m.frm.toNat:Nat):Int)=_;omega⟩
          ·cases hy
     ·grind
 unfold X.get at hx;split at hx
 ·cases hx
 ·grind [enter]
theorem ie (S:Cs ρ) (m:Ms ρ):(S.bring z e m).up=S.up:=by unfold Cs.bring;split<;>rfl
theorem qb (S:Cs ρ) (m:Ms ρ):∃o,(S.bring z e m).q=S.q++o/\∀q,({ S with q:=q }:Cs ρ).bring z e m={ S.bring z e m with q:=q++o }:=by
 by_cases hu:S.up m.dst.toNat=true
 ·refine ⟨(X.get z e (S.nd m.dst.toNat) m).1,?_,λq=>?_⟩
  ·unfold Cs.bring;rw [ax hu];rfl
  ·unfold Cs.bring;rw [ax hu,ax hu];rfl
 ·refine ⟨[],?_,λq=>?_⟩
  ·unfold Cs.bring;rw [aw hu];simp
  ·grind [Cs.bring]
theorem sc (ms:List (Ms ρ)):∀(k:Nat) (S:Cs ρ) (r:List (Ms ρ)),S.q=ms++r->Cs.drain z e (ms.length+k) S=Cs.drain z e k (({ S with q:=r }:Cs ρ).dl z e ms):=by
 induction ms with
 | nil =>
  intro k S r h;obtain ⟨a,b,q,y⟩:=S;have h:q=r:=h;subst h;show Cs.drain z e (0+k) _=_;rw [dg];rfl
 | cons m ms ih =>
  intro k S r h;obtain ⟨a,b,q,y⟩:=S;have h:q=m::(ms++r):=h;subst h;show Cs.drain z e (ms.length+1+k) _=_;rw [show ms.length+1+k=(ms.length+k)+1 by omega];obtain ⟨o,h1,h2⟩:=qb (z:=z) (e:=e) ⟨a,b,[],y⟩ m;have e1:=h2 (ms++r);have e2:=h2 r;show Cs.drain z e (ms.length+k) (Cs.bring z e ⟨a,b,ms++r,y⟩ m)=Cs.drain z e k (Cs.dl z e (Cs.bring z e ⟨a,b,r,y⟩ m) ms);rw [ih k _ (r++o) (by rw [show (⟨a,b,ms++r,y⟩:Cs ρ)={ (⟨a,b,[],y⟩:Cs ρ) with q:=ms++r } from rfl,e1];simp)];rw [show (⟨a,b,ms++r,y⟩:Cs ρ)={ (⟨a,b,[],y⟩:Cs ρ) with q:=ms++r } from rfl,e1,show (⟨a,b,r,y⟩:Cs ρ)={ (⟨a,b,[],y⟩:Cs ρ) with q:=r } from rfl,e2]
end
section
variable {ρ:Type} {z:ρ->Bool} {e:ρ}
variable {n i:Nat} {b b':Int} {S S':Cs ρ} {G:Gh ρ} {m:Ms ρ} {s:Nd ρ} {r:List (Ms ρ)×Nd ρ} {ms:List (Ms ρ)}
def WkM (z:ρ->Bool) (ms:List (Ms ρ)) (n:Nat) (b:Int) (S:Cs ρ):Prop:=∃G,WkG z n b G S/\∀m∈ms,MI n G m/\Fm n b m
theorem WkM.wk (h:WkM z ms n b S):Wk z n b S:=h.elim λG h=>⟨G,h.1⟩
theorem Wk.wkm (h:Wk z n b S):WkM z S.q n b S.noq:=by
 obtain ⟨G,h⟩:=h;exact ⟨G,⟨h.gi,h.ni,h.ln,λm hm=>(by cases hm),h.up,h.tb,h.lo⟩,h.mi⟩
theorem WkM.take (h:WkM z ms n b S) (hb:b<=1099511627776) (hm:m∈ms):WkM z ms n b (S.bring z e m)/\∃i,i<n/\m.dst=(i:Int)/\Got (S.nd i) m (X.get z e (S.nd i) m)/\(S.up i=true->S.bring z e m=S.call i (X.get z e (S.nd i) m))/\(S.up i=false->S.bring z e m=S):=by
 obtain ⟨G,h,hms⟩:=h;have hmm:=hms m hm;obtain ⟨i,h1,h2,h3,h4⟩:=Wk.got (e:=e) ⟨G,h⟩ hb hmm.2;have e1:S.up i=true->S.bring z e m=S.call i (X.get z e (S.nd i) m):=λhu=>by unfold Cs.bring;rw [h3,ax hu]
 have e2:S.up i=false->S.bring z e m=S:=λhu=>by unfold Cs.bring;rw [h3,aw (by rw [hu];simp)]
 refine ⟨?_,i,h1,h2,h4,e1,e2⟩;cases hu:S.up i with
 | false=>rw [e2 hu];exact ⟨G,h,hms⟩
 | true =>
  rw [e1 hu];have hni:=h.ni i h1;have htb:=h.tb i h1;have hfb:=hmm.2.tb;have ht:(X.get z e (S.nd i) m).2.term<=b:=by have:=h4.top;omega
  obtain ⟨G',g1,g2⟩:=h.call (i:=i) h1 (CF (e:=e) h.gi hni hmm.1) ((h.ln i h1).get hni.own hni.nn h1) ht (λx hx=>by
   obtain ⟨o1,o2,o3,_⟩:=h4.out x hx;obtain ⟨j,d1,d2,d3⟩:=BA hni.own hni.nn x hx hmm.2 h2;have hup:=h4.up;have ht0:=hni.t0;exact ⟨⟨j,i,d1,h1,by omega,d3,by rw [o1,hni.own]⟩,o3,by rw [o2];omega,by rw [o2];exact ht⟩)
  exact ⟨G',g2,λx hx=>⟨(hms x hx).1.mono g1.le,(hms x hx).2⟩⟩
theorem eP {Inv:Cs ρ->Prop} (hs:∀S m,Inv S->m∈ms->Inv (S.bring z e m)) (h0:Inv S):Inv (S.dl z e ms):=by
 induction ms generalizing S with
 | nil=>exact h0
 | cons m ms ih=>exact ih (λS x h hx=>hs S x h (aI _ hx)) (hs S m h0 aP)
theorem nQ {Inv P:Cs ρ->Prop} (hm:m∈ms) (hs:∀S x,Inv S->x∈ms->Inv (S.bring z e x)) (he:∀S,Inv S->P (S.bring z e m)) (hp:∀S x,Inv S->x∈ms->P S->P (S.bring z e x)) (h0:Inv S):P (S.dl z e ms):=by
 induction ms generalizing S with
 | nil=>cases hm
 | cons x ms ih =>
  by_cases e1:m=x
  ·subst e1;have h1:=he S h0;have h2:=hs S m h0 aP;exact (eP (Inv:=λS=>Inv S/\P S) (λS y h hy=>⟨hs S y h.1 (aI _ hy),hp S y h.1 (aI _ hy) h.2⟩) ⟨h2,h1⟩).2
  ·have hm2:m∈ms:=by
    grind
   exact ih hm2 (λS y h hy=>hs S y h (aI _ hy)) (λS y h hy=>hp S y h (aI _ hy)) (hs S x h0 aP)
theorem WkM.mono (h:WkM z ms n b S) (hb:b<=1099511627776) (i:Nat):(S.nd i).term<=((S.dl z e ms).nd i).term/\((S.dl z e ms).nd i).clock=(S.nd i).clock/\(S.up i=false->(S.dl z e ms).nd i=S.nd i)/\(((S.dl z e ms).nd i).ticks=(S.nd i).ticks\/((S.dl z e ms).nd i).ticks=0):=by
 refine (eP (Inv:=λS'=>WkM z ms n b S'/\S'.up=S.up/\((S.nd i).term<=(S'.nd i).term/\(S'.nd i).clock=(S.nd i).clock/\(S.up i=false->S'.nd i=S.nd i)/\((S'.nd i).ticks=(S.nd i).ticks\/(S'.nd i).ticks=0))) (λS' m h' hm=>?_) ⟨h,rfl,aM _,rfl,λ_=>rfl,.inl rfl⟩).2.2;obtain ⟨h1,h2,h3,h4,h5,h6⟩:=h';obtain ⟨g1,j,g2,g3,g4,g5,g6⟩:=h1.take (e:=e) hb hm;refine ⟨g1,(ie _ _).trans h2,?_⟩;cases hu:S'.up j with
 | false=>rw [g6 hu];exact ⟨h3,h4,h5,h6⟩
 | true =>
  rw [g5 hu,bi];split
  ·rename_i e1;subst e1;refine ⟨cS h3 g4.up,g4.clock.trans h4,λh=>(by rw [<-h2,hu] at h;cases h),?_⟩;rcases g4.ticks with h7 | h7
   ·rw [h7];exact h6
   ·exact .inr h7
  ·exact ⟨h3,h4,h5,h6⟩
theorem dm (n:Nat) (S:Cs ρ):(∀i,((S.ticks z e n).nd i)=if i<n/\S.up i=true then (X.tick z e (S.nd i)).2 else S.nd i)/\(S.ticks z e n).up=S.up/\(∀x,x∈(S.ticks z e n).q↔x∈S.q\/∃i,i<n/\S.up i=true/\x∈(X.tick z e (S.nd i)).1):=by
 induction n with
 | zero =>
  refine ⟨λi=>by rw [aw (by omega)];rfl,rfl,λx=>⟨λh=>.inl h,λh=>?_⟩⟩;rcases h with h | ⟨i,h,_⟩
  ·exact h
  ·omega
 | succ n ih =>
  obtain ⟨h1,h2,h3⟩:=ih;have e0:S.ticks z e (n+1)=(S.ticks z e n).tick z e n:=by unfold Cs.ticks;rw [cE,cZ];rfl
  have hn:(S.ticks z e n).nd n=S.nd n:=by rw [h1,aw (by omega)]
  rw [e0];unfold Cs.tick;rw [h2,hn];by_cases hu:S.up n=true
  ·rw [ax hu];refine ⟨λi=>?_,h2,λx=>?_⟩
   ·grind [bi]
   ·show x∈(S.ticks z e n).q++_↔_;rw [av,h3];constructor
    ·grind
    ·grind
  ·grind
theorem dS (s:Nd ρ) :
  (s.leads=true/\X.tick z e s=(cT { s with clock:=s.clock+1 } (bI { s with clock:=s.clock+1 }),{ s with clock:=s.clock+1 })) \/
  (s.leads=false/\8<=s.ticks+1/\kN { s with clock:=s.clock+1,ticks:=s.ticks+1 }=true/\X.tick z e s=X.stand z e { s with clock:=s.clock+1,ticks:=s.ticks+1 }) \/
  (s.leads=false/\¬(8<=s.ticks+1/\kN { s with clock:=s.clock+1,ticks:=s.ticks+1 }=true)/\4<=s.ticks+1/\X.tick z e s=(cT { s with clock:=s.clock+1,ticks:=s.ticks+1 } (bf { s with clock:=s.clock+1,ticks:=s.ticks+1 } 5),{ s with clock:=s.clock+1,ticks:=s.ticks+1 })) \/
  (s.leads=false/\¬(8<=s.ticks+1/\kN { s with clock:=s.clock+1,ticks:=s.ticks+1 }=true)/\s.ticks+1<4/\X.tick z e s=([],{ s with clock:=s.clock+1,ticks:=s.ticks+1 })):=by
 unfold X.tick;simp only;cases hl:s.leads with
 | true=>exact .inl ⟨rfl,by rw [ax rfl]⟩
 | false =>
  right;rw [aw (by simp)];by_cases h1:8<=s.ticks+1/\kN { s with clock:=s.clock+1,ticks:=s.ticks+1 }=true
  ·grind
  ·grind
def dq (s:Nd ρ):Nd ρ:={ enter { s with clock:=s.clock+1,ticks:=s.ticks+1 } (s.term+1) (s.own:Int) with ticks:=0,votes:=(List.replicate s.n false).set s.own true }
theorem nh (k o:Nat) (h:o<k):(((List.replicate k false).set o true).filter id).length=1:=by
 have e:=iU ((List.replicate k false).set o true) id false;rw [e];have e2:∀j,j<k->(id (((List.replicate k false).set o true).getD j false))=(j==o):=λj hj=>by
  grind
 have e4:(List.range ((List.replicate k false).set o true).length).filter (λj=>id (((List.replicate k false).set o true).getD j false))=(List.range k).filter λj=>j==o:=by
  grind
 rw [e4];have e5:∀k,o<k->((List.range k).filter λj=>j==o).length=1:=by
  intro k;induction k with
  | zero=>intro h;omega
  | succ k ih =>
   intro h;rw [cE,cC,ay];by_cases e6:k=o
   ·grind [List.range,List.filter_eq_nil_iff,cX.1]
   ·grind
 exact e5 k h
theorem fB (ho:s.own<s.n) (ht:s.term<1099511627776):X.stand z e { s with clock:=s.clock+1,ticks:=s.ticks+1 }=if s.n=1 then lead z e (dq s) else (cT (dq s) (bf (dq s) 1),dq s):=by
 unfold X.stand;rw [aw (by show ¬(1099511627776<=s.term);omega)];have hc:gL (dq s)=decide (s.n=1):=by
  unfold gL dh;show decide (s.n<2*(((List.replicate s.n false).set s.own true).filter id).length)=_;rw [nh s.n s.own ho];by_cases h:s.n=1
  ·rw [h];rfl
  ·grind
 show (if gL (dq s) then lead z e (dq s) else (cT (dq s) (bf (dq s) 1),dq s))=_;rw [hc];by_cases h:s.n=1
 ·rw [ax h,ax (by simp [h])]
 ·rw [aw h,aw (by simp [h])]
end
end Go.Proofs.Ytnicaicjgaoolaa.X
