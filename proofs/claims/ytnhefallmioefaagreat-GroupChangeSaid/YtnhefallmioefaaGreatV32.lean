/-
  What the proof of the law leans on: contracts of the program's functions, one behind another. No condition.
-/
import Derived.Test.YtnhefallmioefaaGreatV0
import Derived.Test.YtnhefallmioefaaGreatV31
set_option linter.unusedVariables false
set_option linter.unusedSimpArgs false
namespace Go.Proofs.YtnhefallmioefaaGreat.X
section
variable {ρ:Type} {z:ρ->Bool} {e:ρ}
variable {n i:Nat} {s s':Nd ρ} {m:Ms ρ}
structure LN (s:Nd ρ):Prop where
 nl:s.next.length=s.n
 hl:s.heard.length=s.n
 ml:s.mat.length=s.n
 vl:s.votes.length=s.n
 mn:s.leads=true->∀j,j≠s.own->s.mat.getD j 0<=s.next.getD j 0
 ha:∀j,0<=(s.heard.getD j (0,0,0)).1/\(s.heard.getD j (0,0,0)).1<=(s.clock:Int)
 lt:s.leads=true->1<=s.log.length/\bF s.log s.log.length=s.term
 qs:s.leads=true->settleF s s.log.length=none/\s.mat.getD s.own 0=s.log.length
theorem iX (s s':Nd ρ) (h1:s'.log=s.log) (h2:s'.term=s.term) (h3:s'.mat=s.mat) (h4:s'.n=s.n) (h5:s'.agreed=s.agreed):∀k,settleF s' k=settleF s k:=by
 intro k;induction k with
 | zero=>rfl
 | succ k ih =>
  unfold settleF cZ;rw [h1,h2,h3,h4,h5,ih]
theorem pL (s s':Nd ρ) (h1:s'.log=s.log) (h2:s'.term=s.term) (h3:s'.mat=s.mat) (h4:s'.n=s.n):∀k r,settleF s k=some r->s'.agreed=r->settleF s' k=none:=by
 intro k;induction k with
 | zero=>intro r e;simp [settleF] at e
 | succ k ih =>
  intro r e h5;have hr:=iW s (k+1) r e;unfold settleF at e ⊢;split at e
  ·grind [bW,cZ,eI]
  ·cases e
theorem pK (s:Nd ρ):settleF (X.settle z s).2 s.log.length=none:=by
 unfold X.settle;split
 ·rename_i k hk;obtain ⟨k1,k2,k3,k4⟩:=iW _ _ _ hk;have k2:s.agreed<k:=k2;obtain ⟨a1,a2,a3,a4,a5,a6,a7⟩:=gT (z:=z) (s:={ s with mat:=s.mat.set s.own s.log.length }) k;refine pL _ _ a1 a2 a7 a5 _ k hk ?_;unfold X.agree;rw [aA k2]
 ·rename_i hk;exact hk
theorem nS (l:List Nat) (a b v:Nat) (h:a<l.length):(l.set a v).getD b 0=if b=a then v else l.getD b 0:=by
 grind
theorem nf {α:Type} (k j:Nat) (a d:α):(List.replicate k a).getD j d=if j<k then a else d:=by
 grind
theorem LN.settle (ho:s.own<s.n) (h1:s.next.length=s.n) (h2:s.heard.length=s.n) (h3:s.mat.length=s.n) (h4:s.votes.length=s.n) (h5:∀j,j≠s.own->s.mat.getD j 0<=s.next.getD j 0) (h6:∀j,0<=(s.heard.getD j (0,0,0)).1/\(s.heard.getD j (0,0,0)).1<=(s.clock:Int)) (h7:1<=s.log.length/\bF s.log s.log.length=s.term):LN (X.settle z s).2:=by
 obtain ⟨g1,g2,g3,g4,g5,g6,g7,g8,g9,g10,g11,g12,g13⟩:=eW (z:=z) (s:=s);refine ⟨by rw [g9,g2];exact h1,by rw [g10,g2];exact h2,by rw [g13,g2,dU];exact h3,by rw [g11,g2];exact h4,λ_ j hj=>?_,λj=>by rw [g10,g3];exact h6 j,λ_=>by rw [g8,g6];exact h7,λ_=>⟨by rw [g8];exact pK s,?_⟩⟩
 ·grind
 ·grind
theorem LN.quiet (h:LN s) (h1:s'.n=s.n) (h2:s'.own=s.own) (h3:s'.next=s.next) (h4:s'.mat=s.mat) (h5:s'.votes.length=s.votes.length) (h6:s'.heard=s.heard) (h7:s.clock<=s'.clock) (h8:s'.leads=true->s.leads=true/\s'.log=s.log/\s'.term=s.term/\s'.agreed=s.agreed):LN s':=by
 refine ⟨by rw [h3,h1];exact h.nl,by rw [h6,h1];exact h.hl,by rw [h4,h1];exact h.ml,by rw [h5,h1];exact h.vl,λe j hj=>?_,λj=>?_,λe=>?_,λe=>?_⟩
 ·rw [h4,h3];exact h.mn (h8 e).1 j (by rw [<-h2];exact hj)
 ·rw [h6];have:=h.ha j;exact ⟨this.1,by omega⟩
 ·obtain ⟨a,b,c,_⟩:=h8 e;rw [b,c];exact h.lt a
 ·obtain ⟨a,b,c,d⟩:=h8 e;rw [b,h4,h2,iX s s' b c h4 h1 d];exact h.qs a
theorem LN.lead (h:LN s) (ho:s.own<s.n):LN (lead z e s).2:=by
 refine LN.settle ho (by show (List.replicate s.n s.log.length).length=s.n;simp) h.hl (by show (List.replicate s.n 0).length=s.n;simp) h.vl (λj _=>?_) h.ha ?_
 ·show (List.replicate s.n 0).getD j 0<=_;rw [nf];split<;>exact aH _
 ·show 1<=(s.log.take s.log.length++[(s.term,e)]).length/\bF (s.log.take s.log.length++[(s.term,e)]) (s.log.take s.log.length++[(s.term,e)]).length=s.term;rw [cK];refine ⟨by simp,?_⟩;have e1:(s.log++[(s.term,e)]).length=s.log.length+1:=by simp
  rw [e1,jd];simp
theorem LN.stand (h:LN s) (ho:s.own<s.n):LN (stand z e s).2:=by
 unfold X.stand;split
 ·exact h
 ·have h1:LN { enter s (s.term+1) (s.own:Int) with ticks:=0,votes:=(List.replicate s.n false).set s.own true }:=by
   refine h.quiet rfl rfl rfl rfl (by show ((List.replicate s.n false).set s.own true).length=_;rw [h.vl];simp) rfl (ah _) (λhl=>?_);have hl:(s.leads && !decide (s.term<s.term+1))=true:=hl;simp at hl;omega
  simp only;split
  ·exact h1.lead ho
  ·exact h1
theorem LN.tick (h:LN s) (ho:s.own<s.n):LN (tick z e s).2:=by
 have h1:LN { s with clock:=s.clock+1 }:=h.quiet rfl rfl rfl rfl rfl rfl (cf _) (λhl=>⟨hl,rfl,rfl,rfl⟩);have h2:LN { s with clock:=s.clock+1,ticks:=s.ticks+1 }:=h.quiet rfl rfl rfl rfl rfl rfl (cf _) (λhl=>⟨hl,rfl,rfl,rfl⟩);unfold X.tick;simp only;split
 ·exact h1
 ·grind [h2.stand]
theorem LN.submit (h:LN s) (ho:s.own<s.n) (x:ρ):LN (submit z s x).2.2:=by
 unfold X.submit;split
 ·exact h
 ·rename_i hl;have hl:s.leads=true:=by simpa using hl
  split
  ·exact h
  ·refine LN.settle ho h.nl h.hl h.ml h.vl (λj hj=>h.mn hl j hj) h.ha ?_;show 1<=(s.log.take s.log.length++[(s.term,x)]).length/\bF (s.log.take s.log.length++[(s.term,x)]) (s.log.take s.log.length++[(s.term,x)]).length=s.term;rw [cK];refine ⟨by simp,?_⟩;have e1:(s.log++[(s.term,x)]).length=s.log.length+1:=by simp
   rw [e1,jd];simp
theorem LN.back:LN (X.back s):=by
 refine ⟨by show (List.replicate s.n 0).length=s.n;simp,by show (List.replicate s.n (0,0,0)).length=s.n;simp,by show (List.replicate s.n 0).length=s.n;simp,by show (List.replicate s.n false).length=s.n;simp,λh=>(by cases h),λj=>?_,λh=>(by cases h),λh=>(by cases h)⟩;show 0<=((List.replicate s.n (0,0,0)).getD j (0,0,0)).1/\((List.replicate s.n (0,0,0)).getD j (0,0,0)).1<=((0:Nat):Int);rw [nf];split<;>simp
theorem LN.new (i n:Nat):LN (X.new i n:Nd ρ):=by
 refine ⟨by show (List.replicate n 0).length=n;simp,by show (List.replicate n (0,0,0)).length=n;simp,by show (List.replicate n 0).length=n;simp,by show (List.replicate n false).length=n;simp,λh=>(by cases h),λj=>?_,λh=>(by cases h),λh=>(by cases h)⟩;show 0<=((List.replicate n (0,0,0)).getD j (0,0,0)).1/\((List.replicate n (0,0,0)).getD j (0,0,0)).1<=((0:Nat):Int);rw [nf];split<;>simp
theorem LN.enter (h:LN s) (t w:Int) (ht:s.term<t):LN (X.enter s t w):=by
 refine h.quiet rfl rfl rfl rfl rfl rfl (ah _) (λhl=>?_);have hl:(s.leads && !decide (s.term<t))=true:=hl;simp [ht] at hl
theorem LN.asked (h:LN s):LN (asked s m).2:=by
 unfold X.asked;split
 ·simp only;split
  ·split
   ·refine h.quiet rfl rfl rfl rfl rfl rfl (ah _) (λhl=>⟨?_,rfl,rfl,rfl⟩);have hl:(s.leads && !decide (s.term<s.term))=true:=hl;simpa using hl
   ·grind [h.quiet]
  ·exact h
 ·exact h
theorem LN.voted (h:LN s) (ho:s.own<s.n):LN (voted z e s m).2:=by
 unfold X.voted;split
 ·exact h
 ·have h1:LN { s with votes:=s.votes.set m.frm.toNat true }:=h.quiet rfl rfl rfl rfl (by show (s.votes.set _ _).length=_;rw [dU]) rfl (ah _) (λhl=>⟨hl,rfl,rfl,rfl⟩);simp only;split
  ·exact h1.lead ho
  ·exact h1
theorem zj (p:Nat) (l:List (Int×ρ)):∀(j:Nat) (s:Nd ρ),(bE p l j s).2.next=s.next/\(bE p l j s).2.mat=s.mat/\(bE p l j s).2.votes=s.votes:=by
 induction l with
 | nil=>intro j s;exact ⟨rfl,rfl,rfl⟩
 | cons x l ih =>
  intro j s;obtain ⟨t,rec⟩:=x;unfold bE;split
  ·exact ih (j+1) s
  ·grind [place]
theorem LN.lays (h:LN s) (hN:m.N.getD 0 0<=s.term):LN (lays z s m).2:=by
 unfold X.lays;split
 ·exact h
 ·rename_i hb;split
  ·exact h
  ·have hl:s.leads=false:=by
    grind
   simp only;split
   ·obtain ⟨h1,h2,h3,h4,h5,h6,_,h8⟩:=nF (m.N.getD 1 0).toNat ((m.N.drop 4).zip m.B) 0 { s with ticks:=0 };obtain ⟨k1,k2,k3⟩:=zj (m.N.getD 1 0).toNat ((m.N.drop 4).zip m.B) 0 { s with ticks:=0 };generalize bE (m.N.getD 1 0).toNat ((m.N.drop 4).zip m.B) 0 { s with ticks:=0 }=p at *;have hp:p.2.leads=false:=h5.trans hl;split
    ·obtain ⟨g1,g2,g3,g4,g5,g6,_,g8⟩:=oh (z:=z) p.2 (min (m.N.getD 3 0) (((m.N.getD 1 0).toNat+m.B.length:Nat):Int)).toNat;obtain ⟨_,_,_,_,_,a6,a7⟩:=gT (z:=z) (s:=p.2) (min (m.N.getD 3 0) (((m.N.getD 1 0).toNat+m.B.length:Nat):Int)).toNat;have a8:(X.agree z p.2 (min (m.N.getD 3 0) (((m.N.getD 1 0).toNat+m.B.length:Nat):Int)).toNat).votes=p.2.votes:=by unfold X.agree;split<;>rfl
     refine h.quiet (g2.trans h2) (g1.trans h1) (a6.trans k1) (a7.trans k2) (by rw [a8,k3]) (g8.trans h8) (by rw [g3,h3];exact ah _) (λhl=>?_);rw [g5,hp] at hl;cases hl
    ·refine h.quiet h2 h1 k1 k2 (by show p.2.votes.length=_;rw [k3]) h8 (by show s.clock<=p.2.clock;rw [h3];exact ah _) (λhl=>?_);have hl:p.2.leads=true:=hl;rw [hp] at hl;cases hl
   ·grind [h.quiet]
theorem LN.answered (h:LN s) (ho:s.own<s.n) (hf:m.frm.toNat<s.n/\m.frm.toNat≠s.own):LN (answered z s m).2:=by
 unfold X.answered;split
 ·exact h
 ·rename_i hy;simp only [bG,bL,bX,not_or,ne_eq,dN,eR,bC,Int.not_lt] at hy;obtain ⟨⟨⟨⟨hl,hy2⟩,hy3⟩,hy4⟩,hy5⟩:=hy;simp only;split
  ·split
   ·exact h
   ·refine ⟨by show (s.next.set _ _).length=s.n;rw [dU];exact h.nl,h.hl,h.ml,h.vl,λ_ j hj=>?_,h.ha,λ_=>h.lt hl,λ_=>?_⟩
    ·show s.mat.getD j 0<=(s.next.set _ _).getD j 0;rw [nS _ _ _ _ (by rw [h.nl];exact hf.1)];have:=h.mn hl j hj;split
     ·rename_i e;subst e;omega
     ·exact this
    ·have e1:∀nx,settleF { s with next:=nx } s.log.length=none:=λnx=>(iX s { s with next:=nx } rfl rfl rfl rfl rfl _).trans (h.qs hl).1;exact ⟨e1 _,(h.qs hl).2⟩
  ·split
   ·exact h
   ·rename_i hkm;have h1:LN (X.settle z { s with mat:=s.mat.set m.frm.toNat (m.N.getD 2 0).toNat,next:=s.next.set m.frm.toNat (max (m.N.getD 2 0).toNat (s.next.getD m.frm.toNat 0))}).2:=by
     refine LN.settle ho (by show (s.next.set _ _).length=s.n;rw [dU];exact h.nl) h.hl (by show (s.mat.set _ _).length=s.n;rw [dU];exact h.ml) h.vl (λj hj=>?_) h.ha (h.lt hl);show (s.mat.set _ _).getD j 0<=(s.next.set _ _).getD j 0;rw [nS _ _ _ _ (by rw [h.ml];exact hf.1),nS _ _ _ _ (by rw [h.nl];exact hf.1)];split
     ·omega
     ·exact h.mn hl j hj
    split
    ·exact h1
    ·split<;>exact h1
theorem LN.getIn (h:LN s) (ho:s.own<s.n) (hN:m.N.getD 0 0<=s.term) (hf:m.frm.toNat<s.n/\m.frm.toNat≠s.own):LN (getIn z e s m).2:=by
 unfold X.getIn;split
 ·exact h.asked
 ·split
  ·exact h.voted ho
  ·split
   ·exact h.lays hN
   ·split
    ·exact h.answered ho hf
    ·split
     ·split
      ·refine ⟨h.nl,by show (s.heard.set _ _).length=s.n;rw [dU];exact h.hl,h.ml,h.vl,h.mn,λj=>?_,h.lt,λhl=>?_⟩
       ·show 0<=((s.heard.set m.frm.toNat ((s.clock:Int),m.N.getD 1 0,m.N.getD 2 0)).getD j (0,0,0)).1/\_;rw [aF,hC];have h3:=h.ha j;rw [aF] at h3;split
        ·grind
        ·exact h3
       ·have e1:∀hh,settleF { s with heard:=hh } s.log.length=none:=λhh=>(iX s { s with heard:=hh } rfl rfl rfl rfl rfl _).trans (h.qs hl).1;exact ⟨e1 _,(h.qs hl).2⟩
      ·exact h
     ·exact h
theorem LN.get (h:LN s) (hi:s.own=i) (hn:s.n=n) (hin:i<n):LN (get z e s m).2:=by
 unfold X.get;split
 ·exact h
 ·rename_i hb;unfold oE at hb;simp only [bG,bL,bX,ez,not_or,ne_eq,dN,bC] at hb;obtain ⟨⟨⟨⟨⟨⟨b1,b2⟩,b3⟩,b4⟩,b5⟩,b6⟩,b7⟩:=hb;split
  ·rename_i ht;exact (h.enter _ _ ht).getIn (by show s.own<s.n;omega) (aX _) (by show m.frm.toNat<s.n/\m.frm.toNat≠s.own;omega)
  ·grind [h.getIn]
end
structure Cs (ρ:Type) where
 nd:Nat->Nd ρ
 up:Nat->Bool
 q:List (Ms ρ)
 lo:Lg ρ
section
variable {ρ:Type} (z:ρ->Bool) (e:ρ)
def Cs.call (S:Cs ρ) (i:Nat) (r:List (Ms ρ)×Nd ρ):Cs ρ:=⟨λj=>if j=i then r.2 else S.nd j,S.up,S.q++r.1,S.lo⟩
def Cs.bring (S:Cs ρ) (m:Ms ρ):Cs ρ:=if S.up m.dst.toNat then S.call m.dst.toNat (X.get z e (S.nd m.dst.toNat) m) else S
def Cs.tick (S:Cs ρ) (i:Nat):Cs ρ:=if S.up i then S.call i (X.tick z e (S.nd i)) else S
structure Fm (n:Nat) (b:Int) (m:Ms ρ):Prop where
 f:∃i f:Nat,i<n/\f<n/\f≠i/\m.dst=(i:Int)/\m.frm=(f:Int)
 len:2<=m.N.length
 t0:0<=m.N.getD 0 0
 tb:m.N.getD 0 0<=b
structure WkG (n:Nat) (b:Int) (G:Gh ρ) (S:Cs ρ):Prop where
 gi:GI n G
 ni:∀i,i<n->NI z n G i (S.nd i)
 ln:∀i,i<n->LN (S.nd i)
 mi:∀m∈S.q,MI n G m/\Fm n b m
 up:∀i,S.up i=true->i<n
 tb:∀i,i<n->(S.nd i).term<=b
 lo:∃t,Agd n G t S.lo S.lo.length
def Wk (n:Nat) (b:Int) (S:Cs ρ):Prop:=∃G,WkG z n b G S
variable {z e}
variable {n i:Nat} {b b':Int} {S S':Cs ρ} {G:Gh ρ} {m:Ms ρ} {s:Nd ρ} {r:List (Ms ρ)×Nd ρ}
theorem Fm.mono (h:Fm n b m) (hb:b<=b'):Fm n b' m:=⟨h.f,h.len,h.t0,fO h.tb hb⟩
theorem Wk.mono (h:Wk z n b S) (hb:b<=b'):Wk z n b' S:=by
 obtain ⟨G,h⟩:=h;exact ⟨G,h.gi,h.ni,h.ln,λm hm=>⟨(h.mi m hm).1,(h.mi m hm).2.mono hb⟩,h.up,λi hi=>fO (h.tb i hi) hb,h.lo⟩
theorem WkG.call (h:WkG z n b G S) (hi:i<n) (hs:Stp z n i G r) (hl:LN r.2) (ht:r.2.term<=b) (hm:∀m∈r.1,Fm n b m):∃G',By i G G'/\WkG z n b G' (S.call i r):=by
 obtain ⟨G',h1,h2,h3,h4⟩:=hs;refine ⟨G',h1,h2,λj hj=>?_,λj hj=>?_,λm hx=>?_,h.up,λj hj=>?_,h.lo.elim λt g=>⟨t,g.mono h1.le (aX _)⟩⟩
 ·show NI z n G' j (if j=i then r.2 else S.nd j);by_cases e:j=i
  ·subst e;rw [aA rfl];exact h3
  ·rw [aw e];exact (h.ni j hj).other h.gi h1 e
 ·show LN (if j=i then r.2 else S.nd j);by_cases e:j=i
  ·rw [aA e];exact hl
  ·rw [aw e];exact h.ln j hj
 ·rcases ap.1 hx with hx | hx
  ·exact ⟨(h.mi m hx).1.mono h1.le,(h.mi m hx).2⟩
  ·exact ⟨h4 m hx,hm m hx⟩
 ·show (if j=i then r.2 else S.nd j).term<=b;by_cases e:j=i
  ·rw [aA e];exact ht
  ·rw [aw e];exact h.tb j hj
theorem jS (S:Cs ρ) (i j:Nat) (r:List (Ms ρ)×Nd ρ):(S.call i r).nd j=if j=i then r.2 else S.nd j:=rfl
theorem Fm.fit (h:Fm n b m) (hb:b<=1099511627776) (h1:1<=m.N.getD 0 0):∃i,i<n/\m.dst=(i:Int)/\m.dst.toNat=i/\Fit i n m:=by
 obtain ⟨i,f,h2,h3,h4,h5,h6⟩:=h.f;exact ⟨i,h2,h5,by omega,h5,⟨f,h3,h6,h4⟩,h.len,h1,fO h.tb hb⟩
theorem zM (h:m.N.getD 0 0<1):X.get z e s m=([],s):=by
 unfold get oE;rw [aA];simp only [bG,bC];exact .inl (.inr h)
theorem Bz (h:m.N.getD 0 0<=s.term):Got s m ([],s):=Got.of h rfl rfl rfl rfl .inl id (λx hx=>by cases hx) (.inl (by simp)) (.inl rfl)
theorem Wk.got (h:Wk z n b S) (hb:b<=1099511627776) (hf:Fm n b m):∃i,i<n/\m.dst=(i:Int)/\m.dst.toNat=i/\Got (S.nd i) m (X.get z e (S.nd i) m):=by
 obtain ⟨G,h⟩:=h;by_cases h1:1<=m.N.getD 0 0
 ·obtain ⟨i,h2,h3,h4,h5⟩:=hf.fit hb h1;exact ⟨i,h2,h3,h4,BD (h.ni i h2).own (h.ni i h2).nn h2 h5⟩
 ·obtain ⟨i,f,h2,h3,h4,h5,h6⟩:=hf.f;have:=(h.ni i h2).t0;exact ⟨i,h2,h5,by omega,by rw [zM (by omega)];exact Bz (by omega)⟩
theorem BE (hi:s.own=i) (hn:s.n=n) (x:Ms ρ) (hx:x∈(X.get z e s m).1) (hf:Fm n b m) (hd:m.dst=(i:Int)):∃j:Nat,j<n/\j≠i/\x.dst=(j:Int):=by
 obtain ⟨i2,f,h2,h3,h4,h5,h6⟩:=hf.f;have hoth:∀(s1:Nd ρ) (g:Nat->Ms ρ),s1.own=i->s1.n=n->(∀d,(g d).dst=(d:Int))->∀y∈dz s1 g,∃j:Nat,j<n/\j≠i/\y.dst=(j:Int):=λs1 g o1 o2 o3 y hy=>by
  grind [dp]
 have hrep:∀(s1:Nd ρ) (k:Int) (N:List Int),∃j:Nat,j<n/\j≠i/\(say s1 m.frm k N).dst=(j:Int):=λs1 k N=>⟨f,h3,by omega,h6⟩
 have hlead:∀s1:Nd ρ,s1.own=i->s1.n=n->∀y∈(lead z e s1).1,∃j:Nat,j<n/\j≠i/\y.dst=(j:Int):=λs1 o1 o2 y hy=>by
  have hl:=ie (z:=z) (e:=e) s1;rw [hl.ms] at hy;exact hoth _ _ (hl.own.trans o1) (hl.n.trans o2) (λd=>rfl) y hy
 have hin:∀s1:Nd ρ,s1.own=i->s1.n=n->∀y∈(getIn z e s1 m).1,∃j:Nat,j<n/\j≠i/\y.dst=(j:Int):=λs1 o1 o2 y hy=>by
  unfold getIn at hy;split at hy
  ·unfold asked at hy;split at hy
   ·simp only at hy;split at hy
    ·split at hy
     ·simp_all
     ·simp_all
    ·simp_all
   ·cases hy
  ·split at hy
   ·grind [voted]
   ·split at hy
    ·unfold lays at hy;split at hy
     ·cases hy
     ·split at hy
      ·simp_all
      ·simp only at hy;split at hy
       ·split at hy
        ·simp_all
        ·cases hy
       ·simp_all
    ·split at hy
     ·unfold answered at hy;split at hy
      ·cases hy
      ·simp only at hy;split at hy
       ·split at hy
        ·cases hy
        ·rw [aj.1 hy];exact ⟨f,h3,by omega,by show ((m.frm.toNat:Nat):Int)=_;omega⟩
       ·split at hy
        ·cases hy
        ·obtain ⟨g1,g2,_⟩:=eW (z:=z) (s:={ s1 with mat:=s1.mat.set m.frm.toNat (m.N.getD 2 0).toNat,next:=s1.next.set m.frm.toNat (max (m.N.getD 2 0).toNat (s1.next.getD m.frm.toNat 0))});split at hy
         ·exact hoth _ _ (g1.trans o1) (g2.trans o2) (λd=>rfl) y hy
         ·split at hy
          ·rw [aj.1 hy];exact ⟨f,h3,by omega,by show ((m.frm.toNat:Nat):Int)=_;omega⟩
          ·cases hy
     ·grind
 unfold X.get at hx;split at hx
 ·cases hx
 ·grind [enter]
end
section
variable {ρ:Type} {z:ρ->Bool} {e:ρ}
variable {n i:Nat} {b b':Int} {S S':Cs ρ} {G:Gh ρ} {m:Ms ρ} {s:Nd ρ} {r:List (Ms ρ)×Nd ρ} {ms:List (Ms ρ)}
def WkM (z:ρ->Bool) (ms:List (Ms ρ)) (n:Nat) (b:Int) (S:Cs ρ):Prop:=∃G,WkG z n b G S/\∀m∈ms,MI n G m/\Fm n b m
theorem WkM.wk (h:WkM z ms n b S):Wk z n b S:=h.elim λG h=>⟨G,h.1⟩
theorem WkM.take (h:WkM z ms n b S) (hb:b<=1099511627776) (hm:m∈ms):WkM z ms n b (S.bring z e m)/\∃i,i<n/\m.dst=(i:Int)/\Got (S.nd i) m (X.get z e (S.nd i) m)/\(S.up i=true->S.bring z e m=S.call i (X.get z e (S.nd i) m))/\(S.up i=false->S.bring z e m=S):=by
 obtain ⟨G,h,hms⟩:=h;have hmm:=hms m hm;obtain ⟨i,h1,h2,h3,h4⟩:=Wk.got (e:=e) ⟨G,h⟩ hb hmm.2;have e1:S.up i=true->S.bring z e m=S.call i (X.get z e (S.nd i) m):=λhu=>by unfold Cs.bring;rw [h3,aA hu]
 have e2:S.up i=false->S.bring z e m=S:=λhu=>by unfold Cs.bring;rw [h3,aw (by rw [hu];simp)]
 refine ⟨?_,i,h1,h2,h4,e1,e2⟩;cases hu:S.up i with
 | false=>rw [e2 hu];exact ⟨G,h,hms⟩
 | true =>
  rw [e1 hu];have hni:=h.ni i h1;have htb:=h.tb i h1;have hfb:=hmm.2.tb;have ht:(X.get z e (S.nd i) m).2.term<=b:=by have:=h4.top;omega
  obtain ⟨G',g1,g2⟩:=h.call (i:=i) h1 (CJ (e:=e) h.gi hni hmm.1) ((h.ln i h1).get hni.own hni.nn h1) ht (λx hx=>by
   obtain ⟨o1,o2,o3,_⟩:=h4.out x hx;obtain ⟨j,d1,d2,d3⟩:=BE hni.own hni.nn x hx hmm.2 h2;have hup:=h4.up;have ht0:=hni.t0;exact ⟨⟨j,i,d1,h1,by omega,d3,by rw [o1,hni.own]⟩,o3,by rw [o2];omega,by rw [o2];exact ht⟩)
  exact ⟨G',g2,λx hx=>⟨(hms x hx).1.mono g1.le,(hms x hx).2⟩⟩
theorem iP (s:Nd ρ) :
  (s.leads=true/\X.tick z e s=(dz { s with clock:=s.clock+1 } (cO { s with clock:=s.clock+1 }),{ s with clock:=s.clock+1 })) \/
  (s.leads=false/\8<=s.ticks+1/\ud { s with clock:=s.clock+1,ticks:=s.ticks+1 }=true/\X.tick z e s=X.stand z e { s with clock:=s.clock+1,ticks:=s.ticks+1 }) \/
  (s.leads=false/\¬(8<=s.ticks+1/\ud { s with clock:=s.clock+1,ticks:=s.ticks+1 }=true)/\4<=s.ticks+1/\X.tick z e s=(dz { s with clock:=s.clock+1,ticks:=s.ticks+1 } (bp { s with clock:=s.clock+1,ticks:=s.ticks+1 } 5),{ s with clock:=s.clock+1,ticks:=s.ticks+1 })) \/
  (s.leads=false/\¬(8<=s.ticks+1/\ud { s with clock:=s.clock+1,ticks:=s.ticks+1 }=true)/\s.ticks+1<4/\X.tick z e s=([],{ s with clock:=s.clock+1,ticks:=s.ticks+1 })):=by
 unfold X.tick;simp only;cases hl:s.leads with
 | true=>exact .inl ⟨rfl,by rw [aA rfl]⟩
 | false =>
  right;rw [aw (by simp)];by_cases h1:8<=s.ticks+1/\ud { s with clock:=s.clock+1,ticks:=s.ticks+1 }=true
  ·grind
  ·grind
def fB (s:Nd ρ):Nd ρ:={ enter { s with clock:=s.clock+1,ticks:=s.ticks+1 } (s.term+1) (s.own:Int) with ticks:=0,votes:=(List.replicate s.n false).set s.own true }
theorem sX (k o:Nat) (h:o<k):(((List.replicate k false).set o true).filter id).length=1:=by
 have e:=lV ((List.replicate k false).set o true) id false;rw [e];have e2:∀j,j<k->(id (((List.replicate k false).set o true).getD j false))=(j==o):=λj hj=>by
  grind
 have e4:(List.range ((List.replicate k false).set o true).length).filter (λj=>id (((List.replicate k false).set o true).getD j false))=(List.range k).filter λj=>j==o:=by
  grind
 rw [e4];have e5:∀k,o<k->((List.range k).filter λj=>j==o).length=1:=by
  intro k;induction k with
  | zero=>intro h;omega
  | succ k ih =>
   intro h;rw [dT,cT,ay];by_cases e6:k=o
   ·grind [List.range,List.filter_eq_nil_iff,cW.1]
   ·grind
 exact e5 k h
theorem kJ (ho:s.own<s.n) (ht:s.term<1099511627776):X.stand z e { s with clock:=s.clock+1,ticks:=s.ticks+1 }=if s.n=1 then lead z e (fB s) else (dz (fB s) (bp (fB s) 1),fB s):=by
 unfold X.stand;rw [aw (by show ¬(1099511627776<=s.term);omega)];have hc:jf (fB s)=decide (s.n=1):=by
  unfold jf cZ;show decide (s.n<2*(((List.replicate s.n false).set s.own true).filter id).length)=_;rw [sX s.n s.own ho];by_cases h:s.n=1
  ·rw [h];rfl
  ·grind
 show (if jf (fB s) then lead z e (fB s) else (dz (fB s) (bp (fB s) 1),fB s))=_;rw [hc];by_cases h:s.n=1
 ·rw [aA h,aA (by simp [h])]
 ·rw [aw h,aw (by simp [h])]
end
section
variable {ρ:Type} {z:ρ->Bool} {e:ρ}
variable {n i:Nat} {b b' M:Int} {S S':Cs ρ} {G:Gh ρ} {m:Ms ρ} {s:Nd ρ} {r:List (Ms ρ)×Nd ρ} {ms:List (Ms ρ)}
structure Tk (s:Nd ρ) (r:List (Ms ρ)×Nd ρ):Prop where
 own:r.2.own=s.own
 n:r.2.n=s.n
 clock:r.2.clock=s.clock+1
 term:r.2.term=s.term\/r.2.term=s.term+1
 out:∀x∈r.1,x.frm=(s.own:Int)/\x.N.getD 0 0=r.2.term/\2<=x.N.length/\(∃d:Nat,d<s.n/\d≠s.own/\x.dst=(d:Int)) /\
  ((x.kind=1/\x.N.length=3/\r.2.term=s.term+1/\r.2.leads=false)\/(x.kind=3/\r.2.leads=true)\/(x.kind=5/\r.2.leads=false))
 lead:r.2.leads=true->∀d,d<s.n->d≠s.own->∃x∈r.1,x.dst=(d:Int)/\x.kind=3
 cand:r.2.term=s.term+1->∀d,d<s.n->d≠s.own->∃x∈r.1,x.dst=(d:Int)/\x.kind=1/\x.N.length=3
 num:r.1.length+1<=s.n
 cnt:r.2.cnt<=s.cnt+2
 len:r.2.log.length<=s.log.length+1
theorem kt {s1:Nd ρ} {f:Nat->Ms ρ} {P:Ms ρ->Prop} (h:∀d,d<s1.n->d≠s1.own->P (f d)):∀x∈dz s1 f,P x:=λx hx=>by
 obtain ⟨d,h1,h2,rfl⟩:=dp _ _ _ hx;exact h d h1 h2
theorem AG (ho:s.own<s.n) (ht:s.term<1099511627776):Tk s (X.tick z e s):=by
 rcases iP (z:=z) (e:=e) s with ⟨h1,h2⟩ | ⟨h1,h2,h3,h4⟩ | ⟨h1,h2,h3,h4⟩ | ⟨h1,h2,h3,h4⟩
 ·rw [h2];refine ⟨rfl,rfl,rfl,.inl rfl,kt λd d1 d2=>⟨rfl,rfl,by unfold cO;simp,⟨d,d1,d2,rfl⟩,.inr (.inl ⟨rfl,h1⟩)⟩,λ_ d d1 d2=>⟨_,mh _ _ d d1 d2,rfl,rfl⟩,λh=>by exfalso;have h:s.term=s.term+1:=h;omega,gK _ _ ho,eA _ _,eA _ _⟩
 ·rw [h4,kJ ho ht];have hsl:(fB s).leads=false:=by show (s.leads&&_)=false;rw [h1];rfl
  by_cases hn:s.n=1
  ·rw [aA hn];have hl:=ie (z:=z) (e:=e) (fB s);have hno:(lead z e (fB s)).1=[]:=by
    rw [hl.ms,List.eq_nil_iff_forall_not_mem];intro x hx;obtain ⟨d,d1,d2,_⟩:=dp _ _ _ hx;rw [hl.n] at d1;rw [hl.own] at d2;have d1:d<s.n:=d1;have d2:d≠s.own:=d2;omega
   refine ⟨hl.own,hl.n,hl.clock,.inr hl.term,λx hx=>(by rw [hno] at hx;cases hx),λ_ d d1 d2=>by omega,λ_ d d1 d2=>by omega,by rw [hno];simp;omega,?_,gH hl.len⟩;have:=hl.cnt;have e1:(fB s).cnt=s.cnt+1:=rfl;omega
  ·rw [aw hn];refine ⟨rfl,rfl,rfl,.inr rfl,kt λd d1 d2=>⟨rfl,rfl,by unfold bp say;simp,⟨d,d1,d2,rfl⟩,.inl ⟨rfl,by unfold bp say;simp,rfl,hsl⟩⟩,λh=>?_,λ_ d d1 d2=>⟨_,mh _ _ d d1 d2,rfl,rfl,by unfold bp say;simp⟩,gK _ _ ho,cf _,cf _⟩;have h:(fB s).leads=true:=h;rw [hsl] at h;cases h
 ·rw [h4];refine ⟨rfl,rfl,rfl,.inl rfl,kt λd d1 d2=>⟨rfl,rfl,by unfold bp say;simp,⟨d,d1,d2,rfl⟩,.inr (.inr ⟨rfl,h1⟩)⟩,λh=>?_,λh=>by exfalso;have h:s.term=s.term+1:=h;omega,gK _ _ ho,eA _ _,eA _ _⟩;have h:s.leads=true:=h;rw [h1] at h;cases h
 ·rw [h4];refine ⟨rfl,rfl,rfl,.inl rfl,λx hx=>(by cases hx),λh=>?_,λh=>by exfalso;have h:s.term=s.term+1:=h;omega,by show 0+1<=_;omega,eA _ _,eA _ _⟩;have h:s.leads=true:=h;rw [h1] at h;cases h
theorem Wk.tk (h:Wk z n b S) (hb:b+1<=1099511627776) (i:Nat) (hi:i<n):Tk (S.nd i) (X.tick z e (S.nd i))/\(S.nd i).own=i/\(S.nd i).n=n:=by
 obtain ⟨G,h⟩:=h;have hni:=h.ni i hi;have:=h.tb i hi;exact ⟨AG (by rw [hni.own,hni.nn];exact hi) (by omega),hni.own,hni.nn⟩
theorem np (S:Cs ρ) (i:Nat) (r:List (Ms ρ)×Nd ρ):(S.call i r).q=S.q++r.1:=rfl
end
section
variable {ρ:Type} {z:ρ->Bool} {e:ρ}
variable {n i:Nat} {b b' M:Int} {S S':Cs ρ} {G:Gh ρ} {m:Ms ρ} {s:Nd ρ} {r:List (Ms ρ)×Nd ρ} {ms:List (Ms ρ)}
def wm (m:Ms ρ):Nat:=if m.kind=3 then 2 else 1
def wq (q:List (Ms ρ)):Nat:=(q.map wm).sum
end
section
variable {ρ:Type} {z:ρ->Bool} {e:ρ}
variable {n i:Nat} {b b' M:Int} {S S':Cs ρ} {G:Gh ρ} {m:Ms ρ} {s:Nd ρ} {r:List (Ms ρ)×Nd ρ} {ms q:List (Ms ρ)}
end
section
variable {ρ:Type} {z:ρ->Bool} {e:ρ}
variable {n i:Nat} {b b' M:Int} {S S':Cs ρ} {G:Gh ρ} {m:Ms ρ} {s:Nd ρ} {r:List (Ms ρ)×Nd ρ} {ms q:List (Ms ρ)}
def Cs.wq (S:Cs ρ) (q:List (Ms ρ)):Cs ρ:=⟨S.nd,S.up,q,S.lo⟩
end
section
variable {ρ:Type} {z:ρ->Bool} {e:ρ}
variable {n i:Nat} {b b' M:Int} {S S':Cs ρ} {G:Gh ρ} {m:Ms ρ} {s:Nd ρ} {r:List (Ms ρ)×Nd ρ} {ms q:List (Ms ρ)}
def Zz (s:Nd ρ):Prop:=s.leads=true\/s.choice≠(s.own:Int)
theorem wB (p:Nat) (l:List (Int×ρ)):∀(j:Nat) (s:Nd ρ),(bE p l j s).2.log.length<=max s.log.length (p+j+l.length)/\(bE p l j s).2.choice=s.choice:=by
 induction l with
 | nil=>intro j s;exact ⟨by show s.log.length<=_;omega,rfl⟩
 | cons x l ih =>
  intro j s;obtain ⟨t,rec⟩:=x;unfold bE;rw [aY];split
  ·have:=ih (j+1) s;exact ⟨by omega,this.2⟩
  ·split
   ·exact ⟨by show s.log.length<=_;omega,rfl⟩
   ·have:=ih (j+1) (place s (p+j) (t,rec));have e1:(place s (p+j) (t,rec)).log.length<=p+j+1:=by
     show (s.log.take (p+j)++[(t,rec)]).length<=_;rw [ay,aI];simp;omega
    exact ⟨by omega,this.2⟩
structure Gl (s:Nd ρ) (m:Ms ρ) (r:List (Ms ρ)×Nd ρ):Prop where
 len:r.2.log.length<=max s.log.length (if m.kind=3 then (m.N.getD 1 0).toNat+m.B.length else 0)\/(m.kind=2/\¬Zz s/\Zz r.2/\r.2.log.length=s.log.length+1)
 zz:Zz s->Zz r.2
theorem Gl.of {ms:List (Ms ρ)} {s1:Nd ρ} (h1:s1.log=s.log) (h2:Zz s->Zz s1):Gl s m (ms,s1):=⟨.inl (by show s1.log.length<=_;rw [h1];exact Nat.le_max_left _ _),h2⟩
theorem rY (hf:m.frm≠(s.own:Int)):Gl s m (getIn z e s m):=by
 have hid:∀(ms:List (Ms ρ)) (s1:Nd ρ),s1.log=s.log->s1.leads=s.leads->s1.choice=s.choice->s1.own=s.own->Gl s m (ms,s1):=λms s1 h1 h2 h3 h4=>Gl.of h1 (λh=>by unfold Zz;rw [h2,h3,h4];exact h);unfold getIn;split
 ·unfold asked;split
  ·simp only;split
   ·split
    ·exact Gl.of rfl (λ_=>.inr hf)
    ·exact hid _ _ rfl rfl rfl rfl
   ·exact hid _ _ rfl rfl rfl rfl
  ·exact hid _ _ rfl rfl rfl rfl
 ·split
  ·rename_i hk;unfold voted;split
   ·exact hid _ _ rfl rfl rfl rfl
   ·rename_i hy;simp only [bG,bL,bX,not_or,ne_eq,dN,xu] at hy;obtain ⟨⟨⟨hy1,hy2⟩,hy3⟩,hy4⟩:=hy;have hz:¬Zz s:=λh=>by
     rcases h with h | h
     ·rw [hy1] at h;cases h
     ·exact h hy3
    simp only;split
    ·have h:=ie (z:=z) (e:=e) { s with votes:=s.votes.set m.frm.toNat true };exact ⟨.inr ⟨hk,hz,.inl h.leads,h.len⟩,λh2=>absurd h2 hz⟩
    ·exact hid _ _ rfl rfl rfl rfl
  ·split
   ·rename_i hk;unfold lays;split
    ·exact hid _ _ rfl rfl rfl rfl
    ·split
     ·exact hid _ _ rfl rfl rfl rfl
     ·simp only;split
      ·obtain ⟨k1,k2⟩:=wB (m.N.getD 1 0).toNat ((m.N.drop 4).zip m.B) 0 { s with ticks:=0 };obtain ⟨h1,h2,h3,h4,h5,h6,_⟩:=nF (m.N.getD 1 0).toNat ((m.N.drop 4).zip m.B) 0 { s with ticks:=0 };have hz:((m.N.drop 4).zip m.B).length<=m.B.length:=by rw [oq];omega
       generalize bE (m.N.getD 1 0).toNat ((m.N.drop 4).zip m.B) 0 { s with ticks:=0 }=p at *;have k1:p.2.log.length<=max s.log.length ((m.N.getD 1 0).toNat+0+((m.N.drop 4).zip m.B).length):=k1;have hzz:∀s1:Nd ρ,s1.leads=p.2.leads->s1.choice=p.2.choice->s1.own=p.2.own->Zz s->Zz s1:=λs1 g1 g2 g3 g=>by
        unfold Zz;rw [g1,g2,g3,h5,k2,h1];exact g
       split
       ·obtain ⟨g1,g2,g3,g4,g5,g6,_⟩:=oh (z:=z) p.2 (min (m.N.getD 3 0) (((m.N.getD 1 0).toNat+m.B.length:Nat):Int)).toNat;obtain ⟨a1,_⟩:=gT (z:=z) (s:=p.2) (min (m.N.getD 3 0) (((m.N.getD 1 0).toNat+m.B.length:Nat):Int)).toNat;have a2:(X.agree z p.2 (min (m.N.getD 3 0) (((m.N.getD 1 0).toNat+m.B.length:Nat):Int)).toNat).choice=p.2.choice:=by unfold X.agree;split<;>rfl
        refine ⟨.inl ?_,hzz _ g5 a2 g1⟩;show (X.agree z p.2 _).log.length<=_;rw [a1,aA hk];omega
       ·refine ⟨.inl ?_,hzz _ rfl rfl rfl⟩;show p.2.log.length<=_;rw [aA hk];omega
      ·exact hid _ _ rfl rfl rfl rfl
   ·split
    ·unfold answered;split
     ·exact hid _ _ rfl rfl rfl rfl
     ·simp only;split
      ·split
       ·exact hid _ _ rfl rfl rfl rfl
       ·exact hid _ _ rfl rfl rfl rfl
      ·split
       ·exact hid _ _ rfl rfl rfl rfl
       ·obtain ⟨g1,g2,g3,g4,g5,g6,g7,g8,_⟩:=eW (z:=z) (s:={ s with mat:=s.mat.set m.frm.toNat (m.N.getD 2 0).toNat,next:=s.next.set m.frm.toNat (max (m.N.getD 2 0).toNat (s.next.getD m.frm.toNat 0))});split
        ·exact hid _ _ g8 g5 g7 g1
        ·split
         ·exact hid _ _ g8 g5 g7 g1
         ·exact hid _ _ g8 g5 g7 g1
    ·split
     ·split<;>exact hid _ _ rfl rfl rfl rfl
     ·exact hid _ _ rfl rfl rfl rfl
theorem CK:Gl s m (X.get z e s m):=by
 unfold X.get;split
 ·exact Gl.of rfl id
 ·rename_i hb;have hf:m.frm≠(s.own:Int):=by
   unfold oE at hb;simp only [bG,bL,bX,ez,not_or,ne_eq,dN,bC] at hb;exact hb.1.1.1.1.1.2
  split
  ·rename_i ht;have h:=rY (z:=z) (e:=e) (s:=enter s (m.N.getD 0 0) (-1)) hf;have hz:Zz (enter s (m.N.getD 0 0) (-1)):=.inr (by show (-1:Int)≠(s.own:Int);omega);refine ⟨?_,λ_=>h.zz hz⟩;rcases h.len with h1 | ⟨_,h2,_⟩
   ·exact .inl h1
   ·exact absurd hz h2
  ·exact rY hf
end
section
variable {ρ:Type} {z:ρ->Bool} {e:ρ}
variable {n i:Nat} {b b' M:Int} {S S' S0:Cs ρ} {G:Gh ρ} {m:Ms ρ} {s:Nd ρ} {r:List (Ms ρ)×Nd ρ} {ms q:List (Ms ρ)}
end
section
variable {ρ:Type} {z:ρ->Bool} {e:ρ}
variable {n i:Nat} {b b' M:Int} {S S' S0:Cs ρ} {G:Gh ρ} {m:Ms ρ} {s:Nd ρ} {r:List (Ms ρ)×Nd ρ} {ms q:List (Ms ρ)} {Λ:Nat}
theorem Bm (hG:WkG z n b G S) (hi:i<n) (hl:(S.nd i).leads=true) {x:Ms ρ} (hx:x∈S.q) (hk:x.kind=3) (hN:x.N.getD 0 0=(S.nd i).term):(x.N.getD 1 0).toNat+x.B.length<=(S.nd i).log.length:=by
 obtain ⟨f,_,_,_,_,h3,_⟩:=(hG.mi x hx).1.f;obtain ⟨_,p,a,e2,_,_,e5,_⟩:=h3 hk;have:=((hG.ni i hi).lds hl).2;rw [hN,<-this] at e5;omega
end
section
variable {ρ:Type} {z:ρ->Bool} {e:ρ}
variable {n i:Nat} {b b' M T:Int} {S S' S0:Cs ρ} {G:Gh ρ} {m:Ms ρ} {s:Nd ρ} {r:List (Ms ρ)×Nd ρ} {ms q:List (Ms ρ)} {Λ:Nat}
end
section
variable {ρ:Type} {z:ρ->Bool} {e:ρ}
variable {n i:Nat} {b b' M T:Int} {S S' S0 S1 S2 S3:Cs ρ} {G:Gh ρ} {m:Ms ρ} {s:Nd ρ} {r:List (Ms ρ)×Nd ρ} {ms q:List (Ms ρ)} {Λ:Nat} {l:Lg ρ}
def nx (s:Nd ρ):Nd ρ:={ s with clock:=s.clock+1,ticks:=s.ticks+1 }
end
section
variable {ρ:Type} {z:ρ->Bool} {e:ρ}
variable {n i:Nat} {b b' M T:Int} {S S' S0 S1 S2 S3:Cs ρ} {G:Gh ρ} {m:Ms ρ} {s:Nd ρ} {r:List (Ms ρ)×Nd ρ} {ms q:List (Ms ρ)} {Λ:Nat} {l:Lg ρ}
end
section
variable {ρ:Type} {z:ρ->Bool} {e:ρ}
variable {n i:Nat} {b b' M T:Int} {S S' S0 S1 S2 S3:Cs ρ} {G:Gh ρ} {m:Ms ρ} {s:Nd ρ} {r:List (Ms ρ)×Nd ρ} {ms q:List (Ms ρ)} {Λ:Nat}
end
section
variable {ρ:Type} (z:ρ->Bool) (e:ρ)
variable {z e}
variable {n i F:Nat} {b b' M T:Int} {S S' S0 S1 S2 S3:Cs ρ} {G:Gh ρ} {m:Ms ρ} {s:Nd ρ} {r:List (Ms ρ)×Nd ρ} {ms q:List (Ms ρ)} {Λ:Nat}
end
set_option maxRecDepth 20000
section
variable {ρ:Type} {z:ρ->Bool} {e:ρ}
variable {n i F:Nat} {b b' M T:Int} {S S' S0 S1 S2 S3:Cs ρ} {G:Gh ρ} {m:Ms ρ} {s:Nd ρ} {r:List (Ms ρ)×Nd ρ} {ms q:List (Ms ρ)} {Λ:Nat}
end
section
variable {ρ:Type} {z:ρ->Bool} {e:ρ}
variable {n i F:Nat} {b b' M T:Int} {S S' S0 S1 S2 S3:Cs ρ} {G:Gh ρ} {m:Ms ρ} {s:Nd ρ} {r:List (Ms ρ)×Nd ρ} {ms q:List (Ms ρ)} {Λ:Nat}
end
section
variable {ρ:Type} {z:ρ->Bool} {e:ρ}
variable {n i F l len:Nat} {b b' M T:Int} {S S' S0 S1 S2 S3:Cs ρ} {G:Gh ρ} {m:Ms ρ} {s:Nd ρ} {r:List (Ms ρ)×Nd ρ} {ms q:List (Ms ρ)} {Λ:Nat}
theorem pg (s:Nd ρ) (d:Nat):(cO s d).kind=3/\(cO s d).dst=(d:Int)/\(cO s d).frm=(s.own:Int)/\(cO s d).N.getD 0 0=s.term/\(cO s d).N.getD 1 0=((s.next.getD d 0:Nat):Int)/\(cO s d).N.getD 3 0=(s.agreed:Int)/\(cO s d).B.length=min 20 (s.log.length - s.next.getD d 0):=by
 refine ⟨rfl,rfl,rfl,rfl,rfl,rfl,?_⟩;show (((s.log.drop (s.next.getD d 0)).take 20).map Prod.snd).length=_;rw [aP,aI,bz]
end
section
variable {ρ:Type} {z:ρ->Bool} {e:ρ}
variable {n i F l len:Nat} {b b' M T:Int} {S S' S0 S1 S2 S3:Cs ρ} {G:Gh ρ} {m:Ms ρ} {s:Nd ρ} {r:List (Ms ρ)×Nd ρ} {ms q:List (Ms ρ)} {Λ:Nat}
end
section
variable {ρ:Type} {z:ρ->Bool} {e:ρ}
variable {n i F l len:Nat} {b b' M T:Int} {S S' S0 S1 S2 S3:Cs ρ} {G:Gh ρ} {m:Ms ρ} {s:Nd ρ} {r:List (Ms ρ)×Nd ρ} {ms q:List (Ms ρ)} {Λ:Nat}
end
end Go.Proofs.YtnhefallmioefaaGreat.X
