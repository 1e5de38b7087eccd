/-
  What the proof of the law leans on: contracts of the program's functions, one behind another. No condition.
-/
import Derived.Test.YtnhefallmioefaaGreatV0
import Derived.Test.YtnhefallmioefaaGreatV13
import Derived.Test.YtnhefallmioefaaGreatV19
set_option linter.unusedVariables false
set_option linter.unusedSimpArgs false
namespace Go.Proofs.YtnhefallmioefaaGreat
set_option maxRecDepth 20000
structure GoodM (own n:Nat) (m:Msg):Prop where
 frm:m.frm=(own:Int)
 ne:(m.dst==(own:Int))=false
 d0:0<=m.dst
 dn:m.dst<(n:Int)
 n1:m.N.getD 1 0<=1000000
 bl:m.B.length<=20
 nl:m.N.length<=24
 bs:∀l∈m.B,l.length<=8000
structure Out (s:Rp) (d:Nat) (p:List Msg×Rp×Dk):Prop where
 wf:Wf p.2.1 p.2.2
 own:p.2.1.own=s.own
 n:p.2.1.n=s.n
 clock:p.2.1.clock<=s.clock+d
 ms:∀m∈p.1,GoodM s.own s.n m
section
variable {s s':Rp} {k k':Dk}
theorem Out.none {d:Nat} (h:Wf s' k') (h1:s'.own=s.own) (h2:s'.n=s.n) (h3:s'.clock<=s.clock+d):Out s d ([],s',k'):=⟨h,h1,h2,h3,λm hm=>by cases hm⟩
theorem jB (h:Wf s k) (hl:s.leads=true) (i:Nat) (hi:i<s.n) (hne:i≠s.own):GoodM s.own s.n (bQ s i):=by
 have hlb:=h.logb;have hb:=(h.lead hl i).1;refine ⟨rfl,?_,by unfold bQ;simp,by unfold bQ;simp;exact hi,?_,?_,?_,?_⟩
 ·unfold bQ;simp;omega
 ·unfold bQ;simp only [List.cons_append,cL,List.getD_cons_succ,List.getD_cons_zero];omega
 ·unfold bQ;simp;omega
 ·unfold bQ;simp;omega
 ·intro l hl2;unfold bQ at hl2;simp only [cF] at hl2;obtain ⟨x,hx,rfl⟩:=hl2;exact h.recl x (mK (eK hx))
theorem qg (h:Wf s k) (kind:Int) (i:Nat) (hi:i<s.n) (hne:i≠s.own):GoodM s.own s.n (bp s kind i):=by
 have hlb:=h.logb;refine ⟨rfl,?_,by unfold bp da;simp,by unfold bp da;simp;exact hi,?_,by unfold bp da;simp,by unfold bp da;simp,by unfold bp da;simp⟩
 ·unfold bp da;simp;omega
 ·unfold bp da;simp only [List.getD_cons_succ,List.getD_cons_zero];omega
theorem iJ (d kind:Int) (N:List Int) (hd0:0<=d) (hdn:d<(s.n:Int)) (hne:(d==(s.own:Int))=false) (h1:N.getD 1 0<=1000000) (h2:N.length<=24):GoodM s.own s.n (da s d kind N) :=
 ⟨rfl,hne,hd0,hdn,h1,by unfold da;simp,h2,by unfold da;simp⟩
theorem ic (f:Nat->Msg) (m:Msg) (h:m∈cR s f):∃i,i<s.n/\i≠s.own/\m=f i:=by
 unfold cR at h;obtain ⟨i,hi,rfl⟩:=cF.1 h;have h2:=ol.1 hi;exact ⟨i,cW.1 h2.1,by simpa using h2.2,rfl⟩
theorem gJ (h:Wf s k) (hl:s.leads=true):∀m∈cR s (bQ s),GoodM s.own s.n m:=λm hm=>by
 obtain ⟨i,h1,h2,rfl⟩:=ic _ _ hm;exact jB h hl i h1 h2
theorem j7 (h:Wf s k) (kind:Int):∀m∈cR s (bp s kind),GoodM s.own s.n m:=λm hm=>by
 obtain ⟨i,h1,h2,rfl⟩:=ic _ _ hm;exact qg h kind i h1 h2
theorem iU:(bI s).2.own=s.own/\(bI s).2.n=s.n/\(bI s).2.clock=s.clock/\(bI s).2.leads=s.leads:=by
 have ha:∀(t:Rp) (m:Nat),(bM t m).own=t.own/\(bM t m).n=t.n/\(bM t m).clock=t.clock/\(bM t m).leads=t.leads:=λt m=>by unfold bM;split<;>exact ⟨rfl,rfl,rfl,rfl⟩
 unfold bI;simp only;split
 ·exact ha _ _
 ·exact ⟨rfl,rfl,rfl,rfl⟩
theorem Same.all (h:Same s s'):s'.own=s.own/\s'.n=s.n/\s'.clock=s.clock/\s'.leads=s.leads/\s'.term=s.term/\s'.agreed=s.agreed:=by
 obtain ⟨w,d,l,rfl⟩:=h;exact ⟨rfl,rfl,rfl,rfl,rfl,rfl⟩
theorem gC (term who:Int):(be s k term who).2.1.own=s.own/\(be s k term who).2.1.n=s.n/\(be s k term who).2.1.clock=s.clock/\((be s k term who).1=true->(be s k term who).2.1.term=term):=by
 have e1:=(iY (s:=s) (k:=k) (dw term who)).all;unfold be;generalize bB s k (dw term who)=p at *;simp only;split
 ·exact ⟨e1.1,e1.2.1,e1.2.2.1,λh=>by cases h⟩
 ·have e2:=(iw (s:=p.1) (k:=p.2)).all;generalize bT p.1 p.2=q at *;split
  ·exact ⟨e2.1.trans e1.1,e2.2.1.trans e1.2.1,e2.2.2.1.trans e1.2.2.1,λh=>by cases h⟩
  ·exact ⟨e2.1.trans e1.1,e2.2.1.trans e1.2.1,e2.2.2.1.trans e1.2.2.1,λ_=>rfl⟩
theorem rd (h:Wf s k):Out s 0 (fT s k):=by
 have h1:=mM (mN h) ⟨s.term,[]⟩ (by simp);have hs:=(kL (s:={ s with leads:=true,next:=List.replicate s.n s.log.length,mat:=List.replicate s.n 0 }) (k:=k) ⟨s.term,[]⟩).all;refine ⟨AF h,?_,?_,?_,?_⟩;all_goals
  unfold fT;simp only;generalize fg { s with leads:=true,next:=List.replicate s.n s.log.length,mat:=List.replicate s.n 0 } k ⟨s.term,[]⟩=p at *;have hst:=iU (s:=p.2.1);split
 ·exact hst.1.trans hs.1
 ·exact hs.1
 ·exact hst.2.1.trans hs.2.1
 ·exact hs.2.1
 ·rw [hst.2.2.1,hs.2.2.1];exact ah _
 ·rw [hs.2.2.1];exact ah _
 ·have e1:(bI p.2.1).2.own=s.own:=hst.1.trans hs.1;have e2:(bI p.2.1).2.n=s.n:=hst.2.1.trans hs.2.1;rw [<-e1,<-e2];exact gJ (fA h1) (by rw [hst.2.2.2,hs.2.2.2.1])
 ·intro m hm;cases hm
theorem Out.of {a b:Rp} {d d':Nat} {p:List Msg×Rp×Dk} (h:Out b d p) (h1:b.own=a.own) (h2:b.n=a.n) (h3:b.clock+d<=a.clock+d'):Out a d' p :=
 ⟨h.wf,h.own.trans h1,h.n.trans h2,aD h.clock h3,by rw [<-h1,<-h2];exact h.ms⟩
theorem vP (h:Wf s k):Out s 0 (fR s k):=by
 unfold fR;by_cases ht:1099511627776<=s.term
 ·rw [aA ht];exact Out.none h rfl rfl (ah _)
 ·rw [aw ht];have hw:=iq h (s.term+1) (s.own:Int) (by have:=h.term0;omega) (by omega) (by omega) (by have:=h.own;omega);have he:=gC (s:=s) (k:=k) (s.term+1) (s.own:Int);generalize be s k (s.term+1) (s.own:Int)=p at *;simp only;split
  ·have hv:((List.replicate s.n false).set s.own true).length=p.2.1.n:=by simp [he.2.1]
   have h1:Wf { p.2.1 with ticks:=0,votes:=(List.replicate s.n false).set s.own true } p.2.2:=eE hw p.2.1.lives 0 p.2.1.clock _ (aH _) hv (ah _);split
   ·exact (rd h1).of he.1 he.2.1 (gH he.2.2.1)
   ·refine ⟨h1,he.1,he.2.1,by rw [show (_:Rp).clock=p.2.1.clock from rfl,he.2.2.1];exact ah _,?_⟩;rw [<-he.1,<-he.2.1];exact j7 h1 1
  ·exact Out.none hw he.1 he.2.1 (by rw [he.2.2.1];exact ah _)
theorem rb (h:Wf s k):Out s 1 (dX s k):=by
 have h0:=gt h;unfold dX;simp only;split
 ·exact Out.none h0 rfl rfl (cf _)
 ·have h1:Wf { aV s k with clock:=(aV s k).clock+1 } k:=eE h0 (aV s k).lives (aV s k).ticks ((aV s k).clock+1) (aV s k).votes (Nat.le_succ_of_le h0.tick) h0.vl (cf _);split
  ·rename_i hl;exact ⟨h1,rfl,rfl,ah _,gJ h1 hl⟩
  ·have h2:Wf { aV s k with clock:=(aV s k).clock+1,ticks:=(aV s k).ticks+1 } k:=eE h0 (aV s k).lives ((aV s k).ticks+1) ((aV s k).clock+1) (aV s k).votes (Nat.succ_le_succ h0.tick) h0.vl (cf _);split
   ·exact (vP h2).of rfl rfl (ah _)
   ·split
    ·exact ⟨h2,rfl,rfl,ah _,j7 h2 5⟩
    ·exact Out.none h2 rfl rfl (ah _)
theorem nu (h:Wf s k) (rec:List UInt8):Out s 0 ((bw s k rec).1,(bw s k rec).2.2):=by
 have h0:=gt h;unfold bw;by_cases h1:rec.length=0
 ·rw [aA h1];exact Out.none h rfl rfl (ah _)
 rw [aw h1];by_cases h2:8000<rec.length
 ·rw [aA h2];exact Out.none h rfl rfl (ah _)
 rw [aw h2];simp only;by_cases h3:(aV s k).done=true
 ·rw [aA h3];exact Out.none h0 rfl rfl (ah _)
 rw [aw h3];by_cases h4:(!(aV s k).leads)=true
 ·rw [aA h4];exact Out.none h0 rfl rfl (ah _)
 rw [aw h4];by_cases h5:200<=ia (aV s k)\/2000<=(aV s k).many
 ·rw [aA h5];exact Out.none h0 rfl rfl (ah _)
 rw [aw h5];have hw:=mM h0 ⟨(aV s k).term,rec⟩ (by simpa using h2);have hs:=(kL (s:=aV s k) (k:=k) ⟨(aV s k).term,rec⟩).all;generalize fg (aV s k) k ⟨(aV s k).term,rec⟩=p at *;have hst:=iU (s:=p.2.1);by_cases h6:p.1=true
 ·rw [aA h6];refine ⟨fA hw,hst.1.trans hs.1,hst.2.1.trans hs.2.1,?_,?_⟩
  ·show (bI p.2.1).2.clock<=_;rw [hst.2.2.1,hs.2.2.1];exact ah _
  ·have e1:(bI p.2.1).2.own=s.own:=hst.1.trans hs.1;have e2:(bI p.2.1).2.n=s.n:=hst.2.1.trans hs.2.1;rw [<-e1,<-e2];exact gJ (fA hw) (by rw [hst.2.2.2,hs.2.2.2.1];simpa using h4)
 ·rw [aw h6];exact Out.none hw hs.1 hs.2.1 (by rw [hs.2.2.1];exact ah _)
section
variable (m:Msg) (hf0:0<=m.frm) (hfn:m.frm<(s.n:Int)) (hfo:(m.frm==(s.own:Int))=false)
include hf0 hfn hfo
theorem vQ (h:Wf s k):Out s 0 (dW s k m):=by
 unfold dW;split
 ·simp only;split
  ·split
   ·have hw:=iq h s.term m.frm h.term0 h.termM (by omega) hfn;have he:=gC (s:=s) (k:=k) s.term m.frm;generalize be s k s.term m.frm=p at *;split
    ·have h1:Wf { p.2.1 with ticks:=0 } p.2.2:=eE hw p.2.1.lives 0 p.2.1.clock _ (aH _) hw.vl (ah _);refine ⟨h1,he.1,he.2.1,gH he.2.2.1,λx hx=>?_⟩;rw [aj.1 hx];have:=iJ (s:={ p.2.1 with ticks:=0 }) m.frm 2 [p.2.1.term,1] hf0 (by rw [show (_:Rp).n=p.2.1.n from rfl,he.2.1];exact hfn) (by rw [show (_:Rp).own=p.2.1.own from rfl,he.1];exact hfo) (by simp) (by simp);rw [show (_:Rp).own=p.2.1.own from rfl,show (_:Rp).n=p.2.1.n from rfl,he.1,he.2.1] at this;exact this
    ·exact Out.none hw he.1 he.2.1 (gH he.2.2.1)
   ·have h1:Wf { s with ticks:=0 } k:=eE h s.lives 0 s.clock _ (aH _) h.vl (ah _);refine ⟨h1,rfl,rfl,ah _,λx hx=>?_⟩;rw [aj.1 hx];exact iJ (s:={ s with ticks:=0 }) m.frm 2 [s.term,1] hf0 hfn hfo (by simp) (by simp)
  ·refine ⟨h,rfl,rfl,ah _,λx hx=>?_⟩;rw [aj.1 hx];exact iJ m.frm 2 [s.term,0] hf0 hfn hfo (by simp) (by simp)
 ·exact Out.none h rfl rfl (ah _)
omit hf0 hfn hfo in
theorem vO (h:Wf s k):Out s 0 (eF s k m):=by
 unfold eF;split
 ·exact Out.none h rfl rfl (ah _)
 ·have h1:Wf { s with votes:=s.votes.set m.frm.toNat true } k:=eE h s.lives s.ticks s.clock _ h.tick (by simpa using h.vl) (ah _);simp only;split
  ·exact (rd h1).of rfl rfl (ah _)
  ·exact Out.none h1 rfl rfl (ah _)
theorem pY (h:Wf s k):Out s 0 ((bR s m).1,(bR s m).2,k):=by
 unfold bR;by_cases hb:(!s.leads || !(m.N.getD 0 0==s.term) || !(m.N.length==3)||decide (m.N.getD 2 0<0)||decide ((s.log.length:Int)<m.N.getD 2 0))=true
 ·rw [aA hb];exact Out.none h rfl rfl (ah _)
 rw [aw hb];simp only [bG,bL,not_or,eR,bC] at hb;obtain ⟨⟨⟨⟨hl,_⟩,_⟩,hk0⟩,hkl⟩:=hb;have hk:(m.N.getD 2 0).toNat<=s.log.length:=by omega
 have hwn:m.frm.toNat<s.n:=by omega
 have hwo:m.frm.toNat≠s.own:=λe=>by
  have:(m.frm==(s.own:Int))=true:=by rw [ez];omega
  rw [this] at hfo;cases hfo
 simp only;by_cases h1:m.N.getD 1 0=0
 ·rw [aA h1];split
  ·exact Out.none h rfl rfl (ah _)
  ·have hw:=mF h m.frm.toNat (max (m.N.getD 2 0).toNat (s.mat.getD m.frm.toNat 0)) (λhl=>by have:=(h.lead hl m.frm.toNat).2;omega);refine ⟨hw,rfl,rfl,ah _,λx hx=>?_⟩;rw [aj.1 hx];exact jB hw hl _ hwn hwo
 ·rw [aw h1];split
  ·exact Out.none h rfl rfl (ah _)
  ·have hw1:=sS h m.frm.toNat (m.N.getD 2 0).toNat (λ_=>hk);have hw:=mF hw1 m.frm.toNat (max (m.N.getD 2 0).toNat (s.next.getD m.frm.toNat 0)) (λhl=>by have:=(h.lead hl m.frm.toNat).1;show _<=s.log.length;omega);have hws:=fA hw;have hst:=iU (s:={ s with mat:=s.mat.set m.frm.toNat (m.N.getD 2 0).toNat,next:=s.next.set m.frm.toNat (max (m.N.getD 2 0).toNat (s.next.getD m.frm.toNat 0))});generalize bI { s with mat:=s.mat.set m.frm.toNat (m.N.getD 2 0).toNat,next:=s.next.set m.frm.toNat (max (m.N.getD 2 0).toNat (s.next.getD m.frm.toNat 0))}=p at *;have e1:p.2.own=s.own:=hst.1;have e2:p.2.n=s.n:=hst.2.1;have e3:p.2.clock<=s.clock+0:=gH hst.2.2.1;have e4:p.2.leads=true:=hst.2.2.2.trans hl;split
   ·refine ⟨hws,e1,e2,e3,?_⟩;rw [<-e1,<-e2];exact gJ hws e4
   ·split
    ·refine ⟨hws,e1,e2,e3,λx hx=>?_⟩;rw [aj.1 hx,<-e1,<-e2];exact jB hws e4 _ (by rw [e2];exact hwn) (by rw [e1];exact hwo)
    ·exact Out.none hws e1 e2 e3
end
theorem kq (p:Nat) (x:Ent) (h:(b8 s k p x).1=true):(b8 s k p x).2.1.log=s.log.take p++[x]:=by
 have e1:=ei (s:=s) (k:=k) (db p x);unfold b8 at h ⊢;generalize bB s k (db p x)=q at *;simp only at h ⊢;split at h
 ·cases h
 ·rename_i hd;rw [aw hd];show q.1.log.take p++[x]=_;rw [e1]
theorem wA (f:Nat) (l:List (Int×List UInt8)):∀(i:Nat) (s:Rp) (k:Dk),Wf s k->s.leads=false->f+i<=s.log.length ->
  Wf (bE f l i s k).2.1 (bE f l i s k).2.2/\Same s (bE f l i s k).2.1/\((bE f l i s k).1=true->f+i+l.length<=(bE f l i s k).2.1.log.length):=by
 induction l with
 | nil=>intro i s k h hl hf;exact ⟨h,Same.refl _,λ_=>hf⟩
 | cons a l ih =>
  intro i s k h hl hf;obtain ⟨t,rec⟩:=a;unfold bE;by_cases h1:f+i<s.log.length/\(s.log.map Ent.term).getD (f+i) 0=t
  ·rw [aA h1];have h2:=ih (i+1) s k h hl (by omega);refine ⟨h2.1,h2.2.1,λe=>?_⟩;have:=h2.2.2 e;simp only [aY];omega
  ·rw [aw h1];by_cases h2:8000<rec.length\/t<1\/s.term<t\/f+i<s.agreed
   ·rw [aA h2];exact ⟨h,Same.refl _,λe=>by cases e⟩
   ·rw [aw h2];have hw:=kH h (f+i) ⟨t,rec⟩ hf (by omega) (λe=>by rw [hl] at e;cases e) (by show rec.length<=8000;omega);have hs:=iZ (s:=s) (k:=k) (f+i) ⟨t,rec⟩;have hg:=kq (s:=s) (k:=k) (f+i) ⟨t,rec⟩;generalize b8 s k (f+i) ⟨t,rec⟩=p at *;simp only;by_cases h3:p.1=true
    ·rw [aA h3];have hlen:p.2.1.log.length=f+i+1:=by
      rw [hg h3];simp [bi hf]
     have h4:=ih (i+1) p.2.1 p.2.2 hw (hs.all.2.2.2.1.trans hl) (by omega);refine ⟨h4.1,hs.trans h4.2.1,λe=>?_⟩;have:=h4.2.2 e;simp only [aY];omega
    ·rw [aw h3];exact ⟨hw,hs,λe=>by cases e⟩
theorem sD (n:Nat):(bM s n).own=s.own/\(bM s n).n=s.n/\(bM s n).clock=s.clock/\(bM s n).leads=s.leads/\(bM s n).term=s.term/\(bM s n).log=s.log:=by
 unfold bM;split<;>exact ⟨rfl,rfl,rfl,rfl,rfl,rfl⟩
theorem yG (m:Msg) (hf0:0<=m.frm) (hfn:m.frm<(s.n:Int)) (hfo:(m.frm==(s.own:Int))=false) (h:Wf s k) (hle:m.N.getD 0 0<=s.term):Out s 0 (dH s k m):=by
 unfold dH;by_cases hb:(!(m.N.length==4+m.B.length)||decide (m.N.getD 1 0<0)||(m.N.getD 0 0==s.term&&s.leads))=true
 ·rw [aA hb];exact Out.none h rfl rfl (ah _)
 rw [aw hb];have h0:Wf { s with ticks:=0 } k:=eE h s.lives 0 s.clock _ (aH _) h.vl (ah _);by_cases h1:m.N.getD 0 0<s.term
 ·rw [aA h1];refine ⟨h,rfl,rfl,ah _,λx hx=>?_⟩;rw [aj.1 hx];exact iJ m.frm 4 [s.term,0,0] hf0 hfn hfo (by simp) (by simp)
 rw [aw h1];simp only;simp only [bG,bL,not_or,eR,bC,bA,ez,not_and] at hb;obtain ⟨⟨hNl,hN1⟩,hld⟩:=hb;have hld2:s.leads=false:=by
  have:=hld (by omega);simpa using this
 by_cases hft:ey { s with ticks:=0 } (m.N.getD 1 0) (m.N.getD 2 0)=true
 ·rw [aA hft];have hfl:(m.N.getD 1 0).toNat<=s.log.length:=by
   unfold ey at hft;simp only [bA,bC] at hft;omega
  have hz:((m.N.drop 4).zip m.B).length=m.B.length:=by
   rw [oq,bz];omega
  have hF:=wA (m.N.getD 1 0).toNat ((m.N.drop 4).zip m.B) 0 { s with ticks:=0 } k h0 hld2 hfl;rw [hz] at hF;generalize bE (m.N.getD 1 0).toNat ((m.N.drop 4).zip m.B) 0 { s with ticks:=0 } k=p at *;obtain ⟨hw,hs,hlen⟩:=hF;have hsa:=hs.all;by_cases hp:p.1=true
  ·rw [aA hp];have hlen:=hlen hp;have hq:∃q:Rp×Dk,q=(if m.B.length=0 then p.2 else bT p.2.1 p.2.2)/\Wf q.1 q.2/\q.1.own=s.own/\q.1.n=s.n/\q.1.clock=s.clock/\q.1.log=p.2.1.log:=by
    by_cases h2:m.B.length=0
    ·rw [aA h2];exact ⟨_,rfl,hw,hsa.1,hsa.2.1,hsa.2.2.1,rfl⟩
    ·rw [aw h2];have e:=(iw (s:=p.2.1) (k:=p.2.2)).all;exact ⟨_,rfl,mE hw,e.1.trans hsa.1,e.2.1.trans hsa.2.1,e.2.2.1.trans hsa.2.2.1,by rw [eO]⟩
   obtain ⟨q,hqe,hqw,q1,q2,q3,q4⟩:=hq;rw [<-hqe];split
   ·exact Out.none hqw q1 q2 (gH q3)
   ·have hag:=sD (s:=q.1) (min (m.N.getD 3 0) (((m.N.getD 1 0).toNat+m.B.length:Nat):Int)).toNat;have hwa:=qG hqw (min (m.N.getD 3 0) (((m.N.getD 1 0).toNat+m.B.length:Nat):Int)).toNat (by rw [q4];omega);generalize bM q.1 (min (m.N.getD 3 0) (((m.N.getD 1 0).toNat+m.B.length:Nat):Int)).toNat=s2 at *;refine ⟨hwa,hag.1.trans q1,hag.2.1.trans q2,gH (hag.2.2.1.trans q3),λx hx=>?_⟩;rw [aj.1 hx,<-hag.1.trans q1,<-hag.2.1.trans q2];exact iJ m.frm 4 _ hf0 (by rw [hag.2.1.trans q2];exact hfn) (by rw [hag.1.trans q1];exact hfo) (by simp) (by simp)
  ·rw [aw hp];exact Out.none hw hsa.1 hsa.2.1 (gH hsa.2.2.1)
 ·rw [aw hft];refine ⟨h0,rfl,rfl,ah _,λx hx=>?_⟩;rw [aj.1 hx];exact iJ (s:={ s with ticks:=0 }) m.frm 4 _ hf0 hfn hfo (by simp) (by simp)
theorem xY (h:Wf s k) (i:Nat) (a b:Int):Wf { s with heard:=s.heard.set i ((s.clock:Int),a,b)} k :=
 ⟨h.n1,h.n5,h.own,h.vl,h.nl,h.ml,by simpa using h.hl,h.room,h.tot,h.fil,h.logl,h.agr,h.man,h.lead,h.term0,h.termM,h.cho,h.choM,h.recl,h.tick,λx hx=>by
  rcases List.mem_or_eq_of_mem_set hx with h1 | h1
  ·exact h.hrd x h1
  ·rw [h1];exact ⟨by simp,aX _⟩⟩
theorem uB (h:Wf s k) (m:Msg):Out s 0 (fw s k m):=by
 have h0:=gt h;unfold fw;by_cases hb:((aV s k).done||l3 (aV s k) m)=true
 ·rw [aA hb];exact Out.none h0 rfl rfl (ah _)
 rw [aw hb];simp only [bG,not_or] at hb;have hbad:=hb.2;unfold l3 at hbad;simp only [bG,bL,not_or,eR,bC] at hbad;obtain ⟨⟨⟨⟨⟨⟨_,hfo⟩,hf0⟩,hfn⟩,hln⟩,hN0⟩,hNM⟩:=hbad;have hfo:(m.frm==(s.own:Int))=false:=by
  have h9:¬(m.frm=((aV s k).own:Int)):=by simpa using hfo
  have h8:¬(m.frm=(s.own:Int)):=h9;simpa using h8
 have hfn:m.frm<(s.n:Int):=by
  have:¬((s.n:Int)<=m.frm):=hfn;omega
 have hf0:0<=m.frm:=by omega
 have hp:∃p:Bool×Rp×Dk,p=(if (aV s k).term<m.N.getD 0 0 then be (aV s k) k (m.N.getD 0 0) (-1) else (true,aV s k,k))/\Wf p.2.1 p.2.2/\p.2.1.own=s.own/\p.2.1.n=s.n/\p.2.1.clock=s.clock/\(p.1=true->m.N.getD 0 0<=p.2.1.term):=by
  by_cases ht:(aV s k).term<m.N.getD 0 0
  ·rw [aA ht];have he:=gC (s:=aV s k) (k:=k) (m.N.getD 0 0) (-1);exact ⟨_,rfl,iq h0 _ _ (by omega) (by omega) (by omega) (by have:=h0.n1;omega),he.1,he.2.1,he.2.2.1,λe=>by rw [he.2.2.2 e];exact aX _⟩
  ·rw [aw ht];exact ⟨_,rfl,h0,rfl,rfl,rfl,λ_=>by show _<=(aV s k).term;omega⟩
 obtain ⟨p,hpe,hw,p1,p2,p3,p4⟩:=hp;simp only;rw [<-hpe];by_cases h1:p.1=true
 ·rw [aA h1];have hfn2:m.frm<(p.2.1.n:Int):=by rw [p2];exact hfn
  have hfo2:(m.frm==(p.2.1.own:Int))=false:=by rw [p1];exact hfo
  have hcl:p.2.1.clock+0<=s.clock+0:=gH p3;split
  ·exact (vQ m hf0 hfn2 hfo2 hw).of p1 p2 hcl
  ·split
   ·exact (vO m hw).of p1 p2 hcl
   ·split
    ·exact (yG m hf0 hfn2 hfo2 hw (p4 h1)).of p1 p2 hcl
    ·split
     ·exact (pY m hf0 hfn2 hfo2 hw).of p1 p2 hcl
     ·split
      ·split
       ·exact Out.none (xY hw _ _ _) p1 p2 hcl
       ·exact Out.none hw p1 p2 hcl
      ·exact Out.none hw p1 p2 hcl
 ·rw [aw h1];exact Out.none hw p1 p2 (gH p3)
end
def qx (k:Dk):Prop:=∀l q,k.file=some (l,q)->q<=l.length
structure KS (k k':Dk):Prop where
 room:k'.room=k.room
 off:k'.off=k.off
 lives:k'.lives=k.lives
 sf:qx k->qx k'
theorem KS.refl (k:Dk):KS k k:=⟨rfl,rfl,rfl,id⟩
theorem KS.trans {a b c:Dk} (h:KS a b) (g:KS b c):KS a c:=⟨g.room.trans h.room,g.off.trans h.off,g.lives.trans h.lives,λx=>g.sf (h.sf x)⟩
section
variable {s s':Rp} {k k':Dk}
theorem Cy (k:Dk) (b:List UInt8):KS k (jI k b):=by
 refine ⟨rfl,rfl,rfl,λh l q hf=>?_⟩;unfold jI Ak at hf;cases hk:k.file with
 | none=>rw [hk] at hf;cases hf;exact aH _
 | some p =>
  obtain ⟨m,z⟩:=p;rw [hk] at hf;cases hf;have:=h m q hk;simp;omega
theorem Bp (w:Wl) (k:Dk) (b:List UInt8):KS k (fc w k b).2.2:=by
 unfold fc;split
 ·exact KS.refl k
 ·split
  ·exact KS.refl k
  ·split
   ·exact KS.refl k
   ·exact Cy k _
theorem zp (w:Wl) (k:Dk):KS k (fQ w k).2.2:=by
 unfold fQ;split
 ·exact KS.refl k
 ·split
  ·exact KS.refl k
  ·refine ⟨rfl,rfl,rfl,λh l q hf=>?_⟩;cases hf;exact ah _
theorem rL (b:List UInt8):KS k (bB s k b).2:=by
 unfold bB;split
 ·exact KS.refl k
 ·exact Bp _ _ _
theorem qd:KS k (bT s k).2:=by
 unfold bT;split
 ·exact KS.refl k
 ·exact zp _ _
theorem nG (t w:Int):KS k (be s k t w).2.2:=by
 have h:=rL (s:=s) (k:=k) (dw t w);unfold be;generalize bB s k (dw t w)=p at *;simp only;split
 ·exact h
 ·have g:=qd (s:=p.1) (k:=p.2);split<;>exact h.trans g
theorem rM (p:Nat) (x:Ent):KS k (b8 s k p x).2.2:=by
 have h:=rL (s:=s) (k:=k) (db p x);unfold b8;generalize bB s k (db p x)=q at *;simp only;split<;>exact h
theorem zr (x:Ent):KS k (fg s k x).2.2:=by
 have h:=rM (s:=s) (k:=k) s.log.length x;unfold fg;generalize b8 s k s.log.length x=q at *;simp only;split
 ·exact h.trans qd
 ·exact h
theorem uJ:KS k (fT s k).2.2:=by
 unfold fT;simp only;have h:=zr (s:={ s with leads:=true,next:=List.replicate s.n s.log.length,mat:=List.replicate s.n 0 }) (k:=k) ⟨s.term,[]⟩;split<;>exact h
theorem zq:KS k (fR s k).2.2:=by
 unfold fR;split
 ·exact KS.refl k
 ·have h:=nG (s:=s) (k:=k) (s.term+1) (s.own:Int);generalize be s k (s.term+1) (s.own:Int)=p at *;simp only;split
  ·split
   ·exact h.trans uJ
   ·exact h
  ·exact h
theorem Bn:KS k (dX s k).2.2:=by
 unfold dX;simp only;split
 ·exact KS.refl k
 ·split
  ·exact KS.refl k
  ·split
   ·exact zq
   ·split<;>exact KS.refl k
theorem wD (rec:List UInt8):KS k (bw s k rec).2.2.2:=by
 unfold bw;by_cases h1:rec.length=0
 ·rw [aA h1];exact KS.refl k
 rw [aw h1];by_cases h2:8000<rec.length
 ·rw [aA h2];exact KS.refl k
 rw [aw h2];simp only;by_cases h3:(aV s k).done=true
 ·rw [aA h3];exact KS.refl k
 rw [aw h3];by_cases h4:(!(aV s k).leads)=true
 ·rw [aA h4];exact KS.refl k
 rw [aw h4];by_cases h5:200<=ia (aV s k)\/2000<=(aV s k).many
 ·rw [aA h5];exact KS.refl k
 rw [aw h5];have hw:=zr (s:=aV s k) (k:=k) ⟨(aV s k).term,rec⟩;generalize fg (aV s k) k ⟨(aV s k).term,rec⟩=p at *;by_cases h6:p.1=true
 ·rw [aA h6];exact hw
 ·rw [aw h6];exact hw
theorem zw (m:Msg):KS k (dW s k m).2.2:=by
 unfold dW;split
 ·simp only;split
  ·split
   ·have h:=nG (s:=s) (k:=k) s.term m.frm;generalize be s k s.term m.frm=p at *;split<;>exact h
   ·exact KS.refl k
  ·exact KS.refl k
 ·exact KS.refl k
theorem zo (m:Msg):KS k (eF s k m).2.2:=by
 unfold eF;split
 ·exact KS.refl k
 ·simp only;split
  ·exact uJ
  ·exact KS.refl k
theorem zt (f:Nat) (l:List (Int×List UInt8)):∀(i:Nat) (s:Rp) (k:Dk),KS k (bE f l i s k).2.2:=by
 induction l with
 | nil=>intro i s k;exact KS.refl k
 | cons a l ih =>
  intro i s k;obtain ⟨t,rec⟩:=a;unfold bE;split
  ·exact ih _ _ _
  ·split
   ·exact KS.refl k
   ·have h:=rM (s:=s) (k:=k) (f+i) ⟨t,rec⟩;generalize b8 s k (f+i) ⟨t,rec⟩=p at *;simp only;split
    ·exact h.trans (ih _ _ _)
    ·exact h
theorem Bo (m:Msg):KS k (dH s k m).2.2:=by
 unfold dH;by_cases hb:(!(m.N.length==4+m.B.length)||decide (m.N.getD 1 0<0)||(m.N.getD 0 0==s.term&&s.leads))=true
 ·rw [aA hb];exact KS.refl k
 rw [aw hb];by_cases h1:m.N.getD 0 0<s.term
 ·rw [aA h1];exact KS.refl k
 rw [aw h1];simp only;by_cases hft:ey { s with ticks:=0 } (m.N.getD 1 0) (m.N.getD 2 0)=true
 ·rw [aA hft];have hF:=zt (m.N.getD 1 0).toNat ((m.N.drop 4).zip m.B) 0 { s with ticks:=0 } k;generalize bE (m.N.getD 1 0).toNat ((m.N.drop 4).zip m.B) 0 { s with ticks:=0 } k=p at *;by_cases hp:p.1=true
  ·rw [aA hp];have hq:KS k (if m.B.length=0 then p.2 else bT p.2.1 p.2.2).2:=by
    split
    ·exact hF
    ·exact hF.trans qd
   generalize (if m.B.length=0 then p.2 else bT p.2.1 p.2.2)=q at *;split<;>exact hq
  ·rw [aw hp];exact hF
 ·rw [aw hft];exact KS.refl k
theorem Cx (m:Msg):KS k (fw s k m).2.2:=by
 unfold fw;by_cases hb:((aV s k).done||l3 (aV s k) m)=true
 ·rw [aA hb];exact KS.refl k
 rw [aw hb];have hp:∃p:Bool×Rp×Dk,p=(if (aV s k).term<m.N.getD 0 0 then be (aV s k) k (m.N.getD 0 0) (-1) else (true,aV s k,k))/\KS k p.2.2:=by
  split
  ·exact ⟨_,rfl,nG _ _⟩
  ·exact ⟨_,rfl,KS.refl k⟩
 obtain ⟨p,hpe,hk⟩:=hp;simp only;rw [<-hpe];by_cases h1:p.1=true
 ·rw [aA h1];split
  ·exact hk.trans (zw m)
  ·split
   ·exact hk.trans (zo m)
   ·split
    ·exact hk.trans (Bo m)
    ·split
     ·exact hk
     ·split
      ·split<;>exact hk
      ·exact hk
 ·rw [aw h1];exact hk
end
def ix (n:Nat):Rp:=dg 0 n 0 []
def Match (n:Nat) (ns:List Note) (term choice:Int) (log:List Ent):Prop:=(cA (ix n) ns).term=term/\(cA (ix n) ns).choice=choice/\(cA (ix n) ns).log=log
structure NOk (s:Rp):Prop where
 ex:∃ns,s.wl.recs=ns.map Note.bytes/\cQ (ix s.n) ns/\(s.done=false->Match s.n ns s.term s.choice s.log)
 lead:s.leads=true->1<=s.term
section
variable {s s':Rp} {k k':Dk}
theorem xl (w:Wl) (k:Dk) (b:List UInt8):((fc w k b).1=0/\(fc w k b).2.1.recs=w.recs++[b])\/((fc w k b).1≠0/\(fc w k b).2.1.recs=w.recs):=by
 unfold fc;split
 ·exact .inr ⟨by simp,rfl⟩
 ·split
  ·exact .inr ⟨by simp,rfl⟩
  ·split
   ·exact .inr ⟨by simp,rfl⟩
   ·exact .inl ⟨rfl,rfl⟩
theorem sV (w:Wl) (k:Dk):(fQ w k).2.1.recs=w.recs:=by
 unfold fQ;split
 ·rfl
 ·split<;>rfl
theorem j8 (b:List UInt8):((bB s k b).1.done=false/\s.done=false/\(bB s k b).1.wl.recs=s.wl.recs++[b])\/((bB s k b).1.done=true/\(bB s k b).1.wl.recs=s.wl.recs):=by
 unfold bB;by_cases hd:s.done=true
 ·rw [aA hd];exact .inr ⟨hd,rfl⟩
 ·rw [aw hd];rcases xl s.wl k b with ⟨h1,h2⟩ | ⟨h1,h2⟩
  ·exact .inl ⟨by simp [h1],by simpa using hd,h2⟩
  ·exact .inr ⟨by simp [h1],h2⟩
theorem lB:(bT s k).1.wl.recs=s.wl.recs/\((bT s k).1.done=false->s.done=false):=by
 unfold bT;by_cases hd:s.done=true
 ·rw [aA hd];exact ⟨rfl,id⟩
 ·rw [aw hd];exact ⟨sV _ _,λ_=>by simpa using hd⟩
theorem NOk.sync (h:NOk s):NOk (bT s k).1:=by
 obtain ⟨⟨ns,h1,h2,h3⟩,h4⟩:=h;obtain ⟨r1,r2⟩:=lB (s:=s) (k:=k);have e:=(iw (s:=s) (k:=k))
 have ea:=e.all;have es:=eO (s:=s) (k:=k);have e1:(bT s k).1.choice=s.choice:=by rw [es]
 have e2:(bT s k).1.log=s.log:=by rw [es]
 refine ⟨⟨ns,by rw [r1,h1],by rw [ea.2.1];exact h2,λhd=>?_⟩,λhl=>?_⟩
 ·rw [ea.2.1,ea.2.2.2.2.1,e1,e2];exact h3 (r2 hd)
 ·rw [ea.2.2.2.2.1];exact h4 (by rw [<-ea.2.2.2.1];exact hl)
theorem Match.snoc {n:Nat} {ns:List Note} {t c:Int} {l:List Ent} (h:Match n ns t c l) (a:Note):Match n (ns++[a]) (dy { ix n with term:=t,choice:=c,log:=l } a).term (dy { ix n with term:=t,choice:=c,log:=l } a).choice (dy { ix n with term:=t,choice:=c,log:=l } a).log:=by
 obtain ⟨h1,h2,h3⟩:=h;obtain ⟨t',c',g',e⟩:=fC (ix n) ns;unfold Match;rw [jZ];rw [e] at h1 h2 h3 ⊢;simp only at h1 h2 h3;subst h1;subst h2;subst h3;exact ⟨rfl,rfl,rfl⟩
theorem mf {n:Nat} {ns:List Note} {t c:Int} {l:List Ent} (h:Match n ns t c l) (hk:cQ (ix n) ns) (a:Note) (ha:jv { ix n with term:=t,choice:=c,log:=l } a):cQ (ix n) (ns++[a]):=by
 rw [gE];refine ⟨hk,?_,trivial⟩;obtain ⟨h1,h2,h3⟩:=h;obtain ⟨t',c',g',e⟩:=fC (ix n) ns;rw [e] at h1 h2 h3 ⊢;simp only at h1 h2 h3;subst h1;subst h2;subst h3;exact ha
theorem lK (h:NOk s) (term who:Int) (h1:s.term<=term) (h2:term<=1099511627776) (h3 : -1<=who) (h4:who<s.n):NOk (be s k term who).2.1:=by
 obtain ⟨⟨ns,g1,g2,g3⟩,g4⟩:=h;have e1:=ei (s:=s) (k:=k) (dw term who);have ea:=(iY (s:=s) (k:=k) (dw term who)).all;have hr:=j8 (s:=s) (k:=k) (dw term who);unfold be;generalize bB s k (dw term who)=p at *;simp only;rcases hr with ⟨r1,r2,r3⟩ | ⟨r1,r2⟩
 ·rw [aw (by rw [r1];decide)];have hm:=g3 r2;have hk:=mf hm g2 (.t term who) ⟨h1,h2,h3,h4⟩;have hm2:=hm.snoc (.t term who);have q1:=lB (s:=p.1) (k:=p.2);have qa:=(iw (s:=p.1) (k:=p.2)).all;have qs:=eO (s:=p.1) (k:=p.2);have hrec:(bT p.1 p.2).1.wl.recs=(ns++[Note.t term who]).map Note.bytes:=by rw [q1.1,r3,g1];simp [Note.bytes]
  have hn:(bT p.1 p.2).1.n=s.n:=qa.2.1.trans ea.2.1;have hlog:(bT p.1 p.2).1.log=s.log:=by rw [qs,e1]
  have hcho:(bT p.1 p.2).1.choice=s.choice:=by rw [qs,e1]
  have htm:(bT p.1 p.2).1.term=s.term:=qa.2.2.2.2.1.trans ea.2.2.2.2.1;have hld:(bT p.1 p.2).1.leads=s.leads:=qa.2.2.2.1.trans ea.2.2.2.1;generalize bT p.1 p.2=q at *;by_cases hd:q.1.done=true
  ·rw [aA hd];exact ⟨⟨_,hrec,by rw [hn];exact hk,λe=>by rw [hd] at e;cases e⟩,λhl=>by rw [htm];exact g4 (by rw [<-hld];exact hl)⟩
  ·rw [aw hd];refine ⟨⟨_,hrec,by show cQ (ix q.1.n) _;rw [hn];exact hk,λ_=>?_⟩,λhl=>?_⟩
   ·show Match q.1.n _ term who q.1.log;rw [hn,hlog];exact hm2
   ·have hl2:(q.1.leads && !decide (q.1.term<term))=true:=hl;rw [bA] at hl2;have:=g4 (by rw [<-hld];exact hl2.1);show 1<=term;omega
 ·rw [aA r1];have hn:p.1.n=s.n:=ea.2.1;exact ⟨⟨ns,by rw [r2,g1],by rw [hn];exact g2,λe=>by rw [r1] at e;cases e⟩,λhl=>by rw [ea.2.2.2.2.1];exact g4 (by rw [<-ea.2.2.2.1];exact hl)⟩
theorem pa (h:NOk s) (p:Nat) (x:Ent) (h1:p<=s.log.length) (h2:1<=x.term) (h3:x.term<=s.term) (h4:x.bs.length<=8000):NOk (b8 s k p x).2.1:=by
 obtain ⟨⟨ns,g1,g2,g3⟩,g4⟩:=h;have e1:=ei (s:=s) (k:=k) (db p x);have ea:=(iY (s:=s) (k:=k) (db p x)).all;have hr:=j8 (s:=s) (k:=k) (db p x);unfold b8;generalize bB s k (db p x)=q at *;simp only;rcases hr with ⟨r1,r2,r3⟩ | ⟨r1,r2⟩
 ·rw [aw (by rw [r1];decide)];have hm:=g3 r2;have hk:=mf hm g2 (.e p x) ⟨h1,h2,h3,h4⟩;have hm2:=hm.snoc (.e p x);refine ⟨⟨ns++[Note.e p x],by show q.1.wl.recs=_;rw [r3,g1];simp [Note.bytes],by show cQ (ix q.1.n) _;rw [ea.2.1];exact hk,λ_=>?_⟩,λhl=>?_⟩
  ·show Match q.1.n _ q.1.term q.1.choice (q.1.log.take p++[x]);rw [e1];exact hm2
  ·show 1<=q.1.term;rw [ea.2.2.2.2.1];exact g4 (by rw [<-ea.2.2.2.1];exact hl)
 ·rw [aA r1];exact ⟨⟨ns,by rw [r2,g1],by rw [ea.2.1];exact g2,λe=>by rw [r1] at e;cases e⟩,λhl=>by rw [ea.2.2.2.2.1];exact g4 (by rw [<-ea.2.2.2.1];exact hl)⟩
theorem uD (h:NOk s) (x:Ent) (h2:1<=x.term) (h3:x.term<=s.term) (h4:x.bs.length<=8000):NOk (fg s k x).2.1:=by
 have hp:=pa (k:=k) h s.log.length x (ah _) h2 h3 h4;unfold fg;generalize b8 s k s.log.length x=p at *;simp only;split
 ·exact hp.sync
 ·exact hp
theorem NOk.of {s s':Rp} (h:NOk s) (h1:s'.wl.recs=s.wl.recs) (h2:s'.n=s.n) (h3:s'.done=false->s.done=false) (h4:s'.term=s.term) (h5:s'.choice=s.choice) (h6:s'.log=s.log) (h7:s'.leads=true->1<=s.term):NOk s':=by
 obtain ⟨⟨ns,g1,g2,g3⟩,g4⟩:=h;exact ⟨⟨ns,h1.trans g1,by rw [h2];exact g2,λhd=>by rw [h2,h4,h5,h6];exact g3 (h3 hd)⟩,λhl=>by rw [h4];exact h7 hl⟩
theorem kx (h:NOk s):NOk (bI s).2:=by
 have ha:∀(t:Rp) (m:Nat),(bM t m).wl.recs=t.wl.recs/\(bM t m).n=t.n/\(bM t m).done=t.done/\(bM t m).term=t.term/\(bM t m).choice=t.choice/\(bM t m).log=t.log/\(bM t m).leads=t.leads:=λt m=>by unfold bM;split<;>exact ⟨rfl,rfl,rfl,rfl,rfl,rfl,rfl⟩
 have hk:∀t:Rp,NOk t->∀m,NOk (bM t m):=λt ht m=>by
  obtain ⟨a1,a2,a3,a4,a5,a6,a7⟩:=ha t m;exact ht.of a1 a2 (by rw [a3];exact id) a4 a5 a6 (by rw [a7];exact ht.lead)
 have h1:NOk { s with mat:=s.mat.set s.own s.log.length }:=h.of rfl rfl id rfl rfl rfl h.lead;unfold bI;simp only;split
 ·exact hk _ h1 _
 ·exact h1
theorem wn (h:NOk s) (m:Nat):NOk (bM s m):=by
 unfold bM;split
 ·exact h.of rfl rfl id rfl rfl rfl h.lead
 ·exact h
theorem rk (h:NOk s) (ht:1<=s.term):NOk (fT s k).2.1:=by
 have h0:NOk { s with leads:=true,next:=List.replicate s.n s.log.length,mat:=List.replicate s.n 0 }:=h.of rfl rfl id rfl rfl rfl (λ_=>ht);have h1:=uD (k:=k) h0 ⟨s.term,[]⟩ ht (aX _) (by simp);unfold fT;simp only;split
 ·exact kx h1
 ·exact h1
theorem wh (h:NOk s) (hw:Wf s k):NOk (fR s k).2.1:=by
 unfold fR;by_cases ht:1099511627776<=s.term
 ·rw [aA ht];exact h
 ·rw [aw ht];have h0:=hw.term0;have hn:=lK (k:=k) h (s.term+1) (s.own:Int) (by omega) (by omega) (by omega) (by have:=hw.own;omega);have he:=gC (s:=s) (k:=k) (s.term+1) (s.own:Int);generalize be s k (s.term+1) (s.own:Int)=p at *;simp only;by_cases hp:p.1=true
  ·rw [aA hp];have h1:NOk { p.2.1 with ticks:=0,votes:=(List.replicate s.n false).set s.own true }:=hn.of rfl rfl id rfl rfl rfl hn.lead;split
   ·exact rk h1 (by show 1<=p.2.1.term;rw [he.2.2.2 hp];omega)
   ·exact h1
  ·rw [aw hp];exact hn
theorem lL (h:NOk s):NOk (aV s k):=h.of rfl rfl (λhd=>by
 have:dQ s k=false:=hd;unfold dQ at this;rw [eL] at this;exact this.1) rfl rfl rfl h.lead
theorem yM (h:NOk s) (hw:Wf s k):NOk (dX s k).2.1:=by
 have h0:=lL (k:=k) h;have w0:=gt hw;unfold dX;simp only;split
 ·exact h0
 ·split
  ·exact h0.of rfl rfl id rfl rfl rfl h0.lead
  ·have h2:NOk { aV s k with clock:=(aV s k).clock+1,ticks:=(aV s k).ticks+1 }:=h0.of rfl rfl id rfl rfl rfl h0.lead;have w2:Wf { aV s k with clock:=(aV s k).clock+1,ticks:=(aV s k).ticks+1 } k:=eE w0 (aV s k).lives ((aV s k).ticks+1) ((aV s k).clock+1) (aV s k).votes (Nat.succ_le_succ w0.tick) w0.vl (cf _);split
   ·exact wh h2 w2
   ·split<;>exact h2
theorem tA (h:NOk s) (rec:List UInt8):NOk (bw s k rec).2.2.1:=by
 have h0:=lL (k:=k) h;unfold bw;by_cases h1:rec.length=0
 ·rw [aA h1];exact h
 rw [aw h1];by_cases h2:8000<rec.length
 ·rw [aA h2];exact h
 rw [aw h2];simp only;by_cases h3:(aV s k).done=true
 ·rw [aA h3];exact h0
 rw [aw h3];by_cases h4:(!(aV s k).leads)=true
 ·rw [aA h4];exact h0
 rw [aw h4];by_cases h5:200<=ia (aV s k)\/2000<=(aV s k).many
 ·rw [aA h5];exact h0
 rw [aw h5];have hw:=uD (k:=k) h0 ⟨(aV s k).term,rec⟩ (h0.lead (by simpa using h4)) (aX _) (by simpa using h2);generalize fg (aV s k) k ⟨(aV s k).term,rec⟩=p at *;by_cases h6:p.1=true
 ·rw [aA h6];exact kx hw
 ·rw [aw h6];exact hw
theorem kw (h:NOk s) (t:Nat):NOk { s with ticks:=t }:=h.of rfl rfl id rfl rfl rfl h.lead
theorem wj (h:NOk s) (hw:Wf s k) (m:Msg) (hf0:0<=m.frm) (hfn:m.frm<(s.n:Int)):NOk (dW s k m).2.1:=by
 unfold dW;split
 ·simp only;split
  ·split
   ·have hn:=lK (k:=k) h s.term m.frm (aX _) hw.termM (by omega) hfn;generalize be s k s.term m.frm=p at *;split
    ·exact kw hn 0
    ·exact hn
   ·exact kw h 0
  ·exact h
 ·exact h
theorem wg (h:NOk s) (m:Msg) (hN:1<=m.N.getD 0 0):NOk (eF s k m).2.1:=by
 unfold eF;split
 ·exact h
 ·rename_i hb;have h1:NOk { s with votes:=s.votes.set m.frm.toNat true }:=h.of rfl rfl id rfl rfl rfl h.lead;simp only [bG,bL,not_or,eR,ez] at hb;simp only;split
  ·exact rk h1 (by show 1<=s.term;rw [<-hb.1.1.2];exact hN)
  ·exact h1
theorem p9 (h:NOk s) (m:Msg):NOk (bR s m).2:=by
 unfold bR;split
 ·exact h
 ·simp only;split
  ·split
   ·exact h
   ·exact h.of rfl rfl id rfl rfl rfl h.lead
  ·split
   ·exact h
   ·have h1:NOk { s with mat:=s.mat.set m.frm.toNat (m.N.getD 2 0).toNat,next:=s.next.set m.frm.toNat (max (m.N.getD 2 0).toNat (s.next.getD m.frm.toNat 0))}:=h.of rfl rfl id rfl rfl rfl h.lead;have h2:=kx h1;split
    ·exact h2
    ·split<;>exact h2
theorem wi (f:Nat) (l:List (Int×List UInt8)):∀(i:Nat) (s:Rp) (k:Dk),NOk s->Wf s k->s.leads=false->f+i<=s.log.length->NOk (bE f l i s k).2.1:=by
 induction l with
 | nil=>intro i s k h hw hl hf;exact h
 | cons a l ih =>
  intro i s k h hw hl hf;obtain ⟨t,rec⟩:=a;unfold bE;by_cases h1:f+i<s.log.length/\(s.log.map Ent.term).getD (f+i) 0=t
  ·rw [aA h1];exact ih (i+1) s k h hw hl (by omega)
  ·rw [aw h1];by_cases h2:8000<rec.length\/t<1\/s.term<t\/f+i<s.agreed
   ·rw [aA h2];exact h
   ·rw [aw h2];have hn:=pa (k:=k) h (f+i) ⟨t,rec⟩ hf (by show 1<=t;omega) (by show t<=s.term;omega) (by show rec.length<=8000;omega);have hw2:=kH hw (f+i) ⟨t,rec⟩ hf (by omega) (λe=>by rw [hl] at e;cases e) (by show rec.length<=8000;omega);have hs:=iZ (s:=s) (k:=k) (f+i) ⟨t,rec⟩;have hg:=kq (s:=s) (k:=k) (f+i) ⟨t,rec⟩;generalize b8 s k (f+i) ⟨t,rec⟩=p at *;simp only;by_cases h3:p.1=true
    ·rw [aA h3];have hlen:p.2.1.log.length=f+i+1:=by
      rw [hg h3];simp [bi hf]
     exact ih (i+1) p.2.1 p.2.2 hn hw2 (hs.all.2.2.2.1.trans hl) (by omega)
    ·rw [aw h3];exact hn
theorem yN (h:NOk s) (hw:Wf s k) (m:Msg) (hle:m.N.getD 0 0<=s.term):NOk (dH s k m).2.1:=by
 unfold dH;by_cases hb:(!(m.N.length==4+m.B.length)||decide (m.N.getD 1 0<0)||(m.N.getD 0 0==s.term&&s.leads))=true
 ·rw [aA hb];exact h
 rw [aw hb];by_cases h1:m.N.getD 0 0<s.term
 ·rw [aA h1];exact h
 rw [aw h1];have h0:=kw h 0;have w0:Wf { s with ticks:=0 } k:=eE hw s.lives 0 s.clock _ (aH _) hw.vl (ah _);simp only;simp only [bG,bL,not_or,eR,bC,bA,ez,not_and] at hb;obtain ⟨⟨hNl,hN1⟩,hld⟩:=hb;have hld2:s.leads=false:=by
  have:=hld (by omega);simpa using this
 by_cases hft:ey { s with ticks:=0 } (m.N.getD 1 0) (m.N.getD 2 0)=true
 ·rw [aA hft];have hfl:(m.N.getD 1 0).toNat<=s.log.length:=by
   unfold ey at hft;simp only [bA,bC] at hft;omega
  have hF:=wi (m.N.getD 1 0).toNat ((m.N.drop 4).zip m.B) 0 { s with ticks:=0 } k h0 w0 hld2 hfl;generalize bE (m.N.getD 1 0).toNat ((m.N.drop 4).zip m.B) 0 { s with ticks:=0 } k=p at *;by_cases hp:p.1=true
  ·rw [aA hp];have hq:NOk (if m.B.length=0 then p.2 else bT p.2.1 p.2.2).1:=by
    split
    ·exact hF
    ·exact hF.sync
   generalize (if m.B.length=0 then p.2 else bT p.2.1 p.2.2)=q at *;split
   ·exact hq
   ·exact wn hq _
  ·rw [aw hp];exact hF
 ·rw [aw hft];exact h0
theorem Bb (h:NOk s) (hw:Wf s k) (m:Msg):NOk (fw s k m).2.1:=by
 have h0:=lL (k:=k) h;have w0:=gt hw;unfold fw;by_cases hb:((aV s k).done||l3 (aV s k) m)=true
 ·rw [aA hb];exact h0
 rw [aw hb];simp only [bG,not_or] at hb;have hbad:=hb.2;unfold l3 at hbad;simp only [bG,bL,not_or,eR,bC] at hbad;obtain ⟨⟨⟨⟨⟨⟨_,hfo⟩,hf0⟩,hfn⟩,hln⟩,hN0⟩,hNM⟩:=hbad;have hfn:m.frm<(s.n:Int):=by
  have:¬((s.n:Int)<=m.frm):=hfn;omega
 have hp:∃p:Bool×Rp×Dk,p=(if (aV s k).term<m.N.getD 0 0 then be (aV s k) k (m.N.getD 0 0) (-1) else (true,aV s k,k))/\NOk p.2.1/\Wf p.2.1 p.2.2/\p.2.1.n=s.n/\(p.1=true->m.N.getD 0 0<=p.2.1.term):=by
  by_cases ht:(aV s k).term<m.N.getD 0 0
  ·rw [aA ht];have he:=gC (s:=aV s k) (k:=k) (m.N.getD 0 0) (-1);exact ⟨_,rfl,lK h0 _ _ (Int.le_of_lt ht) (by omega) (by omega) (by have:=w0.n1;omega),iq w0 _ _ (by omega) (by omega) (by omega) (by have:=w0.n1;omega),he.2.1,λe=>by rw [he.2.2.2 e];exact aX _⟩
  ·rw [aw ht];exact ⟨_,rfl,h0,w0,rfl,λ_=>by show _<=(aV s k).term;omega⟩
 obtain ⟨p,hpe,hn,hw1,p2,p4⟩:=hp;simp only;rw [<-hpe];by_cases h1:p.1=true
 ·rw [aA h1];split
  ·exact wj hn hw1 m (by omega) (by rw [p2];exact hfn)
  ·split
   ·exact wg hn m (by omega)
   ·split
    ·exact yN hn hw1 m (p4 h1)
    ·split
     ·exact p9 hn m
     ·split
      ·split
       ·exact hn.of rfl rfl id rfl rfl rfl hn.lead
       ·exact hn
      ·exact hn
 ·rw [aw h1];exact hn
end
end Go.Proofs.YtnhefallmioefaaGreat
