/-
  What the proof of the law leans on: contracts of the program's functions, one behind another. No condition.
-/
import Derived.Test.YtnicaicjgaoolaaU0
import Derived.Test.YtnicaicjgaoolaaU9
import Derived.Test.YtnicaicjgaoolaaU3
set_option linter.unusedVariables false
set_option linter.unusedSimpArgs false
namespace Go.Proofs.Ytnicaicjgaoolaa
set_option maxRecDepth 20000
structure GoodM (own n:Nat) (m:Msg):Prop where
 frm:m.frm=(own:Int)
 ne:(m.dst==(own:Int))=false
 d0:0<=m.dst
 dn:m.dst<(n:Int)
 n1:m.N.getD 1 0<=1000000
 bl:m.B.length<=20
 nl:m.N.length<=24
structure Out (s:Rp) (d:Nat) (p:List Msg×Rp×Dk):Prop where
 wf:Wf p.2.1 p.2.2
 own:p.2.1.own=s.own
 n:p.2.1.n=s.n
 clock:p.2.1.clock<=s.clock+d
 ms:∀m∈p.1,GoodM s.own s.n m
section
variable {s s':Rp} {k k':Dk}
theorem Out.none {d:Nat} (h:Wf s' k') (h1:s'.own=s.own) (h2:s'.n=s.n) (h3:s'.clock<=s.clock+d):Out s d ([],s',k'):=⟨h,h1,h2,h3,λm hm=>by cases hm⟩
theorem jO (h:Wf s k) (hl:s.leads=true) (i:Nat) (hi:i<s.n) (hne:i≠s.own):GoodM s.own s.n (cw s i):=by
 have hlb:=h.logb;have hb:=(h.lead hl i).1;refine ⟨rfl,?_,by unfold cw;simp,by unfold cw;simp;exact hi,?_,?_,?_⟩
 ·unfold cw;simp;omega
 ·unfold cw;simp only [List.cons_append,bR,List.getD_cons_succ,List.getD_cons_zero];omega
 ·unfold cw;simp;omega
 ·unfold cw;simp;omega
theorem p8 (h:Wf s k) (kind:Int) (i:Nat) (hi:i<s.n) (hne:i≠s.own):GoodM s.own s.n (bf s kind i):=by
 have hlb:=h.logb;refine ⟨rfl,?_,by unfold bf dv;simp,by unfold bf dv;simp;exact hi,?_,by unfold bf dv;simp,by unfold bf dv;simp⟩
 ·unfold bf dv;simp;omega
 ·unfold bf dv;simp only [List.getD_cons_succ,List.getD_cons_zero];omega
theorem iR (d kind:Int) (N:List Int) (hd0:0<=d) (hdn:d<(s.n:Int)) (hne:(d==(s.own:Int))=false) (h1:N.getD 1 0<=1000000) (h2:N.length<=24):GoodM s.own s.n (dv s d kind N) :=
 ⟨rfl,hne,hd0,hdn,h1,by unfold dv;simp,h2⟩
theorem il (f:Nat->Msg) (m:Msg) (h:m∈dc s f):∃i,i<s.n/\i≠s.own/\m=f i:=by
 unfold dc at h;obtain ⟨i,hi,rfl⟩:=gR.1 h;have h2:=oe.1 hi;exact ⟨i,cX.1 h2.1,by simpa using h2.2,rfl⟩
theorem gV (h:Wf s k) (hl:s.leads=true):∀m∈dc s (cw s),GoodM s.own s.n m:=λm hm=>by
 obtain ⟨i,h1,h2,rfl⟩:=il _ _ hm;exact jO h hl i h1 h2
theorem ko (h:Wf s k) (kind:Int):∀m∈dc s (bf s kind),GoodM s.own s.n m:=λm hm=>by
 obtain ⟨i,h1,h2,rfl⟩:=il _ _ hm;exact p8 h kind i h1 h2
theorem i9:(bS s).2.own=s.own/\(bS s).2.n=s.n/\(bS s).2.clock=s.clock/\(bS s).2.leads=s.leads:=by
 have ha:∀(t:Rp) (m:Nat),(bZ t m).own=t.own/\(bZ t m).n=t.n/\(bZ t m).clock=t.clock/\(bZ t m).leads=t.leads:=λt m=>by unfold bZ;split<;>exact ⟨rfl,rfl,rfl,rfl⟩
 unfold bS;simp only;split
 ·exact ha _ _
 ·exact ⟨rfl,rfl,rfl,rfl⟩
theorem Same.all (h:Same s s'):s'.own=s.own/\s'.n=s.n/\s'.clock=s.clock/\s'.leads=s.leads/\s'.term=s.term/\s'.agreed=s.agreed:=by
 obtain ⟨w,d,l,rfl⟩:=h;exact ⟨rfl,rfl,rfl,rfl,rfl,rfl⟩
theorem gD (term who:Int):(bx s k term who).2.1.own=s.own/\(bx s k term who).2.1.n=s.n/\(bx s k term who).2.1.clock=s.clock/\((bx s k term who).1=true->(bx s k term who).2.1.term=term):=by
 have e1:=(jc (s:=s) (k:=k) (dF term who)).all;unfold bx;generalize bK s k (dF term who)=p at *;simp only;split
 ·exact ⟨e1.1,e1.2.1,e1.2.2.1,λh=>by cases h⟩
 ·have e2:=(iH (s:=p.1) (k:=p.2)).all;generalize cx p.1 p.2=q at *;split
  ·exact ⟨e2.1.trans e1.1,e2.2.1.trans e1.2.1,e2.2.2.1.trans e1.2.2.1,λh=>by cases h⟩
  ·exact ⟨e2.1.trans e1.1,e2.2.1.trans e1.2.1,e2.2.2.1.trans e1.2.2.1,λ_=>rfl⟩
theorem qW (h:Wf s k):Out s 0 (fR s k):=by
 have h1:=mW (mX h) ⟨s.term,[]⟩ (by simp);have hs:=(kY (s:={ s with leads:=true,next:=List.replicate s.n s.log.length,mat:=List.replicate s.n 0 }) (k:=k) ⟨s.term,[]⟩).all;refine ⟨AO h,?_,?_,?_,?_⟩;all_goals
  unfold fR;simp only;generalize fy { s with leads:=true,next:=List.replicate s.n s.log.length,mat:=List.replicate s.n 0 } k ⟨s.term,[]⟩=p at *;have hst:=i9 (s:=p.2.1);split
 ·exact hst.1.trans hs.1
 ·exact hs.1
 ·exact hst.2.1.trans hs.2.1
 ·exact hs.2.1
 ·rw [hst.2.2.1,hs.2.2.1];exact ah _
 ·rw [hs.2.2.1];exact ah _
 ·have e1:(bS p.2.1).2.own=s.own:=hst.1.trans hs.1;have e2:(bS p.2.1).2.n=s.n:=hst.2.1.trans hs.2.1;rw [<-e1,<-e2];exact gV (fJ h1) (by rw [hst.2.2.2,hs.2.2.2.1])
 ·intro m hm;cases hm
theorem Out.of {a b:Rp} {d d':Nat} {p:List Msg×Rp×Dk} (h:Out b d p) (h1:b.own=a.own) (h2:b.n=a.n) (h3:b.clock+d<=a.clock+d'):Out a d' p :=
 ⟨h.wf,h.own.trans h1,h.n.trans h2,aF h.clock h3,by rw [<-h1,<-h2];exact h.ms⟩
theorem vM (h:Wf s k):Out s 0 (fP s k):=by
 unfold fP;by_cases ht:1099511627776<=s.term
 ·rw [ax ht];exact Out.none h rfl rfl (ah _)
 ·rw [aw ht];have hw:=iz h (s.term+1) (s.own:Int) (by have:=h.term0;omega) (by omega) (by omega) (by have:=h.own;omega);have he:=gD (s:=s) (k:=k) (s.term+1) (s.own:Int);generalize bx s k (s.term+1) (s.own:Int)=p at *;simp only;split
  ·have hv:((List.replicate s.n false).set s.own true).length=p.2.1.n:=by simp [he.2.1]
   have h1:Wf { p.2.1 with ticks:=0,votes:=(List.replicate s.n false).set s.own true } p.2.2:=eL hw p.2.1.lives 0 p.2.1.clock _ (aA _) hv (ah _);split
   ·exact (qW h1).of he.1 he.2.1 (gQ he.2.2.1)
   ·refine ⟨h1,he.1,he.2.1,by rw [show (_:Rp).clock=p.2.1.clock from rfl,he.2.2.1];exact ah _,?_⟩;rw [<-he.1,<-he.2.1];exact ko h1 1
  ·exact Out.none hw he.1 he.2.1 (by rw [he.2.2.1];exact ah _)
theorem lh (h:Wf s k):Out s 1 (eh s k):=by
 have h0:=gx h;unfold eh;simp only;split
 ·exact Out.none h0 rfl rfl (bO _)
 ·have h1:Wf { aY s k with clock:=(aY s k).clock+1 } k:=eL h0 (aY s k).lives (aY s k).ticks ((aY s k).clock+1) (aY s k).votes (Nat.le_succ_of_le h0.tick) h0.vl (bO _);split
  ·rename_i hl;exact ⟨h1,rfl,rfl,ah _,gV h1 hl⟩
  ·have h2:Wf { aY s k with clock:=(aY s k).clock+1,ticks:=(aY s k).ticks+1 } k:=eL h0 (aY s k).lives ((aY s k).ticks+1) ((aY s k).clock+1) (aY s k).votes (Nat.succ_le_succ h0.tick) h0.vl (bO _);split
   ·exact (vM h2).of rfl rfl (ah _)
   ·split
    ·exact ⟨h2,rfl,rfl,ah _,ko h2 5⟩
    ·exact Out.none h2 rfl rfl (ah _)
theorem kD (h:Wf s k) (rec:List UInt8):Out s 0 ((bJ s k rec).1,(bJ s k rec).2.2):=by
 have h0:=gx h;unfold bJ;by_cases h1:rec.length=0
 ·rw [ax h1];exact Out.none h rfl rfl (ah _)
 rw [aw h1];by_cases h2:8000<rec.length
 ·rw [ax h2];exact Out.none h rfl rfl (ah _)
 rw [aw h2];simp only;by_cases h3:(aY s k).done=true
 ·rw [ax h3];exact Out.none h0 rfl rfl (ah _)
 rw [aw h3];by_cases h4:(!(aY s k).leads)=true
 ·rw [ax h4];exact Out.none h0 rfl rfl (ah _)
 rw [aw h4];by_cases h5:200<=ik (aY s k)\/2000<=(aY s k).many
 ·rw [ax h5];exact Out.none h0 rfl rfl (ah _)
 rw [aw h5];have hw:=mW h0 ⟨(aY s k).term,rec⟩ (by simpa using h2);have hs:=(kY (s:=aY s k) (k:=k) ⟨(aY s k).term,rec⟩).all;generalize fy (aY s k) k ⟨(aY s k).term,rec⟩=p at *;have hst:=i9 (s:=p.2.1);by_cases h6:p.1=true
 ·rw [ax h6];refine ⟨fJ hw,hst.1.trans hs.1,hst.2.1.trans hs.2.1,?_,?_⟩
  ·show (bS p.2.1).2.clock<=_;rw [hst.2.2.1,hs.2.2.1];exact ah _
  ·have e1:(bS p.2.1).2.own=s.own:=hst.1.trans hs.1;have e2:(bS p.2.1).2.n=s.n:=hst.2.1.trans hs.2.1;rw [<-e1,<-e2];exact gV (fJ hw) (by rw [hst.2.2.2,hs.2.2.2.1];simpa using h4)
 ·rw [aw h6];exact Out.none hw hs.1 hs.2.1 (by rw [hs.2.2.1];exact ah _)
section
variable (m:Msg) (hf0:0<=m.frm) (hfn:m.frm<(s.n:Int)) (hfo:(m.frm==(s.own:Int))=false)
include hf0 hfn hfo
theorem vO (h:Wf s k):Out s 0 (dV s k m):=by
 unfold dV;split
 ·simp only;split
  ·split
   ·have hw:=iz h s.term m.frm h.term0 h.termM (by omega) hfn;have he:=gD (s:=s) (k:=k) s.term m.frm;generalize bx s k s.term m.frm=p at *;split
    ·have h1:Wf { p.2.1 with ticks:=0 } p.2.2:=eL hw p.2.1.lives 0 p.2.1.clock _ (aA _) hw.vl (ah _);refine ⟨h1,he.1,he.2.1,gQ he.2.2.1,λx hx=>?_⟩;rw [aj.1 hx];have:=iR (s:={ p.2.1 with ticks:=0 }) m.frm 2 [p.2.1.term,1] hf0 (by rw [show (_:Rp).n=p.2.1.n from rfl,he.2.1];exact hfn) (by rw [show (_:Rp).own=p.2.1.own from rfl,he.1];exact hfo) (by simp) (by simp);rw [show (_:Rp).own=p.2.1.own from rfl,show (_:Rp).n=p.2.1.n from rfl,he.1,he.2.1] at this;exact this
    ·exact Out.none hw he.1 he.2.1 (gQ he.2.2.1)
   ·have h1:Wf { s with ticks:=0 } k:=eL h s.lives 0 s.clock _ (aA _) h.vl (ah _);refine ⟨h1,rfl,rfl,ah _,λx hx=>?_⟩;rw [aj.1 hx];exact iR (s:={ s with ticks:=0 }) m.frm 2 [s.term,1] hf0 hfn hfo (by simp) (by simp)
  ·refine ⟨h,rfl,rfl,ah _,λx hx=>?_⟩;rw [aj.1 hx];exact iR m.frm 2 [s.term,0] hf0 hfn hfo (by simp) (by simp)
 ·exact Out.none h rfl rfl (ah _)
omit hf0 hfn hfo in
theorem vL (h:Wf s k):Out s 0 (eM s k m):=by
 unfold eM;split
 ·exact Out.none h rfl rfl (ah _)
 ·have h1:Wf { s with votes:=s.votes.set m.frm.toNat true } k:=eL h s.lives s.ticks s.clock _ h.tick (by simpa using h.vl) (ah _);simp only;split
  ·exact (qW h1).of rfl rfl (ah _)
  ·exact Out.none h1 rfl rfl (ah _)
theorem pR (h:Wf s k):Out s 0 ((ct s m).1,(ct s m).2,k):=by
 unfold ct;by_cases hb:(!s.leads || !(m.N.getD 0 0==s.term) || !(m.N.length==3)||decide (m.N.getD 2 0<0)||decide ((s.log.length:Int)<m.N.getD 2 0))=true
 ·rw [ax hb];exact Out.none h rfl rfl (ah _)
 rw [aw hb];simp only [aW,aV,not_or,dB,aR] at hb;obtain ⟨⟨⟨⟨hl,_⟩,_⟩,hk0⟩,hkl⟩:=hb;have hk:(m.N.getD 2 0).toNat<=s.log.length:=by omega
 have hwn:m.frm.toNat<s.n:=by omega
 have hwo:m.frm.toNat≠s.own:=λe=>by
  have:(m.frm==(s.own:Int))=true:=by rw [cH];omega
  rw [this] at hfo;cases hfo
 simp only;by_cases h1:m.N.getD 1 0=0
 ·rw [ax h1];split
  ·exact Out.none h rfl rfl (ah _)
  ·have hw:=mK h m.frm.toNat (max (m.N.getD 2 0).toNat (s.mat.getD m.frm.toNat 0)) (λhl=>by have:=(h.lead hl m.frm.toNat).2;omega);refine ⟨hw,rfl,rfl,ah _,λx hx=>?_⟩;rw [aj.1 hx];exact jO hw hl _ hwn hwo
 ·rw [aw h1];split
  ·exact Out.none h rfl rfl (ah _)
  ·have hw1:=sV h m.frm.toNat (m.N.getD 2 0).toNat (λ_=>hk);have hw:=mK hw1 m.frm.toNat (max (m.N.getD 2 0).toNat (s.next.getD m.frm.toNat 0)) (λhl=>by have:=(h.lead hl m.frm.toNat).1;show _<=s.log.length;omega);have hws:=fJ hw;have hst:=i9 (s:={ s with mat:=s.mat.set m.frm.toNat (m.N.getD 2 0).toNat,next:=s.next.set m.frm.toNat (max (m.N.getD 2 0).toNat (s.next.getD m.frm.toNat 0))});generalize bS { s with mat:=s.mat.set m.frm.toNat (m.N.getD 2 0).toNat,next:=s.next.set m.frm.toNat (max (m.N.getD 2 0).toNat (s.next.getD m.frm.toNat 0))}=p at *;have e1:p.2.own=s.own:=hst.1;have e2:p.2.n=s.n:=hst.2.1;have e3:p.2.clock<=s.clock+0:=gQ hst.2.2.1;have e4:p.2.leads=true:=hst.2.2.2.trans hl;split
   ·refine ⟨hws,e1,e2,e3,?_⟩;rw [<-e1,<-e2];exact gV hws e4
   ·split
    ·refine ⟨hws,e1,e2,e3,λx hx=>?_⟩;rw [aj.1 hx,<-e1,<-e2];exact jO hws e4 _ (by rw [e2];exact hwn) (by rw [e1];exact hwo)
    ·exact Out.none hws e1 e2 e3
end
theorem kC (p:Nat) (x:Ent) (h:(cG s k p x).1=true):(cG s k p x).2.1.log=s.log.take p++[x]:=by
 have e1:=ez (s:=s) (k:=k) (dp p x);unfold cG at h ⊢;generalize bK s k (dp p x)=q at *;simp only at h ⊢;split at h
 ·cases h
 ·rename_i hd;rw [aw hd];show q.1.log.take p++[x]=_;rw [e1]
theorem wu (f:Nat) (l:List (Int×List UInt8)):∀(i:Nat) (s:Rp) (k:Dk),Wf s k->s.leads=false->f+i<=s.log.length ->
  Wf (bE f l i s k).2.1 (bE f l i s k).2.2/\Same s (bE f l i s k).2.1/\((bE f l i s k).1=true->f+i+l.length<=(bE f l i s k).2.1.log.length):=by
 induction l with
 | nil=>intro i s k h hl hf;exact ⟨h,Same.refl _,λ_=>hf⟩
 | cons a l ih =>
  intro i s k h hl hf;obtain ⟨t,rec⟩:=a;unfold bE;by_cases h1:f+i<s.log.length/\(s.log.map Ent.term).getD (f+i) 0=t
  ·rw [ax h1];have h2:=ih (i+1) s k h hl (by omega);refine ⟨h2.1,h2.2.1,λe=>?_⟩;have:=h2.2.2 e;simp only [aX];omega
  ·rw [aw h1];by_cases h2:8000<rec.length\/t<1\/s.term<t\/f+i<s.agreed
   ·rw [ax h2];exact ⟨h,Same.refl _,λe=>by cases e⟩
   ·rw [aw h2];have hw:=kU h (f+i) ⟨t,rec⟩ hf (by omega) (λe=>by rw [hl] at e;cases e) (by show rec.length<=8000;omega);have hs:=jd (s:=s) (k:=k) (f+i) ⟨t,rec⟩;have hg:=kC (s:=s) (k:=k) (f+i) ⟨t,rec⟩;generalize cG s k (f+i) ⟨t,rec⟩=p at *;simp only;by_cases h3:p.1=true
    ·rw [ax h3];have hlen:p.2.1.log.length=f+i+1:=by
      rw [hg h3];simp [bB hf]
     have h4:=ih (i+1) p.2.1 p.2.2 hw (hs.all.2.2.2.1.trans hl) (by omega);refine ⟨h4.1,hs.trans h4.2.1,λe=>?_⟩;have:=h4.2.2 e;simp only [aX];omega
    ·rw [aw h3];exact ⟨hw,hs,λe=>by cases e⟩
theorem sw (n:Nat):(bZ s n).own=s.own/\(bZ s n).n=s.n/\(bZ s n).clock=s.clock/\(bZ s n).leads=s.leads/\(bZ s n).term=s.term/\(bZ s n).log=s.log:=by
 unfold bZ;split<;>exact ⟨rfl,rfl,rfl,rfl,rfl,rfl⟩
theorem yX (m:Msg) (hf0:0<=m.frm) (hfn:m.frm<(s.n:Int)) (hfo:(m.frm==(s.own:Int))=false) (h:Wf s k) (hle:m.N.getD 0 0<=s.term):Out s 0 (dK s k m):=by
 unfold dK;by_cases hb:(!(m.N.length==4+m.B.length)||decide (m.N.getD 1 0<0)||(m.N.getD 0 0==s.term&&s.leads))=true
 ·rw [ax hb];exact Out.none h rfl rfl (ah _)
 rw [aw hb];have h0:Wf { s with ticks:=0 } k:=eL h s.lives 0 s.clock _ (aA _) h.vl (ah _);by_cases h1:m.N.getD 0 0<s.term
 ·rw [ax h1];refine ⟨h,rfl,rfl,ah _,λx hx=>?_⟩;rw [aj.1 hx];exact iR m.frm 4 [s.term,0,0] hf0 hfn hfo (by simp) (by simp)
 rw [aw h1];simp only;simp only [aW,aV,not_or,dB,aR,bk,cH,not_and] at hb;obtain ⟨⟨hNl,hN1⟩,hld⟩:=hb;have hld2:s.leads=false:=by
  have:=hld (by omega);simpa using this
 by_cases hft:eW { s with ticks:=0 } (m.N.getD 1 0) (m.N.getD 2 0)=true
 ·rw [ax hft];have hfl:(m.N.getD 1 0).toNat<=s.log.length:=by
   unfold eW at hft;simp only [bk,aR] at hft;omega
  have hz:((m.N.drop 4).zip m.B).length=m.B.length:=by
   rw [og,bw];omega
  have hF:=wu (m.N.getD 1 0).toNat ((m.N.drop 4).zip m.B) 0 { s with ticks:=0 } k h0 hld2 hfl;rw [hz] at hF;generalize bE (m.N.getD 1 0).toNat ((m.N.drop 4).zip m.B) 0 { s with ticks:=0 } k=p at *;obtain ⟨hw,hs,hlen⟩:=hF;have hsa:=hs.all;by_cases hp:p.1=true
  ·rw [ax hp];have hlen:=hlen hp;have hq:∃q:Rp×Dk,q=(if m.B.length=0 then p.2 else cx p.2.1 p.2.2)/\Wf q.1 q.2/\q.1.own=s.own/\q.1.n=s.n/\q.1.clock=s.clock/\q.1.log=p.2.1.log:=by
    by_cases h2:m.B.length=0
    ·rw [ax h2];exact ⟨_,rfl,hw,hsa.1,hsa.2.1,hsa.2.2.1,rfl⟩
    ·rw [aw h2];have e:=(iH (s:=p.2.1) (k:=p.2.2)).all;exact ⟨_,rfl,mJ hw,e.1.trans hsa.1,e.2.1.trans hsa.2.1,e.2.2.1.trans hsa.2.2.1,by rw [eX]⟩
   obtain ⟨q,hqe,hqw,q1,q2,q3,q4⟩:=hq;rw [<-hqe];split
   ·exact Out.none hqw q1 q2 (gQ q3)
   ·have hag:=sw (s:=q.1) (min (m.N.getD 3 0) (((m.N.getD 1 0).toNat+m.B.length:Nat):Int)).toNat;have hwa:=qx hqw (min (m.N.getD 3 0) (((m.N.getD 1 0).toNat+m.B.length:Nat):Int)).toNat (by rw [q4];omega);generalize bZ q.1 (min (m.N.getD 3 0) (((m.N.getD 1 0).toNat+m.B.length:Nat):Int)).toNat=s2 at *;refine ⟨hwa,hag.1.trans q1,hag.2.1.trans q2,gQ (hag.2.2.1.trans q3),λx hx=>?_⟩;rw [aj.1 hx,<-hag.1.trans q1,<-hag.2.1.trans q2];exact iR m.frm 4 _ hf0 (by rw [hag.2.1.trans q2];exact hfn) (by rw [hag.1.trans q1];exact hfo) (by simp) (by simp)
  ·rw [aw hp];exact Out.none hw hsa.1 hsa.2.1 (gQ hsa.2.2.1)
 ·rw [aw hft];refine ⟨h0,rfl,rfl,ah _,λx hx=>?_⟩;rw [aj.1 hx];exact iR (s:={ s with ticks:=0 }) m.frm 4 _ hf0 hfn hfo (by simp) (by simp)
theorem yf (h:Wf s k) (i:Nat) (a b:Int):Wf { s with heard:=s.heard.set i ((s.clock:Int),a,b)} k :=
 ⟨h.n1,h.n5,h.own,h.vl,h.nl,h.ml,by simpa using h.hl,h.room,h.tot,h.fil,h.logl,h.agr,h.man,h.lead,h.term0,h.termM,h.cho,h.choM,h.recl,h.tick,λx hx=>by
  rcases List.mem_or_eq_of_mem_set hx with h1 | h1
  ·exact h.hrd x h1
  ·rw [h1];exact ⟨by simp,aM _⟩⟩
theorem pQ (h:Wf s k) (m:Msg):Out s 0 (fC s k m):=by
 have h0:=gx h;unfold fC;by_cases hb:((aY s k).done||mh (aY s k) m)=true
 ·rw [ax hb];exact Out.none h0 rfl rfl (ah _)
 rw [aw hb];simp only [aW,not_or] at hb;have hbad:=hb.2;unfold mh at hbad;simp only [aW,aV,not_or,dB,aR] at hbad;obtain ⟨⟨⟨⟨⟨⟨_,hfo⟩,hf0⟩,hfn⟩,hln⟩,hN0⟩,hNM⟩:=hbad;have hfo:(m.frm==(s.own:Int))=false:=by
  have h9:¬(m.frm=((aY s k).own:Int)):=by simpa using hfo
  have h8:¬(m.frm=(s.own:Int)):=h9;simpa using h8
 have hfn:m.frm<(s.n:Int):=by
  have:¬((s.n:Int)<=m.frm):=hfn;omega
 have hf0:0<=m.frm:=by omega
 have hp:∃p:Bool×Rp×Dk,p=(if (aY s k).term<m.N.getD 0 0 then bx (aY s k) k (m.N.getD 0 0) (-1) else (true,aY s k,k))/\Wf p.2.1 p.2.2/\p.2.1.own=s.own/\p.2.1.n=s.n/\p.2.1.clock=s.clock/\(p.1=true->m.N.getD 0 0<=p.2.1.term):=by
  by_cases ht:(aY s k).term<m.N.getD 0 0
  ·rw [ax ht];have he:=gD (s:=aY s k) (k:=k) (m.N.getD 0 0) (-1);exact ⟨_,rfl,iz h0 _ _ (by omega) (by omega) (by omega) (by have:=h0.n1;omega),he.1,he.2.1,he.2.2.1,λe=>by rw [he.2.2.2 e];exact aM _⟩
  ·rw [aw ht];exact ⟨_,rfl,h0,rfl,rfl,rfl,λ_=>by show _<=(aY s k).term;omega⟩
 obtain ⟨p,hpe,hw,p1,p2,p3,p4⟩:=hp;simp only;rw [<-hpe];by_cases h1:p.1=true
 ·rw [ax h1];have hfn2:m.frm<(p.2.1.n:Int):=by rw [p2];exact hfn
  have hfo2:(m.frm==(p.2.1.own:Int))=false:=by rw [p1];exact hfo
  have hcl:p.2.1.clock+0<=s.clock+0:=gQ p3;split
  ·exact (vO m hf0 hfn2 hfo2 hw).of p1 p2 hcl
  ·split
   ·exact (vL m hw).of p1 p2 hcl
   ·split
    ·exact (yX m hf0 hfn2 hfo2 hw (p4 h1)).of p1 p2 hcl
    ·split
     ·exact (pR m hf0 hfn2 hfo2 hw).of p1 p2 hcl
     ·split
      ·split
       ·exact Out.none (yf hw _ _ _) p1 p2 hcl
       ·exact Out.none hw p1 p2 hcl
      ·exact Out.none hw p1 p2 hcl
 ·rw [aw h1];exact Out.none hw p1 p2 (gQ p3)
end
def qn (k:Dk):Prop:=∀l q,k.file=some (l,q)->q<=l.length
structure KS (k k':Dk):Prop where
 room:k'.room=k.room
 off:k'.off=k.off
 lives:k'.lives=k.lives
 sf:qn k->qn k'
theorem KS.refl (k:Dk):KS k k:=⟨rfl,rfl,rfl,id⟩
theorem KS.trans {a b c:Dk} (h:KS a b) (g:KS b c):KS a c:=⟨g.room.trans h.room,g.off.trans h.off,g.lives.trans h.lives,λx=>g.sf (h.sf x)⟩
section
variable {s s':Rp} {k k':Dk}
theorem Cy (k:Dk) (b:List UInt8):KS k (appD k b):=by
 refine ⟨rfl,rfl,rfl,λh l q hf=>?_⟩;unfold appD Ay at hf;cases hk:k.file with
 | none=>rw [hk] at hf;cases hf;exact aA _
 | some p =>
  obtain ⟨m,z⟩:=p;rw [hk] at hf;cases hf;have:=h m q hk;simp;omega
theorem Bo (w:Wl) (k:Dk) (b:List UInt8):KS k (ft w k b).2.2:=by
 unfold ft;split
 ·exact KS.refl k
 ·split
  ·exact KS.refl k
  ·split
   ·exact KS.refl k
   ·exact Cy k _
theorem zJ (w:Wl) (k:Dk):KS k (fO w k).2.2:=by
 unfold fO;split
 ·exact KS.refl k
 ·split
  ·exact KS.refl k
  ·refine ⟨rfl,rfl,rfl,λh l q hf=>?_⟩;cases hf;exact ah _
theorem rM (b:List UInt8):KS k (bK s k b).2:=by
 unfold bK;split
 ·exact KS.refl k
 ·exact Bo _ _ _
theorem pX:KS k (cx s k).2:=by
 unfold cx;split
 ·exact KS.refl k
 ·exact zJ _ _
theorem nI (t w:Int):KS k (bx s k t w).2.2:=by
 have h:=rM (s:=s) (k:=k) (dF t w);unfold bx;generalize bK s k (dF t w)=p at *;simp only;split
 ·exact h
 ·have g:=pX (s:=p.1) (k:=p.2);split<;>exact h.trans g
theorem rN (p:Nat) (x:Ent):KS k (cG s k p x).2.2:=by
 have h:=rM (s:=s) (k:=k) (dp p x);unfold cG;generalize bK s k (dp p x)=q at *;simp only;split<;>exact h
theorem zL (x:Ent):KS k (fy s k x).2.2:=by
 have h:=rN (s:=s) (k:=k) s.log.length x;unfold fy;generalize cG s k s.log.length x=q at *;simp only;split
 ·exact h.trans pX
 ·exact h
theorem uI:KS k (fR s k).2.2:=by
 unfold fR;simp only;have h:=zL (s:={ s with leads:=true,next:=List.replicate s.n s.log.length,mat:=List.replicate s.n 0 }) (k:=k) ⟨s.term,[]⟩;split<;>exact h
theorem zK:KS k (fP s k).2.2:=by
 unfold fP;split
 ·exact KS.refl k
 ·have h:=nI (s:=s) (k:=k) (s.term+1) (s.own:Int);generalize bx s k (s.term+1) (s.own:Int)=p at *;simp only;split
  ·split
   ·exact h.trans uI
   ·exact h
  ·exact h
theorem Bm:KS k (eh s k).2.2:=by
 unfold eh;simp only;split
 ·exact KS.refl k
 ·split
  ·exact KS.refl k
  ·split
   ·exact zK
   ·split<;>exact KS.refl k
theorem wy (rec:List UInt8):KS k (bJ s k rec).2.2.2:=by
 unfold bJ;by_cases h1:rec.length=0
 ·rw [ax h1];exact KS.refl k
 rw [aw h1];by_cases h2:8000<rec.length
 ·rw [ax h2];exact KS.refl k
 rw [aw h2];simp only;by_cases h3:(aY s k).done=true
 ·rw [ax h3];exact KS.refl k
 rw [aw h3];by_cases h4:(!(aY s k).leads)=true
 ·rw [ax h4];exact KS.refl k
 rw [aw h4];by_cases h5:200<=ik (aY s k)\/2000<=(aY s k).many
 ·rw [ax h5];exact KS.refl k
 rw [aw h5];have hw:=zL (s:=aY s k) (k:=k) ⟨(aY s k).term,rec⟩;generalize fy (aY s k) k ⟨(aY s k).term,rec⟩=p at *;by_cases h6:p.1=true
 ·rw [ax h6];exact hw
 ·rw [aw h6];exact hw
theorem zO (m:Msg):KS k (dV s k m).2.2:=by
 unfold dV;split
 ·simp only;split
  ·split
   ·have h:=nI (s:=s) (k:=k) s.term m.frm;generalize bx s k s.term m.frm=p at *;split<;>exact h
   ·exact KS.refl k
  ·exact KS.refl k
 ·exact KS.refl k
theorem zI (m:Msg):KS k (eM s k m).2.2:=by
 unfold eM;split
 ·exact KS.refl k
 ·simp only;split
  ·exact uI
  ·exact KS.refl k
theorem zM (f:Nat) (l:List (Int×List UInt8)):∀(i:Nat) (s:Rp) (k:Dk),KS k (bE f l i s k).2.2:=by
 induction l with
 | nil=>intro i s k;exact KS.refl k
 | cons a l ih =>
  intro i s k;obtain ⟨t,rec⟩:=a;unfold bE;split
  ·exact ih _ _ _
  ·split
   ·exact KS.refl k
   ·have h:=rN (s:=s) (k:=k) (f+i) ⟨t,rec⟩;generalize cG s k (f+i) ⟨t,rec⟩=p at *;simp only;split
    ·exact h.trans (ih _ _ _)
    ·exact h
theorem Bn (m:Msg):KS k (dK s k m).2.2:=by
 unfold dK;by_cases hb:(!(m.N.length==4+m.B.length)||decide (m.N.getD 1 0<0)||(m.N.getD 0 0==s.term&&s.leads))=true
 ·rw [ax hb];exact KS.refl k
 rw [aw hb];by_cases h1:m.N.getD 0 0<s.term
 ·rw [ax h1];exact KS.refl k
 rw [aw h1];simp only;by_cases hft:eW { s with ticks:=0 } (m.N.getD 1 0) (m.N.getD 2 0)=true
 ·rw [ax hft];have hF:=zM (m.N.getD 1 0).toNat ((m.N.drop 4).zip m.B) 0 { s with ticks:=0 } k;generalize bE (m.N.getD 1 0).toNat ((m.N.drop 4).zip m.B) 0 { s with ticks:=0 } k=p at *;by_cases hp:p.1=true
  ·rw [ax hp];have hq:KS k (if m.B.length=0 then p.2 else cx p.2.1 p.2.2).2:=by
    split
    ·exact hF
    ·exact hF.trans pX
   generalize (if m.B.length=0 then p.2 else cx p.2.1 p.2.2)=q at *;split<;>exact hq
  ·rw [aw hp];exact hF
 ·rw [aw hft];exact KS.refl k
theorem Cx (m:Msg):KS k (fC s k m).2.2:=by
 unfold fC;by_cases hb:((aY s k).done||mh (aY s k) m)=true
 ·rw [ax hb];exact KS.refl k
 rw [aw hb];have hp:∃p:Bool×Rp×Dk,p=(if (aY s k).term<m.N.getD 0 0 then bx (aY s k) k (m.N.getD 0 0) (-1) else (true,aY s k,k))/\KS k p.2.2:=by
  split
  ·exact ⟨_,rfl,nI _ _⟩
  ·exact ⟨_,rfl,KS.refl k⟩
 obtain ⟨p,hpe,hk⟩:=hp;simp only;rw [<-hpe];by_cases h1:p.1=true
 ·rw [ax h1];split
  ·exact hk.trans (zO m)
  ·split
   ·exact hk.trans (zI m)
   ·split
    ·exact hk.trans (Bn m)
    ·split
     ·exact hk
     ·split
      ·split<;>exact hk
      ·exact hk
 ·rw [aw h1];exact hk
end
open Go.RowKit
theorem je {w:World} {base:Nat} {e:TypeId} {k:Nat} {v:Value} {n:Nat} {xs:List Value} (h:w.ownsRow base e k v n xs) {j:Nat} (hj:v.ownBlock=some j):base<=j/\∃cur,w.heap[j]? = some (.cells cur e (0,0)):=by
 rcases h.2 with ⟨rfl,_⟩ | ⟨g,cap,cur,rfl,hb,hh,_⟩
 ·simp [Value.ownBlock] at hj
 ·simp [Value.ownBlock] at hj;subst hj;exact ⟨hb,cur,hh⟩
theorem dQ {w:World} {base base':Nat} {e:TypeId} {k:Nat} {v:Value} {n:Nat} {xs:List Value} (h:w.ownsRow base e k v n xs) (hb:base'<=base):w.ownsRow base' e k v n xs:=by
 refine ⟨h.1,?_⟩;rcases h.2 with h2 | ⟨g,cap,cur,rfl,hg,r⟩
 ·exact .inl h2
 ·exact .inr ⟨g,cap,cur,rfl,aF hb hg,r⟩
def OwnL (w:World) (base:Nat) (v:Value) (ls:List (List UInt8)):Prop :=
 ∃vs:List Value,vs.length=ls.length/\w.ownsRow base 29 1 v ls.length vs/\(∀u∈vs,u.oneCell'=true)/\∀i,i<ls.length->OwnB w base 5 (vs.getD i undef) (ls.getD i [])
theorem OwnL.nil (w:World) (base:Nat):OwnL w base (.slice none 0 0) []:=⟨[],rfl,World.ownsRow_nil _ _ _ _,(λu hu=>by cases hu),(λi hi=>by simp at hi)⟩
theorem d8 {w w':World} {base:Nat} {e:TypeId} {k n:Nat} {v:Value} {xs:List Value} (h:w.ownsRow base e k v n xs) {S:List Nat} (ho:Only S w w') (hs:∀j∈S,∀cur,w.heap[j]? ≠ some (.cells cur e (0,0))):w'.ownsRow base e k v n xs :=
 bg h ho λb hb hm=>by
  obtain ⟨_,cur,hc⟩:=je h hb;exact hs b hm cur hc
theorem fe {w w':World} {base:Nat} {e:TypeId} {k n:Nat} {v:Value} {xs:List Value} (h:w.ownsRow base e k v n xs) (hb:Below w.heap.size w w'):w'.ownsRow base e k v n xs :=
 bg h (Only.ofBelow hb []) (λb _=>by simp)
theorem ny {w w':World} {base b2:Nat} {e e2:TypeId} {size n s2 n2:Nat} {v v2:Value} {xs x2:List Value} (h:w.ownsRow base e size v n xs) (h2:w.ownsRow b2 e2 s2 v2 n2 x2) (hne:e≠e2) (hg:w.grownBy w' v2.ownBlock):w'.ownsRow base e size v n xs:=by
 refine ⟨h.1,?_⟩;rcases h.2 with h3 | ⟨g,cap,cur,rfl,hg1,hh,r⟩
 ·exact .inl h3
 ·refine .inr ⟨g,cap,cur,rfl,hg1,?_,r⟩;rw [hg.block g (aU hh) (λhe=>?_)]
  ·exact hh
  ·obtain ⟨_,cur2,hh2⟩:=je h2 he.symm;rw [hh] at hh2;cases hh2;exact hne rfl
theorem OwnL.only {w w':World} {base:Nat} {v:Value} {ls:List (List UInt8)} (h:OwnL w base v ls) {S:List Nat} (ho:Only S w w') (hs:∀j∈S,∀cur,w.heap[j]? ≠ some (.cells cur 29 (0,0))/\w.heap[j]? ≠ some (.cells cur 5 (0,0))):OwnL w' base v ls:=by
 obtain ⟨vs,h1,h2,h3,h4⟩:=h;exact ⟨vs,h1,d8 h2 ho (λj hj cur=>(hs j hj cur).1),h3,λi hi=>d8 (h4 i hi) ho (λj hj cur=>(hs j hj cur).2)⟩
theorem OwnL.below {w w':World} {base:Nat} {v:Value} {ls:List (List UInt8)} (h:OwnL w base v ls) (hb:Below w.heap.size w w'):OwnL w' base v ls :=
 h.only (Only.ofBelow hb []) (λj hj=>by cases hj)
theorem OwnL.mono {w:World} {base base':Nat} {v:Value} {ls:List (List UInt8)} (h:OwnL w base v ls) (hb:base'<=base):OwnL w base' v ls:=by
 obtain ⟨vs,h1,h2,h3,h4⟩:=h;exact ⟨vs,h1,dQ h2 hb,h3,λi hi=>(h4 i hi).mono hb⟩
theorem OwnL.shape {w:World} {base:Nat} {v:Value} {ls:List (List UInt8)} (h:OwnL w base v ls):∃ao c,v = .slice ao ls.length c/\ls.length<=c/\c<=9223372036854775807:=by
 obtain ⟨vs,h1,⟨_,h2⟩,h3,h4⟩:=h;rcases h2 with ⟨rfl,h0⟩ | ⟨g,cap,cur,rfl,hb,hh,hn,hm,hs,ht⟩
 ·exact ⟨none,0,by rw [h0],by omega,by decide⟩
 ·unfold maxLen at hm;exact ⟨_,cap,rfl,hn,by omega⟩
theorem OwnL.isBB {w:World} {base:Nat} {v:Value} {ls:List (List UInt8)} (h:OwnL w base v ls) (hb:∀l∈ls,l.length<=140737488351232):∃ao c,v = .slice ao ls.length c/\IsBB w ao ls.length ls:=by
 obtain ⟨vs,h1,⟨h9,h5⟩,h3,h4⟩:=h;rcases h5 with ⟨rfl,h6⟩ | ⟨g,cap,cur,rfl,hg,hh,hn,hm,hs,ht⟩
 ·exact ⟨none,0,by rw [h6],⟨rfl,.inl h6⟩⟩
 ·refine ⟨_,cap,rfl,⟨rfl,.inr ⟨g,0,rfl,λi hi=>?_⟩⟩⟩;obtain ⟨a,c,k1,k2⟩:=(h4 i hi).isB;have h7:(cur.toList.take (ls.length*1))[i]? = vs[i]? := by rw [ht]
  rw [bP,ax (by omega)] at h7;have h8:i<vs.length:=by omega
  refine ⟨a,(ls.getD i []).length,c,?_,k2,hb _ ?_⟩
  ·rw [<-k1];simp only [World.cell?,hh,dg];rw [cA] at h7;rw [h7];simp [h8]
  ·rw [aK,jv hi];exact dy hi
theorem en {w:World} {ops:Array Oper} {rest:List Oper} {o:Oper} {a:Act} {Q:Exit->Act->World->Prop} (hgd:o.guard=none) (s x:Operand)
  (ho:o.op = .call { callee:=.builtin .append,args:=#[s,x],argTypes:=#[36,36]})
  (base:Nat) (v:Value) (ls:List (List UInt8)) (hs:a.eval s=v) (hown:OwnL w base v ls)
  (H:Nat) (u:Value) (l:List UInt8) (hx:a.eval x = .slice (some ⟨H,0,none⟩) 1 1) (hcell:w.cell? ⟨H,0,none⟩=some u) (hel:OwnB w base 5 u l)
  (hbytes:ls.length+1<=1000000) (hbase:base<=w.heap.size)
  (h:∀ao c w',OwnL w' base (.slice ao (ls.length+1) c) (ls++[l])->Below base w w'->w.grownBy w' v.ownBlock->wpList Try.prog ops Q rest (a.put o.dst (.slice ao (ls.length+1) c)) w'):wpList Try.prog ops Q (o::rest) a w:=by
 obtain ⟨i0,hi0,hz0,hz1,hz2⟩:=info_parts F.tL;obtain ⟨vs,h1,h2,h3,h4⟩:=hown;have hone:u.oneCell'=true:=by
  obtain ⟨ao,c,rfl,_⟩:=hel.isB;rfl
 refine wpList_append_own w hgd s x 36 ho base 29 i0 (.slice none 0 0) 1 24 Try.underlying36 hi0 hz0 hz1 hz2 rfl (by decide) v _ _ hs h2 ⟨H,0,none⟩ 1 1 [u] hx rfl ?_ ?_ (by unfold maxLen;omega) (by omega) hbase ?_
 ·intro j y hj
  match j,hj with
  | 0,hj=>rw [Addr.add_lit];simp at hj;rw [hcell,<-hj]
 ·intro y hy;obtain rfl:=aj.1 hy;exact hone
 ·intro v' w' g1 g2 _;have hb:Below base w w':=(aB base w).grown g2 hbase (λk hk=>(je h2 hk).1);have g3:=g1;obtain ⟨_,g4⟩:=g3;have hsh:∃ao c,v' = .slice ao (ls.length+1) c:=by
   rcases g4 with ⟨rfl,h0⟩ | ⟨g,cap,cur,rfl,_⟩
   ·omega
   ·exact ⟨_,_,rfl⟩
  obtain ⟨ao,c,rfl⟩:=hsh;refine h ao c w' ⟨vs++[u],by simp [h1],by rw [ay];exact g1,?_,?_⟩ hb g2
  ·intro y hy;rcases av.1 hy with hy | hy
   ·exact h3 y hy
   ·obtain rfl:=aj.1 hy;exact hone
  ·intro i hi;by_cases hlt:i<ls.length
   ·have:=ny (h4 i hlt) h2 (by decide) g2;unfold OwnB;simpa [cy,hlt,h1] using this
   ·obtain rfl:i=ls.length:=by simp at hi;omega
    have:=ny hel h2 (by decide) g2;rw [aK,aK,dH (by omega),dH (by omega),h1,pu];exact this
end Go.Proofs.Ytnicaicjgaoolaa
namespace Go.Proofs.Ytnicaicjgaoolaa.F
open Go.Proofs.Ytnicaicjgaoolaa Go.RowKit
set_option maxHeartbeats 1000000 in
theorem lN (ao:Option Addr) (n c:Nat) (B:List UInt8) (w:World) (h:IsB w ao n c B) (hn:n<=2000000) (hnc:n<=c) (hc9:c<=9223372036854775807) :
  Calls Try.prog 57 #[.slice ao n c] w λe w'=>∃v,CM v ((cU B).2.1:Int) ((cU B).2.2:Int) e/\OwnL w' w.heap.size v (cU B).1/\Below w.heap.size w w':=by
 have hlen:=h.len;have HB:=ab h;clear h;have HL:=ab hlen;clear hlen;have HS:Hid (gN B (B.length - 0) 0 []=cU B):=ab rfl;go_enter Try.func57,Try.ntmps57
 go_wp2_with fail
 go_loopw [2,3] (λv i wr=>∃(k:Nat) (ls:List (List UInt8)),k<=n/\ls.length*12<=k/\i = .int .i64 (k:Int)/\gN B (B.length - k) k ls=cU B/\OwnL wr w.heap.size v ls/\Below w.heap.size w wr) (λ_ i _=>n - (intOf i).toNat)
 case atStart=>exact ⟨0,[],by omega,by simp,rfl,HS.out,OwnL.nil _ _,aB _ _⟩
 case round =>
  clear HS;obtain ⟨k,ls,hk,hls,rfl,hsc,hown,hbl⟩:=hrel;have HSC:=ab hsc;clear hsc;have HO:=ab hown;clear hown;by_cases hlt:k<n
  ·obtain ⟨b,off,rfl⟩:∃b off,ao=some ⟨b,off,none⟩:=by
    rcases HB.out.at_ with h0 | ⟨b,off,h0,_⟩
    ·omega
    ·exact ⟨b,off,h0⟩
   have hD:IsB wr (some ⟨b,off+k,none⟩) (n - k) (c - k) (B.drop k):=(jM HB.out k (c - k) (by omega)).below hbl;have hkc:¬(c=k):=by omega
   have hst:=tj B k ls (by rw [HL.out];exact hlt);have hsp:=ti B k ls (by rw [HL.out];exact hlt);have hsz:=kJ (B.drop k);have hnext:=λw' (hw:IsB w' (some ⟨b,off+k,none⟩) (n - k) (c - k) (B.drop k))=>lm _ _ _ (B.drop k) w' hw (by omega) (by omega);generalize ec (B.drop k)=q at hst hsp hsz hnext;obtain ⟨sz,how⟩:=q;simp only at hst hsp hsz hnext;have HST:=ab hst;clear hst;have HSP:=ab hsp;clear hsp;have HSZ:=ab hsz;clear hsz;have HNX:=ab hnext;clear hnext;have HD:=ab hD;clear hD;go_wp2_with fail
   refine (HNX.out _ HD.out).mono ?_;rintro e w1 ⟨rfl,hb1⟩;have hB1:=hbl.trans (hb1.mono hbl.size);by_cases h0:how=0
   ·subst h0;have hstep:=HST.out rfl;obtain ⟨s1,s2,s3⟩:=HSZ.out rfl;rw [bw,HL.out] at s2;have HF:Hid (gN B (B.length - (k+sz)) (k+sz) (ls++[((B.drop k).take sz).drop 12])=cU B):=ab (by rw [<-HSC.out,hstep]);have hrec:IsB w1 (some ⟨b,off+(k+12),none⟩) (k+sz - (k+12)) (c - (k+12)) (((B.drop k).take sz).drop 12):=by
     have h1:=lx (HD.out.below hb1) sz s2;have h2:=jM h1 12 (c - (k+12)) s1;rw [Nat.add_assoc,show sz - 12=k+sz - (k+12) by omega] at h2;exact h2
    generalize ((B.drop k).take sz).drop 12=rec at hrec HF;clear hstep HST HSP HSZ HNX HD HSC;have hO1:=HO.out.below hb1;have HO1:=ab hO1;clear hO1 HO;have HR:=ab hrec;clear hrec;by_cases hck:c=k+12
    ·have hsz12:sz=12:=by omega
     have hnk:n=k+12:=by omega
     subst hck hsz12 hnk;have hrl:=HR.out.len;obtain rfl:rec=[]:=bC.1 (by omega);have hlb:ls.length+1<=1000000:=by omega
     clear hrl HR;go_wp2_with fail
     refine (dJ (some ⟨b,off,none⟩) 0 0 [] _ (nJ 0) (by omega)).mono ?_;rintro e w2 ⟨v2,rfl,hown2,hb2⟩;have hB2:=hB1.trans (hb2.mono hB1.size);have hel0:=hown2.mono hB1.size;obtain ⟨a2,c2,rfl,_⟩:=pP hown2 0 rfl;have hel:=ab (hel0.alloc (.cells #[.slice a2 0 c2] 29));have hO2:=ab ((HO1.out.below hb2).below ((aB _ _).alloc (ah _) (.cells #[.slice a2 0 c2] 29)));have hz2:=hB2.size;have HB2:=ab hB2;clear hown2 hel0 hb2 hB2 hb1 hB1 HO1;go_wp2_with (at_builtin;refine en rfl _ _ rfl w.heap.size _ ls rfl hO2.out w2.heap.size (.slice a2 0 c2) [] rfl (by rw [World.cell?_alloc_mark];rfl) hel.out hlb (by simp;omega) ?_;intro a3 c3 w3 hown3 hb3 hgr3;clear hgr3)
     go_roundw
     case rel=>exact ⟨k+12,_,by omega,by simp;omega,by go_num,HF.out,hown3,(HB2.out.alloc hz2 _).trans hb3⟩
     case measure=>simp [intOf];omega
    ·have hrl:=HR.out.len;go_wp2_with fail
     refine (dJ _ _ _ rec _ HR.out (by omega)).mono ?_;rintro e w2 ⟨v2,rfl,hown2,hb2⟩;have hB2:=hB1.trans (hb2.mono hB1.size);have hel0:=hown2.mono hB1.size;obtain ⟨a2,c2,rfl,_⟩:=pP hown2 _ hrl;have hel:=ab (hel0.alloc (.cells #[.slice a2 (k+sz - (k+12)) c2] 29));have hO2:=ab ((HO1.out.below hb2).below ((aB _ _).alloc (ah _) (.cells #[.slice a2 (k+sz - (k+12)) c2] 29)));have hlb:ls.length+1<=1000000:=by omega
     have hz2:=hB2.size;have HB2:=ab hB2;clear hown2 hel0 hb2 hB2 hb1 hB1 HO1 HR hrl;go_wp2_with (at_builtin;refine en rfl _ _ rfl w.heap.size _ ls rfl hO2.out w2.heap.size (.slice a2 (k+sz - (k+12)) c2) rec rfl (by rw [World.cell?_alloc_mark];rfl) hel.out hlb (by simp;omega) ?_;intro a3 c3 w3 hown3 hb3 hgr3;clear hgr3)
     go_roundw
     case rel=>exact ⟨k+sz,_,by omega,by simp;omega,by go_num,HF.out,hown3,(HB2.out.alloc hz2 _).trans hb3⟩
     case measure=>simp [intOf];omega
   ·have hstop:=HSP.out h0;have HF:Hid (cU B=(ls,k,how)):=ab (by rw [<-HSC.out,hstop]);clear hstop;have g0:((how:Int) != 0)=true:=by simp;omega
    go_wp2_with fail
    go_ret3
    refine ⟨_,by unfold CM;rw [HF.out];rfl,?_,hB1⟩;rw [HF.out];exact HO.out.below hb1
  ·obtain rfl:k=n:=by omega
   have HF:Hid (cU B=(ls,k,0)):=ab (by rw [<-HSC.out,iE B _ k ls (by rw [HL.out];exact ah _)]);go_wp2_with fail
   go_ret3
   refine ⟨_,by unfold CM;rw [HF.out];rfl,?_,hbl⟩;rw [HF.out];exact HO.out
end Go.Proofs.Ytnicaicjgaoolaa.F
