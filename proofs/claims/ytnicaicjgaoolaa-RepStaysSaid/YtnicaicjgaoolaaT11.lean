/-
  What the proof of the law leans on: contracts of the program's functions, one behind another. No condition.
-/
import Derived.Test.YtnicaicjgaoolaaT10
import Derived.Test.YtnicaicjgaoolaaT3
set_option linter.unusedVariables false
set_option linter.unusedSimpArgs false
namespace Go.Proofs.Ytnicaicjgaoolaa
set_option maxRecDepth 20000
/-- a message that one of n has said to another one -/
structure GoodM (own n:Nat) (m:Msg):Prop where
 frm:m.frm=(own:Int)
 ne:(m.dst==(own:Int))=false
 d0:0≤m.dst
 dn:m.dst<(n:Int)
 n1:m.N.getD 1 0≤1000000
 bl:m.B.length≤20
 nl:m.N.length≤24
/-- behind a call: the state stays fit, the name stays, what is said is good -/
structure Out (s:Rp) (d:Nat) (p:List Msg×Rp×Dk):Prop where
 wf:Wf p.2.1 p.2.2
 own:p.2.1.own=s.own
 n:p.2.1.n=s.n
 clock:p.2.1.clock≤s.clock+d
 ms:∀m∈p.1,GoodM s.own s.n m
section
variable {s s':Rp} {k k':Dk}
theorem Out.none {d:Nat} (h:Wf s' k') (h1:s'.own=s.own) (h2:s'.n=s.n) (h3:s'.clock≤s.clock+d):Out s d ([],s',k'):=⟨h,h1,h2,h3,fun m hm=>by cases hm⟩
theorem good_laying (h:Wf s k) (hl:s.leads=true) (i:Nat) (hi:i<s.n) (hne:i≠s.own):GoodM s.own s.n (layingM s i):=by
 have hlb:=h.logb
 have hb:=(h.lead hl i).1
 refine ⟨rfl,?_,by unfold layingM;simp,by unfold layingM;simp;exact hi,?_,?_,?_⟩
 ·unfold layingM;simp;omega
 ·unfold layingM
  simp only [List.cons_append,List.nil_append,List.getD_cons_succ,List.getD_cons_zero]
  omega
 ·unfold layingM;simp;omega
 ·unfold layingM;simp;omega
theorem good_telling (h:Wf s k) (kind:Int) (i:Nat) (hi:i<s.n) (hne:i≠s.own):GoodM s.own s.n (telling s kind i):=by
 have hlb:=h.logb
 refine ⟨rfl,?_,by unfold telling sayM;simp,by unfold telling sayM;simp;exact hi,?_,by unfold telling sayM;simp,by unfold telling sayM;simp⟩
 ·unfold telling sayM;simp;omega
 ·unfold telling sayM
  simp only [List.getD_cons_succ,List.getD_cons_zero]
  omega
theorem good_say (d kind:Int) (N:List Int) (hd0:0≤d) (hdn:d<(s.n:Int)) (hne:(d==(s.own:Int))=false) (h1:N.getD 1 0≤1000000) (h2:N.length≤24):GoodM s.own s.n (sayM s d kind N) :=
 ⟨rfl,hne,hd0,hdn,h1,by unfold sayM;simp,h2⟩
theorem mem_othersG (f:Nat→Msg) (m:Msg) (h:m∈othersM s f):∃i,i<s.n∧i≠s.own∧m=f i:=by
 unfold othersM at h
 obtain ⟨i,hi,rfl⟩:=List.mem_map.1 h
 have h2:=List.mem_filter.1 hi
 exact ⟨i,List.mem_range.1 h2.1,by simpa using h2.2,rfl⟩
theorem good_layings (h:Wf s k) (hl:s.leads=true):∀m∈othersM s (layingM s),GoodM s.own s.n m:=fun m hm=>by
 obtain ⟨i,h1,h2,rfl⟩:=mem_othersG _ _ hm
 exact good_laying h hl i h1 h2
theorem good_tellings (h:Wf s k) (kind:Int):∀m∈othersM s (telling s kind),GoodM s.own s.n m:=fun m hm=>by
 obtain ⟨i,h1,h2,rfl⟩:=mem_othersG _ _ hm
 exact good_telling h kind i h1 h2
theorem settle_sameG:(settleM s).2.own=s.own∧(settleM s).2.n=s.n∧(settleM s).2.clock=s.clock∧(settleM s).2.leads=s.leads:=by
 have ha:∀(t:Rp) (m:Nat),(agreeM t m).own=t.own∧(agreeM t m).n=t.n∧(agreeM t m).clock=t.clock∧(agreeM t m).leads=t.leads:=fun t m=>by unfold agreeM;split<;>exact ⟨rfl,rfl,rfl,rfl⟩
 unfold settleM
 simp only
 split
 ·exact ha _ _
 ·exact ⟨rfl,rfl,rfl,rfl⟩
theorem Same.all (h:Same s s'):s'.own=s.own∧s'.n=s.n∧s'.clock=s.clock∧s'.leads=s.leads∧s'.term=s.term∧s'.agreed=s.agreed:=by
 obtain ⟨w,d,l,rfl⟩:=h
 exact ⟨rfl,rfl,rfl,rfl,rfl,rfl⟩
theorem enter_sameG (term who:Int):(enterM s k term who).2.1.own=s.own∧(enterM s k term who).2.1.n=s.n∧(enterM s k term who).2.1.clock=s.clock∧((enterM s k term who).1=true→(enterM s k term who).2.1.term=term):=by
 have e1:=(same_write (s:=s) (k:=k) (noteT term who)).all
 unfold enterM
 generalize writeM s k (noteT term who)=p at *
 simp only
 split
 ·exact ⟨e1.1,e1.2.1,e1.2.2.1,fun h=>by cases h⟩
 ·have e2:=(same_sync (s:=p.1) (k:=p.2)).all
  generalize syncM p.1 p.2=q at *
  split
  ·exact ⟨e2.1.trans e1.1,e2.2.1.trans e1.2.1,e2.2.2.1.trans e1.2.2.1,fun h=>by cases h⟩
  ·exact ⟨e2.1.trans e1.1,e2.2.1.trans e1.2.1,e2.2.2.1.trans e1.2.2.1,fun _=>rfl⟩
theorem out_lead (h:Wf s k):Out s 0 (leadM s k):=by
 have h1:=wf_put (wf_leads h) ⟨s.term,[]⟩ (by simp)
 have hs:=(same_put (s:={ s with leads:=true,next:=List.replicate s.n s.log.length,mat:=List.replicate s.n 0 }) (k:=k) ⟨s.term,[]⟩).all
 refine ⟨wf_lead h,?_,?_,?_,?_⟩
 all_goals
  unfold leadM
  simp only
  generalize putM { s with leads:=true,next:=List.replicate s.n s.log.length,mat:=List.replicate s.n 0 } k ⟨s.term,[]⟩=p at *
  have hst:=settle_sameG (s:=p.2.1)
  split
 ·exact hst.1.trans hs.1
 ·exact hs.1
 ·exact hst.2.1.trans hs.2.1
 ·exact hs.2.1
 ·rw [hst.2.2.1,hs.2.2.1];exact Nat.le_refl _
 ·rw [hs.2.2.1];exact Nat.le_refl _
 ·have e1:(settleM p.2.1).2.own=s.own:=hst.1.trans hs.1
  have e2:(settleM p.2.1).2.n=s.n:=hst.2.1.trans hs.2.1
  rw [←e1,←e2]
  exact good_layings (wf_settle h1) (by rw [hst.2.2.2,hs.2.2.2.1])
 ·intro m hm;cases hm
theorem Out.of {a b:Rp} {d d':Nat} {p:List Msg×Rp×Dk} (h:Out b d p) (h1:b.own=a.own) (h2:b.n=a.n) (h3:b.clock+d≤a.clock+d'):Out a d' p :=
 ⟨h.wf,h.own.trans h1,h.n.trans h2,Nat.le_trans h.clock h3,by rw [←h1,←h2];exact h.ms⟩
theorem out_stand (h:Wf s k):Out s 0 (standM s k):=by
 unfold standM
 by_cases ht:1099511627776≤s.term
 ·rw [if_pos ht]
  exact Out.none h rfl rfl (Nat.le_refl _)
 ·rw [if_neg ht]
  have hw:=wf_enter h (s.term+1) (s.own:Int) (by have:=h.term0;omega) (by omega) (by omega) (by have:=h.own;omega)
  have he:=enter_sameG (s:=s) (k:=k) (s.term+1) (s.own:Int)
  generalize enterM s k (s.term+1) (s.own:Int)=p at *
  simp only
  split
  ·have hv:((List.replicate s.n false).set s.own true).length=p.2.1.n:=by simp [he.2.1]
   have h1:Wf { p.2.1 with ticks:=0,votes:=(List.replicate s.n false).set s.own true } p.2.2:=wf_scal hw p.2.1.lives 0 p.2.1.clock _ (Nat.zero_le _) hv (Nat.le_refl _)
   split
   ·exact (out_lead h1).of he.1 he.2.1 (Nat.le_of_eq he.2.2.1)
   ·refine ⟨h1,he.1,he.2.1,by rw [show (_:Rp).clock=p.2.1.clock from rfl,he.2.2.1];exact Nat.le_refl _,?_⟩
    rw [←he.1,←he.2.1]
    exact good_tellings h1 1
  ·exact Out.none hw he.1 he.2.1 (by rw [he.2.2.1];exact Nat.le_refl _)
theorem out_tick (h:Wf s k):Out s 1 (tickM s k):=by
 have h0:=wf_doneS h
 unfold tickM
 simp only
 split
 ·exact Out.none h0 rfl rfl (Nat.le_succ _)
 ·have h1:Wf { doneS s k with clock:=(doneS s k).clock+1 } k:=wf_scal h0 (doneS s k).lives (doneS s k).ticks ((doneS s k).clock+1) (doneS s k).votes (Nat.le_succ_of_le h0.tick) h0.vl (Nat.le_succ _)
  split
  ·rename_i hl
   exact ⟨h1,rfl,rfl,Nat.le_refl _,good_layings h1 hl⟩
  ·have h2:Wf { doneS s k with clock:=(doneS s k).clock+1,ticks:=(doneS s k).ticks+1 } k:=wf_scal h0 (doneS s k).lives ((doneS s k).ticks+1) ((doneS s k).clock+1) (doneS s k).votes (Nat.succ_le_succ h0.tick) h0.vl (Nat.le_succ _)
   split
   ·exact (out_stand h2).of rfl rfl (Nat.le_refl _)
   ·split
    ·exact ⟨h2,rfl,rfl,Nat.le_refl _,good_tellings h2 5⟩
    ·exact Out.none h2 rfl rfl (Nat.le_refl _)
theorem out_submit (h:Wf s k) (rec:List UInt8):Out s 0 ((submitM s k rec).1,(submitM s k rec).2.2):=by
 have h0:=wf_doneS h
 unfold submitM
 by_cases h1:rec.length=0
 ·rw [if_pos h1];exact Out.none h rfl rfl (Nat.le_refl _)
 rw [if_neg h1]
 by_cases h2:8000<rec.length
 ·rw [if_pos h2];exact Out.none h rfl rfl (Nat.le_refl _)
 rw [if_neg h2]
 simp only
 by_cases h3:(doneS s k).done=true
 ·rw [if_pos h3];exact Out.none h0 rfl rfl (Nat.le_refl _)
 rw [if_neg h3]
 by_cases h4:(!(doneS s k).leads)=true
 ·rw [if_pos h4];exact Out.none h0 rfl rfl (Nat.le_refl _)
 rw [if_neg h4]
 by_cases h5:200≤openM (doneS s k)∨2000≤(doneS s k).many
 ·rw [if_pos h5];exact Out.none h0 rfl rfl (Nat.le_refl _)
 rw [if_neg h5]
 have hw:=wf_put h0 ⟨(doneS s k).term,rec⟩ (by simpa using h2)
 have hs:=(same_put (s:=doneS s k) (k:=k) ⟨(doneS s k).term,rec⟩).all
 generalize putM (doneS s k) k ⟨(doneS s k).term,rec⟩=p at *
 have hst:=settle_sameG (s:=p.2.1)
 by_cases h6:p.1=true
 ·rw [if_pos h6]
  refine ⟨wf_settle hw,hst.1.trans hs.1,hst.2.1.trans hs.2.1,?_,?_⟩
  ·show (settleM p.2.1).2.clock≤_
   rw [hst.2.2.1,hs.2.2.1];exact Nat.le_refl _
  ·have e1:(settleM p.2.1).2.own=s.own:=hst.1.trans hs.1
   have e2:(settleM p.2.1).2.n=s.n:=hst.2.1.trans hs.2.1
   rw [←e1,←e2]
   exact good_layings (wf_settle hw) (by rw [hst.2.2.2,hs.2.2.2.1];simpa using h4)
 ·rw [if_neg h6]
  exact Out.none hw hs.1 hs.2.1 (by rw [hs.2.2.1];exact Nat.le_refl _)
section
variable (m:Msg) (hf0:0≤m.frm) (hfn:m.frm<(s.n:Int)) (hfo:(m.frm==(s.own:Int))=false)
include hf0 hfn hfo
theorem out_asked (h:Wf s k):Out s 0 (askedM s k m):=by
 unfold askedM
 split
 ·simp only
  split
  ·split
   ·have hw:=wf_enter h s.term m.frm h.term0 h.termM (by omega) hfn
    have he:=enter_sameG (s:=s) (k:=k) s.term m.frm
    generalize enterM s k s.term m.frm=p at *
    split
    ·have h1:Wf { p.2.1 with ticks:=0 } p.2.2:=wf_scal hw p.2.1.lives 0 p.2.1.clock _ (Nat.zero_le _) hw.vl (Nat.le_refl _)
     refine ⟨h1,he.1,he.2.1,Nat.le_of_eq he.2.2.1,fun x hx=>?_⟩
     rw [List.mem_singleton.1 hx]
     have:=good_say (s:={ p.2.1 with ticks:=0 }) m.frm 2 [p.2.1.term,1] hf0 (by rw [show (_:Rp).n=p.2.1.n from rfl,he.2.1];exact hfn) (by rw [show (_:Rp).own=p.2.1.own from rfl,he.1];exact hfo) (by simp) (by simp)
     rw [show (_:Rp).own=p.2.1.own from rfl,show (_:Rp).n=p.2.1.n from rfl,he.1,he.2.1] at this
     exact this
    ·exact Out.none hw he.1 he.2.1 (Nat.le_of_eq he.2.2.1)
   ·have h1:Wf { s with ticks:=0 } k:=wf_scal h s.lives 0 s.clock _ (Nat.zero_le _) h.vl (Nat.le_refl _)
    refine ⟨h1,rfl,rfl,Nat.le_refl _,fun x hx=>?_⟩
    rw [List.mem_singleton.1 hx]
    exact good_say (s:={ s with ticks:=0 }) m.frm 2 [s.term,1] hf0 hfn hfo (by simp) (by simp)
  ·refine ⟨h,rfl,rfl,Nat.le_refl _,fun x hx=>?_⟩
   rw [List.mem_singleton.1 hx]
   exact good_say m.frm 2 [s.term,0] hf0 hfn hfo (by simp) (by simp)
 ·exact Out.none h rfl rfl (Nat.le_refl _)
omit hf0 hfn hfo in
theorem out_voted (h:Wf s k):Out s 0 (votedM s k m):=by
 unfold votedM
 split
 ·exact Out.none h rfl rfl (Nat.le_refl _)
 ·have h1:Wf { s with votes:=s.votes.set m.frm.toNat true } k:=wf_scal h s.lives s.ticks s.clock _ h.tick (by simpa using h.vl) (Nat.le_refl _)
  simp only
  split
  ·exact (out_lead h1).of rfl rfl (Nat.le_refl _)
  ·exact Out.none h1 rfl rfl (Nat.le_refl _)
theorem out_answered (h:Wf s k):Out s 0 ((answeredM s m).1,(answeredM s m).2,k):=by
 unfold answeredM
 by_cases hb:(!s.leads || !(m.N.getD 0 0==s.term) || !(m.N.length==3)||decide (m.N.getD 2 0<0)||decide ((s.log.length:Int)<m.N.getD 2 0))=true
 ·rw [if_pos hb];exact Out.none h rfl rfl (Nat.le_refl _)
 rw [if_neg hb]
 simp only [Bool.or_eq_true,Bool.not_eq_true',not_or,Bool.not_eq_false,decide_eq_true_eq] at hb
 obtain ⟨⟨⟨⟨hl,_⟩,_⟩,hk0⟩,hkl⟩:=hb
 have hk:(m.N.getD 2 0).toNat≤s.log.length:=by omega
 have hwn:m.frm.toNat<s.n:=by omega
 have hwo:m.frm.toNat≠s.own:=fun e=>by
  have:(m.frm==(s.own:Int))=true:=by rw [beq_iff_eq];omega
  rw [this] at hfo;cases hfo
 simp only
 by_cases h1:m.N.getD 1 0=0
 ·rw [if_pos h1]
  split
  ·exact Out.none h rfl rfl (Nat.le_refl _)
  ·have hw:=wf_next h m.frm.toNat (max (m.N.getD 2 0).toNat (s.mat.getD m.frm.toNat 0)) (fun hl=>by have:=(h.lead hl m.frm.toNat).2;omega)
   refine ⟨hw,rfl,rfl,Nat.le_refl _,fun x hx=>?_⟩
   rw [List.mem_singleton.1 hx]
   exact good_laying hw hl _ hwn hwo
 ·rw [if_neg h1]
  split
  ·exact Out.none h rfl rfl (Nat.le_refl _)
  ·have hw1:=wf_mat h m.frm.toNat (m.N.getD 2 0).toNat (fun _=>hk)
   have hw:=wf_next hw1 m.frm.toNat (max (m.N.getD 2 0).toNat (s.next.getD m.frm.toNat 0)) (fun hl=>by have:=(h.lead hl m.frm.toNat).1;show _≤s.log.length;omega)
   have hws:=wf_settle hw
   have hst:=settle_sameG (s:={ s with mat:=s.mat.set m.frm.toNat (m.N.getD 2 0).toNat,next:=s.next.set m.frm.toNat (max (m.N.getD 2 0).toNat (s.next.getD m.frm.toNat 0))})
   generalize settleM { s with mat:=s.mat.set m.frm.toNat (m.N.getD 2 0).toNat,next:=s.next.set m.frm.toNat (max (m.N.getD 2 0).toNat (s.next.getD m.frm.toNat 0))}=p at *
   have e1:p.2.own=s.own:=hst.1
   have e2:p.2.n=s.n:=hst.2.1
   have e3:p.2.clock≤s.clock+0:=Nat.le_of_eq hst.2.2.1
   have e4:p.2.leads=true:=hst.2.2.2.trans hl
   split
   ·refine ⟨hws,e1,e2,e3,?_⟩
    rw [←e1,←e2]
    exact good_layings hws e4
   ·split
    ·refine ⟨hws,e1,e2,e3,fun x hx=>?_⟩
     rw [List.mem_singleton.1 hx,←e1,←e2]
     exact good_laying hws e4 _ (by rw [e2];exact hwn) (by rw [e1];exact hwo)
    ·exact Out.none hws e1 e2 e3
end
theorem place_logG (p:Nat) (x:Ent) (h:(placeM s k p x).1=true):(placeM s k p x).2.1.log=s.log.take p++[x]:=by
 have e1:=write_same (s:=s) (k:=k) (noteE p x)
 unfold placeM at h ⊢
 generalize writeM s k (noteE p x)=q at *
 simp only at h ⊢
 split at h
 ·cases h
 ·rename_i hd
  rw [if_neg hd]
  show q.1.log.take p++[x]=_
  rw [e1]
theorem laysF_out (f:Nat) (l:List (Int×List UInt8)):∀(i:Nat) (s:Rp) (k:Dk),Wf s k→s.leads=false→f+i≤s.log.length →
  Wf (laysF f l i s k).2.1 (laysF f l i s k).2.2∧Same s (laysF f l i s k).2.1∧((laysF f l i s k).1=true→f+i+l.length≤(laysF f l i s k).2.1.log.length):=by
 induction l with
 | nil=>intro i s k h hl hf;exact ⟨h,Same.refl _,fun _=>hf⟩
 | cons a l ih =>
  intro i s k h hl hf
  obtain ⟨t,rec⟩:=a
  unfold laysF
  by_cases h1:f+i<s.log.length∧(s.log.map Ent.term).getD (f+i) 0=t
  ·rw [if_pos h1]
   have h2:=ih (i+1) s k h hl (by omega)
   refine ⟨h2.1,h2.2.1,fun e=>?_⟩
   have:=h2.2.2 e
   simp only [List.length_cons]
   omega
  ·rw [if_neg h1]
   by_cases h2:8000<rec.length∨t<1∨s.term<t∨f+i<s.agreed
   ·rw [if_pos h2]
    exact ⟨h,Same.refl _,fun e=>by cases e⟩
   ·rw [if_neg h2]
    have hw:=wf_place h (f+i) ⟨t,rec⟩ hf (by omega) (fun e=>by rw [hl] at e;cases e) (by show rec.length≤8000;omega)
    have hs:=same_place (s:=s) (k:=k) (f+i) ⟨t,rec⟩
    have hg:=place_logG (s:=s) (k:=k) (f+i) ⟨t,rec⟩
    generalize placeM s k (f+i) ⟨t,rec⟩=p at *
    simp only
    by_cases h3:p.1=true
    ·rw [if_pos h3]
     have hlen:p.2.1.log.length=f+i+1:=by
      rw [hg h3];simp [Nat.min_eq_left hf]
     have h4:=ih (i+1) p.2.1 p.2.2 hw (hs.all.2.2.2.1.trans hl) (by omega)
     refine ⟨h4.1,hs.trans h4.2.1,fun e=>?_⟩
     have:=h4.2.2 e
     simp only [List.length_cons]
     omega
    ·rw [if_neg h3]
     exact ⟨hw,hs,fun e=>by cases e⟩
theorem agree_sameG (n:Nat):(agreeM s n).own=s.own∧(agreeM s n).n=s.n∧(agreeM s n).clock=s.clock∧(agreeM s n).leads=s.leads∧(agreeM s n).term=s.term∧(agreeM s n).log=s.log:=by
 unfold agreeM;split<;>exact ⟨rfl,rfl,rfl,rfl,rfl,rfl⟩
theorem out_lays (m:Msg) (hf0:0≤m.frm) (hfn:m.frm<(s.n:Int)) (hfo:(m.frm==(s.own:Int))=false) (h:Wf s k) (hle:m.N.getD 0 0≤s.term):Out s 0 (laysM s k m):=by
 unfold laysM
 by_cases hb:(!(m.N.length==4+m.B.length)||decide (m.N.getD 1 0<0)||(m.N.getD 0 0==s.term&&s.leads))=true
 ·rw [if_pos hb];exact Out.none h rfl rfl (Nat.le_refl _)
 rw [if_neg hb]
 have h0:Wf { s with ticks:=0 } k:=wf_scal h s.lives 0 s.clock _ (Nat.zero_le _) h.vl (Nat.le_refl _)
 by_cases h1:m.N.getD 0 0<s.term
 ·rw [if_pos h1]
  refine ⟨h,rfl,rfl,Nat.le_refl _,fun x hx=>?_⟩
  rw [List.mem_singleton.1 hx]
  exact good_say m.frm 4 [s.term,0,0] hf0 hfn hfo (by simp) (by simp)
 rw [if_neg h1]
 simp only
 simp only [Bool.or_eq_true,Bool.not_eq_true',not_or,Bool.not_eq_false,decide_eq_true_eq,Bool.and_eq_true,beq_iff_eq,not_and] at hb
 obtain ⟨⟨hNl,hN1⟩,hld⟩:=hb
 have hld2:s.leads=false:=by
  have:=hld (by omega)
  simpa using this
 by_cases hft:fitsM { s with ticks:=0 } (m.N.getD 1 0) (m.N.getD 2 0)=true
 ·rw [if_pos hft]
  have hfl:(m.N.getD 1 0).toNat≤s.log.length:=by
   unfold fitsM at hft
   simp only [Bool.and_eq_true,decide_eq_true_eq] at hft
   omega
  have hz:((m.N.drop 4).zip m.B).length=m.B.length:=by
   rw [List.length_zip,List.length_drop];omega
  have hF:=laysF_out (m.N.getD 1 0).toNat ((m.N.drop 4).zip m.B) 0 { s with ticks:=0 } k h0 hld2 hfl
  rw [hz] at hF
  generalize laysF (m.N.getD 1 0).toNat ((m.N.drop 4).zip m.B) 0 { s with ticks:=0 } k=p at *
  obtain ⟨hw,hs,hlen⟩:=hF
  have hsa:=hs.all
  by_cases hp:p.1=true
  ·rw [if_pos hp]
   have hlen:=hlen hp
   have hq:∃q:Rp×Dk,q=(if m.B.length=0 then p.2 else syncM p.2.1 p.2.2)∧Wf q.1 q.2∧q.1.own=s.own∧q.1.n=s.n∧q.1.clock=s.clock∧q.1.log=p.2.1.log:=by
    by_cases h2:m.B.length=0
    ·rw [if_pos h2];exact ⟨_,rfl,hw,hsa.1,hsa.2.1,hsa.2.2.1,rfl⟩
    ·rw [if_neg h2]
     have e:=(same_sync (s:=p.2.1) (k:=p.2.2)).all
     exact ⟨_,rfl,wf_sync hw,e.1.trans hsa.1,e.2.1.trans hsa.2.1,e.2.2.1.trans hsa.2.2.1,by rw [sync_same]⟩
   obtain ⟨q,hqe,hqw,q1,q2,q3,q4⟩:=hq
   rw [←hqe]
   split
   ·exact Out.none hqw q1 q2 (Nat.le_of_eq q3)
   ·have hag:=agree_sameG (s:=q.1) (min (m.N.getD 3 0) (((m.N.getD 1 0).toNat+m.B.length:Nat):Int)).toNat
    have hwa:=wf_agree hqw (min (m.N.getD 3 0) (((m.N.getD 1 0).toNat+m.B.length:Nat):Int)).toNat (by rw [q4];omega)
    generalize agreeM q.1 (min (m.N.getD 3 0) (((m.N.getD 1 0).toNat+m.B.length:Nat):Int)).toNat=s2 at *
    refine ⟨hwa,hag.1.trans q1,hag.2.1.trans q2,Nat.le_of_eq (hag.2.2.1.trans q3),fun x hx=>?_⟩
    rw [List.mem_singleton.1 hx,←hag.1.trans q1,←hag.2.1.trans q2]
    exact good_say m.frm 4 _ hf0 (by rw [hag.2.1.trans q2];exact hfn) (by rw [hag.1.trans q1];exact hfo) (by simp) (by simp)
  ·rw [if_neg hp]
   exact Out.none hw hsa.1 hsa.2.1 (Nat.le_of_eq hsa.2.2.1)
 ·rw [if_neg hft]
  refine ⟨h0,rfl,rfl,Nat.le_refl _,fun x hx=>?_⟩
  rw [List.mem_singleton.1 hx]
  exact good_say (s:={ s with ticks:=0 }) m.frm 4 _ hf0 hfn hfo (by simp) (by simp)
theorem wf_heard (h:Wf s k) (i:Nat) (a b:Int):Wf { s with heard:=s.heard.set i ((s.clock:Int),a,b)} k :=
 ⟨h.n1,h.n5,h.own,h.vl,h.nl,h.ml,by simpa using h.hl,h.room,h.tot,h.fil,h.logl,h.agr,h.man,h.lead,h.term0,h.termM,h.cho,h.choM,h.recl,h.tick,fun x hx=>by
  rcases List.mem_or_eq_of_mem_set hx with h1 | h1
  ·exact h.hrd x h1
  ·rw [h1];exact ⟨by simp,Int.le_refl _⟩⟩
theorem out_get (h:Wf s k) (m:Msg):Out s 0 (getM s k m):=by
 have h0:=wf_doneS h
 unfold getM
 by_cases hb:((doneS s k).done||badM (doneS s k) m)=true
 ·rw [if_pos hb];exact Out.none h0 rfl rfl (Nat.le_refl _)
 rw [if_neg hb]
 simp only [Bool.or_eq_true,not_or] at hb
 have hbad:=hb.2
 unfold badM at hbad
 simp only [Bool.or_eq_true,Bool.not_eq_true',not_or,Bool.not_eq_false,decide_eq_true_eq] at hbad
 obtain ⟨⟨⟨⟨⟨⟨_,hfo⟩,hf0⟩,hfn⟩,hln⟩,hN0⟩,hNM⟩:=hbad
 have hfo:(m.frm==(s.own:Int))=false:=by
  have h9:¬(m.frm=((doneS s k).own:Int)):=by simpa using hfo
  have h8:¬(m.frm=(s.own:Int)):=h9
  simpa using h8
 have hfn:m.frm<(s.n:Int):=by
  have:¬((s.n:Int)≤m.frm):=hfn
  omega
 have hf0:0≤m.frm:=by omega
 have hp:∃p:Bool×Rp×Dk,p=(if (doneS s k).term<m.N.getD 0 0 then enterM (doneS s k) k (m.N.getD 0 0) (-1) else (true,doneS s k,k))∧Wf p.2.1 p.2.2∧p.2.1.own=s.own∧p.2.1.n=s.n∧p.2.1.clock=s.clock∧(p.1=true→m.N.getD 0 0≤p.2.1.term):=by
  by_cases ht:(doneS s k).term<m.N.getD 0 0
  ·rw [if_pos ht]
   have he:=enter_sameG (s:=doneS s k) (k:=k) (m.N.getD 0 0) (-1)
   exact ⟨_,rfl,wf_enter h0 _ _ (by omega) (by omega) (by omega) (by have:=h0.n1;omega),he.1,he.2.1,he.2.2.1,fun e=>by rw [he.2.2.2 e];exact Int.le_refl _⟩
  ·rw [if_neg ht]
   exact ⟨_,rfl,h0,rfl,rfl,rfl,fun _=>by show _≤(doneS s k).term;omega⟩
 obtain ⟨p,hpe,hw,p1,p2,p3,p4⟩:=hp
 simp only
 rw [←hpe]
 by_cases h1:p.1=true
 ·rw [if_pos h1]
  have hfn2:m.frm<(p.2.1.n:Int):=by rw [p2];exact hfn
  have hfo2:(m.frm==(p.2.1.own:Int))=false:=by rw [p1];exact hfo
  have hcl:p.2.1.clock+0≤s.clock+0:=Nat.le_of_eq p3
  split
  ·exact (out_asked m hf0 hfn2 hfo2 hw).of p1 p2 hcl
  ·split
   ·exact (out_voted m hw).of p1 p2 hcl
   ·split
    ·exact (out_lays m hf0 hfn2 hfo2 hw (p4 h1)).of p1 p2 hcl
    ·split
     ·exact (out_answered m hf0 hfn2 hfo2 hw).of p1 p2 hcl
     ·split
      ·split
       ·exact Out.none (wf_heard hw _ _ _) p1 p2 hcl
       ·exact Out.none hw p1 p2 hcl
      ·exact Out.none hw p1 p2 hcl
 ·rw [if_neg h1]
  exact Out.none hw p1 p2 (Nat.le_of_eq p3)
end
end Go.Proofs.Ytnicaicjgaoolaa
namespace Go.Proofs.Ytnicaicjgaoolaa
set_option maxRecDepth 20000
def SfOk (k:Dk):Prop:=∀l q,k.file=some (l,q)→q≤l.length
/-- power, lives, room stay; what is safe is no more than what is there -/
structure KS (k k':Dk):Prop where
 room:k'.room=k.room
 off:k'.off=k.off
 lives:k'.lives=k.lives
 sf:SfOk k→SfOk k'
theorem KS.refl (k:Dk):KS k k:=⟨rfl,rfl,rfl,id⟩
theorem KS.trans {a b c:Dk} (h:KS a b) (g:KS b c):KS a c:=⟨g.room.trans h.room,g.off.trans h.off,g.lives.trans h.lives,fun x=>g.sf (h.sf x)⟩
section
variable {s s':Rp} {k k':Dk}
theorem ks_app (k:Dk) (b:List UInt8):KS k (appD k b):=by
 refine ⟨rfl,rfl,rfl,fun h l q hf=>?_⟩
 unfold appD appF at hf
 cases hk:k.file with
 | none=>rw [hk] at hf;cases hf;exact Nat.zero_le _
 | some p =>
  obtain ⟨m,z⟩:=p
  rw [hk] at hf
  cases hf
  have:=h m q hk
  simp;omega
theorem ks_addW (w:Wl) (k:Dk) (b:List UInt8):KS k (addW w k b).2.2:=by
 unfold addW
 split
 ·exact KS.refl k
 ·split
  ·exact KS.refl k
  ·split
   ·exact KS.refl k
   ·exact ks_app k _
theorem ks_syncW (w:Wl) (k:Dk):KS k (syncW w k).2.2:=by
 unfold syncW
 split
 ·exact KS.refl k
 ·split
  ·exact KS.refl k
  ·refine ⟨rfl,rfl,rfl,fun h l q hf=>?_⟩
   cases hf
   exact Nat.le_refl _
theorem ks_write (b:List UInt8):KS k (writeM s k b).2:=by
 unfold writeM
 split
 ·exact KS.refl k
 ·exact ks_addW _ _ _
theorem ks_sync:KS k (syncM s k).2:=by
 unfold syncM
 split
 ·exact KS.refl k
 ·exact ks_syncW _ _
theorem ks_enter (t w:Int):KS k (enterM s k t w).2.2:=by
 have h:=ks_write (s:=s) (k:=k) (noteT t w)
 unfold enterM
 generalize writeM s k (noteT t w)=p at *
 simp only
 split
 ·exact h
 ·have g:=ks_sync (s:=p.1) (k:=p.2)
  split<;>exact h.trans g
theorem ks_place (p:Nat) (x:Ent):KS k (placeM s k p x).2.2:=by
 have h:=ks_write (s:=s) (k:=k) (noteE p x)
 unfold placeM
 generalize writeM s k (noteE p x)=q at *
 simp only
 split<;>exact h
theorem ks_put (x:Ent):KS k (putM s k x).2.2:=by
 have h:=ks_place (s:=s) (k:=k) s.log.length x
 unfold putM
 generalize placeM s k s.log.length x=q at *
 simp only
 split
 ·exact h.trans ks_sync
 ·exact h
theorem ks_lead:KS k (leadM s k).2.2:=by
 unfold leadM
 simp only
 have h:=ks_put (s:={ s with leads:=true,next:=List.replicate s.n s.log.length,mat:=List.replicate s.n 0 }) (k:=k) ⟨s.term,[]⟩
 split<;>exact h
theorem ks_stand:KS k (standM s k).2.2:=by
 unfold standM
 split
 ·exact KS.refl k
 ·have h:=ks_enter (s:=s) (k:=k) (s.term+1) (s.own:Int)
  generalize enterM s k (s.term+1) (s.own:Int)=p at *
  simp only
  split
  ·split
   ·exact h.trans ks_lead
   ·exact h
  ·exact h
theorem ks_tick:KS k (tickM s k).2.2:=by
 unfold tickM
 simp only
 split
 ·exact KS.refl k
 ·split
  ·exact KS.refl k
  ·split
   ·exact ks_stand
   ·split<;>exact KS.refl k
theorem ks_submit (rec:List UInt8):KS k (submitM s k rec).2.2.2:=by
 unfold submitM
 by_cases h1:rec.length=0
 ·rw [if_pos h1];exact KS.refl k
 rw [if_neg h1]
 by_cases h2:8000<rec.length
 ·rw [if_pos h2];exact KS.refl k
 rw [if_neg h2]
 simp only
 by_cases h3:(doneS s k).done=true
 ·rw [if_pos h3];exact KS.refl k
 rw [if_neg h3]
 by_cases h4:(!(doneS s k).leads)=true
 ·rw [if_pos h4];exact KS.refl k
 rw [if_neg h4]
 by_cases h5:200≤openM (doneS s k)∨2000≤(doneS s k).many
 ·rw [if_pos h5];exact KS.refl k
 rw [if_neg h5]
 have hw:=ks_put (s:=doneS s k) (k:=k) ⟨(doneS s k).term,rec⟩
 generalize putM (doneS s k) k ⟨(doneS s k).term,rec⟩=p at *
 by_cases h6:p.1=true
 ·rw [if_pos h6];exact hw
 ·rw [if_neg h6];exact hw
theorem ks_asked (m:Msg):KS k (askedM s k m).2.2:=by
 unfold askedM
 split
 ·simp only
  split
  ·split
   ·have h:=ks_enter (s:=s) (k:=k) s.term m.frm
    generalize enterM s k s.term m.frm=p at *
    split<;>exact h
   ·exact KS.refl k
  ·exact KS.refl k
 ·exact KS.refl k
theorem ks_voted (m:Msg):KS k (votedM s k m).2.2:=by
 unfold votedM
 split
 ·exact KS.refl k
 ·simp only
  split
  ·exact ks_lead
  ·exact KS.refl k
theorem ks_laysF (f:Nat) (l:List (Int×List UInt8)):∀(i:Nat) (s:Rp) (k:Dk),KS k (laysF f l i s k).2.2:=by
 induction l with
 | nil=>intro i s k;exact KS.refl k
 | cons a l ih =>
  intro i s k
  obtain ⟨t,rec⟩:=a
  unfold laysF
  split
  ·exact ih _ _ _
  ·split
   ·exact KS.refl k
   ·have h:=ks_place (s:=s) (k:=k) (f+i) ⟨t,rec⟩
    generalize placeM s k (f+i) ⟨t,rec⟩=p at *
    simp only
    split
    ·exact h.trans (ih _ _ _)
    ·exact h
theorem ks_lays (m:Msg):KS k (laysM s k m).2.2:=by
 unfold laysM
 by_cases hb:(!(m.N.length==4+m.B.length)||decide (m.N.getD 1 0<0)||(m.N.getD 0 0==s.term&&s.leads))=true
 ·rw [if_pos hb];exact KS.refl k
 rw [if_neg hb]
 by_cases h1:m.N.getD 0 0<s.term
 ·rw [if_pos h1];exact KS.refl k
 rw [if_neg h1]
 simp only
 by_cases hft:fitsM { s with ticks:=0 } (m.N.getD 1 0) (m.N.getD 2 0)=true
 ·rw [if_pos hft]
  have hF:=ks_laysF (m.N.getD 1 0).toNat ((m.N.drop 4).zip m.B) 0 { s with ticks:=0 } k
  generalize laysF (m.N.getD 1 0).toNat ((m.N.drop 4).zip m.B) 0 { s with ticks:=0 } k=p at *
  by_cases hp:p.1=true
  ·rw [if_pos hp]
   have hq:KS k (if m.B.length=0 then p.2 else syncM p.2.1 p.2.2).2:=by
    split
    ·exact hF
    ·exact hF.trans ks_sync
   generalize (if m.B.length=0 then p.2 else syncM p.2.1 p.2.2)=q at *
   split<;>exact hq
  ·rw [if_neg hp];exact hF
 ·rw [if_neg hft];exact KS.refl k
theorem ks_get (m:Msg):KS k (getM s k m).2.2:=by
 unfold getM
 by_cases hb:((doneS s k).done||badM (doneS s k) m)=true
 ·rw [if_pos hb];exact KS.refl k
 rw [if_neg hb]
 have hp:∃p:Bool×Rp×Dk,p=(if (doneS s k).term<m.N.getD 0 0 then enterM (doneS s k) k (m.N.getD 0 0) (-1) else (true,doneS s k,k))∧KS k p.2.2:=by
  split
  ·exact ⟨_,rfl,ks_enter _ _⟩
  ·exact ⟨_,rfl,KS.refl k⟩
 obtain ⟨p,hpe,hk⟩:=hp
 simp only
 rw [←hpe]
 by_cases h1:p.1=true
 ·rw [if_pos h1]
  split
  ·exact hk.trans (ks_asked m)
  ·split
   ·exact hk.trans (ks_voted m)
   ·split
    ·exact hk.trans (ks_lays m)
    ·split
     ·exact hk
     ·split
      ·split<;>exact hk
      ·exact hk
 ·rw [if_neg h1];exact hk
end
end Go.Proofs.Ytnicaicjgaoolaa
namespace Go.Proofs.Ytnicaicjgaoolaa
open Go.RowKit
theorem rows_block {w:World} {base:Nat} {e:TypeId} {k:Nat} {v:Value} {n:Nat} {xs:List Value} (h:w.ownsRow base e k v n xs) {j:Nat} (hj:v.ownBlock=some j):base≤j∧∃cur,w.heap[j]? = some (.cells cur e (0,0)):=by
 rcases h.2 with ⟨rfl,_⟩ | ⟨g,cap,cur,rfl,hb,hh,_⟩
 ·simp [Value.ownBlock] at hj
 ·simp [Value.ownBlock] at hj
  subst hj
  exact ⟨hb,cur,hh⟩
theorem rows_mono {w:World} {base base':Nat} {e:TypeId} {k:Nat} {v:Value} {n:Nat} {xs:List Value} (h:w.ownsRow base e k v n xs) (hb:base'≤base):w.ownsRow base' e k v n xs:=by
 refine ⟨h.1,?_⟩
 rcases h.2 with h2 | ⟨g,cap,cur,rfl,hg,r⟩
 ·exact .inl h2
 ·exact .inr ⟨g,cap,cur,rfl,Nat.le_trans hb hg,r⟩
def OwnL (w:World) (base:Nat) (v:Value) (ls:List (List UInt8)):Prop :=
 ∃vs:List Value,vs.length=ls.length∧w.ownsRow base 29 1 v ls.length vs∧(∀u∈vs,u.oneCell'=true)∧∀i,i<ls.length→OwnB w base 5 (vs.getD i undef) (ls.getD i [])
theorem OwnL.nil (w:World) (base:Nat):OwnL w base (.slice none 0 0) []:=⟨[],rfl,World.ownsRow_nil _ _ _ _,(fun u hu=>by cases hu),(fun i hi=>by simp at hi)⟩
/-- what turns only blocks of other cells turns no row -/
theorem rows_types {w w':World} {base:Nat} {e:TypeId} {k n:Nat} {v:Value} {xs:List Value} (h:w.ownsRow base e k v n xs) {S:List Nat} (ho:Only S w w') (hs:∀j∈S,∀cur,w.heap[j]? ≠ some (.cells cur e (0,0))):w'.ownsRow base e k v n xs :=
 rows_only0 h ho fun b hb hm=>by
  obtain ⟨_,cur,hc⟩:=rows_block h hb
  exact hs b hm cur hc
theorem rows_below {w w':World} {base:Nat} {e:TypeId} {k n:Nat} {v:Value} {xs:List Value} (h:w.ownsRow base e k v n xs) (hb:Below w.heap.size w w'):w'.ownsRow base e k v n xs :=
 rows_only0 h (Only.ofBelow hb []) (fun b _=>by simp)
/-- another row's growth leaves it, where the elements' types differ -/
theorem rows_grown {w w':World} {base b2:Nat} {e e2:TypeId} {size n s2 n2:Nat} {v v2:Value} {xs x2:List Value} (h:w.ownsRow base e size v n xs) (h2:w.ownsRow b2 e2 s2 v2 n2 x2) (hne:e≠e2) (hg:w.grownBy w' v2.ownBlock):w'.ownsRow base e size v n xs:=by
 refine ⟨h.1,?_⟩
 rcases h.2 with h3 | ⟨g,cap,cur,rfl,hg1,hh,r⟩
 ·exact .inl h3
 ·refine .inr ⟨g,cap,cur,rfl,hg1,?_,r⟩
  rw [hg.block g (lt_of_heap hh) (fun he=>?_)]
  ·exact hh
  ·obtain ⟨_,cur2,hh2⟩:=rows_block h2 he.symm
   rw [hh] at hh2
   cases hh2
   exact hne rfl
theorem OwnL.only {w w':World} {base:Nat} {v:Value} {ls:List (List UInt8)} (h:OwnL w base v ls) {S:List Nat} (ho:Only S w w') (hs:∀j∈S,∀cur,w.heap[j]? ≠ some (.cells cur 29 (0,0))∧w.heap[j]? ≠ some (.cells cur 5 (0,0))):OwnL w' base v ls:=by
 obtain ⟨vs,h1,h2,h3,h4⟩:=h
 exact ⟨vs,h1,rows_types h2 ho (fun j hj cur=>(hs j hj cur).1),h3,fun i hi=>rows_types (h4 i hi) ho (fun j hj cur=>(hs j hj cur).2)⟩
theorem OwnL.below {w w':World} {base:Nat} {v:Value} {ls:List (List UInt8)} (h:OwnL w base v ls) (hb:Below w.heap.size w w'):OwnL w' base v ls :=
 h.only (Only.ofBelow hb []) (fun j hj=>by cases hj)
theorem OwnL.mono {w:World} {base base':Nat} {v:Value} {ls:List (List UInt8)} (h:OwnL w base v ls) (hb:base'≤base):OwnL w base' v ls:=by
 obtain ⟨vs,h1,h2,h3,h4⟩:=h
 exact ⟨vs,h1,rows_mono h2 hb,h3,fun i hi=>(h4 i hi).mono hb⟩
theorem OwnL.shape {w:World} {base:Nat} {v:Value} {ls:List (List UInt8)} (h:OwnL w base v ls):∃ao c,v = .slice ao ls.length c∧ls.length≤c∧c≤9223372036854775807:=by
 obtain ⟨vs,h1,⟨_,h2⟩,h3,h4⟩:=h
 rcases h2 with ⟨rfl,h0⟩ | ⟨g,cap,cur,rfl,hb,hh,hn,hm,hs,ht⟩
 ·exact ⟨none,0,by rw [h0],by omega,by decide⟩
 ·unfold maxLen at hm
  exact ⟨_,cap,rfl,hn,by omega⟩
/-- it reads as a slice of slices of bytes -/
theorem OwnL.isBB {w:World} {base:Nat} {v:Value} {ls:List (List UInt8)} (h:OwnL w base v ls) (hb:∀l∈ls,l.length≤140737488351232):∃ao c,v = .slice ao ls.length c∧IsBB w ao ls.length ls:=by
 obtain ⟨vs,h1,⟨h9,h5⟩,h3,h4⟩:=h
 rcases h5 with ⟨rfl,h6⟩ | ⟨g,cap,cur,rfl,hg,hh,hn,hm,hs,ht⟩
 ·exact ⟨none,0,by rw [h6],⟨rfl,.inl h6⟩⟩
 ·refine ⟨_,cap,rfl,⟨rfl,.inr ⟨g,0,rfl,fun i hi=>?_⟩⟩⟩
  obtain ⟨a,c,k1,k2⟩:=(h4 i hi).isB
  have h7:(cur.toList.take (ls.length*1))[i]? = vs[i]? := by rw [ht]
  rw [List.getElem?_take,if_pos (by omega)] at h7
  have h8:i<vs.length:=by omega
  refine ⟨a,(ls.getD i []).length,c,?_,k2,hb _ ?_⟩
  ·rw [←k1]
   simp only [World.cell?,hh,Nat.zero_add]
   rw [Array.getElem?_toList] at h7
   rw [h7]
   simp [h8]
  ·rw [List.getD_eq_getElem?_getD,List.getElem?_eq_getElem hi];exact List.getElem_mem hi
/-- APPEND of one slice of bytes of the call's own -/
theorem wpList_append_own_sl {w:World} {ops:Array Oper} {rest:List Oper} {o:Oper} {a:Act} {Q:Exit→Act→World→Prop} (hgd:o.guard=none) (s x:Operand)
  (ho:o.op = .call { callee:=.builtin .append,args:=#[s,x],argTypes:=#[36,36]})
  (base:Nat) (v:Value) (ls:List (List UInt8)) (hs:a.eval s=v) (hown:OwnL w base v ls)
  (H:Nat) (u:Value) (l:List UInt8) (hx:a.eval x = .slice (some ⟨H,0,none⟩) 1 1) (hcell:w.cell? ⟨H,0,none⟩=some u) (hel:OwnB w base 5 u l)
  (hbytes:ls.length+1≤1000000) (hbase:base≤w.heap.size)
  (h:∀ao c w',OwnL w' base (.slice ao (ls.length+1) c) (ls++[l])→Below base w w'→w.grownBy w' v.ownBlock→wpList Try.prog ops Q rest (a.put o.dst (.slice ao (ls.length+1) c)) w'):wpList Try.prog ops Q (o::rest) a w:=by
 obtain ⟨i0,hi0,hz0,hz1,hz2⟩:=info_parts F.info29
 obtain ⟨vs,h1,h2,h3,h4⟩:=hown
 have hone:u.oneCell'=true:=by
  obtain ⟨ao,c,rfl,_⟩:=hel.isB
  rfl
 refine wpList_append_own w hgd s x 36 ho base 29 i0 (.slice none 0 0) 1 24 Try.underlying36 hi0 hz0 hz1 hz2 rfl (by decide) v _ _ hs h2 ⟨H,0,none⟩ 1 1 [u] hx rfl ?_ ?_ (by unfold maxLen;omega) (by omega) hbase ?_
 ·intro j y hj
  match j,hj with
  | 0,hj=>rw [Addr.add_lit];simp at hj;rw [hcell,←hj]
 ·intro y hy
  obtain rfl:=List.mem_singleton.1 hy
  exact hone
 ·intro v' w' g1 g2 _
  have hb:Below base w w':=(Below.refl base w).grown g2 hbase (fun k hk=>(rows_block h2 hk).1)
  have g3:=g1
  obtain ⟨_,g4⟩:=g3
  have hsh:∃ao c,v' = .slice ao (ls.length+1) c:=by
   rcases g4 with ⟨rfl,h0⟩ | ⟨g,cap,cur,rfl,_⟩
   ·omega
   ·exact ⟨_,_,rfl⟩
  obtain ⟨ao,c,rfl⟩:=hsh
  refine h ao c w' ⟨vs++[u],by simp [h1],by rw [List.length_append];exact g1,?_,?_⟩ hb g2
  ·intro y hy
   rcases List.mem_append.1 hy with hy | hy
   ·exact h3 y hy
   ·obtain rfl:=List.mem_singleton.1 hy;exact hone
  ·intro i hi
   by_cases hlt:i<ls.length
   ·have:=rows_grown (h4 i hlt) h2 (by decide) g2
    unfold OwnB
    simpa [List.getElem?_append_left,hlt,h1] using this
   ·obtain rfl:i=ls.length:=by simp at hi;omega
    have:=rows_grown hel h2 (by decide) g2
    rw [List.getD_eq_getElem?_getD,List.getD_eq_getElem?_getD,List.getElem?_append_right (by omega),List.getElem?_append_right (by omega),h1,Nat.sub_self]
    exact this
end Go.Proofs.Ytnicaicjgaoolaa
namespace Go.Proofs.Ytnicaicjgaoolaa.F
open Go.Proofs.Ytnicaicjgaoolaa Go.RowKit
set_option maxHeartbeats 1000000 in
theorem scan2_any (ao:Option Addr) (n c:Nat) (B:List UInt8) (w:World) (h:IsB w ao n c B) (hn:n≤2000000) (hnc:n≤c) (hc9:c≤9223372036854775807) :
  Calls Try.prog 57 #[.slice ao n c] w fun e w'=>∃v,Recs v ((scanAll B).2.1:Int) ((scanAll B).2.2:Int) e∧OwnL w' w.heap.size v (scanAll B).1∧Below w.heap.size w w':=by
 have hlen:=h.len
 have HB:=Lib.hid h;clear h
 have HL:=Lib.hid hlen;clear hlen
 have HS:Hid (scanF B (B.length - 0) 0 []=scanAll B):=Lib.hid rfl
 go_enter Try.func57,Try.ntmps57
 go_wp2_with fail
 go_loopw [2,3] (fun v i wr=>∃(k:Nat) (ls:List (List UInt8)),k≤n∧ls.length*12≤k∧i = .int .i64 (k:Int)∧scanF B (B.length - k) k ls=scanAll B∧OwnL wr w.heap.size v ls∧Below w.heap.size w wr) (fun _ i _=>n - (intOf i).toNat)
 case atStart=>exact ⟨0,[],by omega,by simp,rfl,HS.out,OwnL.nil _ _,Below.refl _ _⟩
 case round =>
  clear HS
  obtain ⟨k,ls,hk,hls,rfl,hsc,hown,hbl⟩:=hrel
  have HSC:=Lib.hid hsc;clear hsc
  have HO:=Lib.hid hown;clear hown
  by_cases hlt:k<n
  ·obtain ⟨b,off,rfl⟩:∃b off,ao=some ⟨b,off,none⟩:=by
    rcases HB.out.at_ with h0 | ⟨b,off,h0,_⟩
    ·omega
    ·exact ⟨b,off,h0⟩
   have hD:IsB wr (some ⟨b,off+k,none⟩) (n - k) (c - k) (B.drop k):=(isB_drop HB.out k (c - k) (by omega)).below hbl
   have hkc:¬(c=k):=by omega
   have hst:=scanF_step B k ls (by rw [HL.out];exact hlt)
   have hsp:=scanF_stop B k ls (by rw [HL.out];exact hlt)
   have hsz:=nextF_size (B.drop k)
   have hnext:=fun w' (hw:IsB w' (some ⟨b,off+k,none⟩) (n - k) (c - k) (B.drop k))=>next_any _ _ _ (B.drop k) w' hw (by omega) (by omega)
   generalize nextF (B.drop k)=q at hst hsp hsz hnext
   obtain ⟨sz,how⟩:=q
   simp only at hst hsp hsz hnext
   have HST:=Lib.hid hst;clear hst
   have HSP:=Lib.hid hsp;clear hsp
   have HSZ:=Lib.hid hsz;clear hsz
   have HNX:=Lib.hid hnext;clear hnext
   have HD:=Lib.hid hD;clear hD
   go_wp2_with fail
   refine (HNX.out _ HD.out).mono ?_
   rintro e w1 ⟨rfl,hb1⟩
   have hB1:=hbl.trans (hb1.mono hbl.size)
   by_cases h0:how=0
   ·subst h0
    have hstep:=HST.out rfl
    obtain ⟨s1,s2,s3⟩:=HSZ.out rfl
    rw [List.length_drop,HL.out] at s2
    have HF:Hid (scanF B (B.length - (k+sz)) (k+sz) (ls++[((B.drop k).take sz).drop 12])=scanAll B):=Lib.hid (by rw [←HSC.out,hstep])
    have hrec:IsB w1 (some ⟨b,off+(k+12),none⟩) (k+sz - (k+12)) (c - (k+12)) (((B.drop k).take sz).drop 12):=by
     have h1:=isB_take (HD.out.below hb1) sz s2
     have h2:=isB_drop h1 12 (c - (k+12)) s1
     rw [Nat.add_assoc,show sz - 12=k+sz - (k+12) by omega] at h2
     exact h2
    generalize ((B.drop k).take sz).drop 12=rec at hrec HF
    clear hstep HST HSP HSZ HNX HD HSC
    have hO1:=HO.out.below hb1
    have HO1:=Lib.hid hO1;clear hO1 HO
    have HR:=Lib.hid hrec;clear hrec
    by_cases hck:c=k+12
    ·have hsz12:sz=12:=by omega
     have hnk:n=k+12:=by omega
     subst hck hsz12 hnk
     have hrl:=HR.out.len
     obtain rfl:rec=[]:=List.length_eq_zero_iff.1 (by omega)
     have hlb:ls.length+1≤1000000:=by omega
     clear hrl HR
     go_wp2_with fail
     refine (clone_any (some ⟨b,off,none⟩) 0 0 [] _ (isB_zero 0) (by omega)).mono ?_
     rintro e w2 ⟨v2,rfl,hown2,hb2⟩
     have hB2:=hB1.trans (hb2.mono hB1.size)
     have hel0:=hown2.mono hB1.size
     obtain ⟨a2,c2,rfl,_⟩:=own_len hown2 0 rfl
     have hel:=Lib.hid (hel0.alloc (.cells #[.slice a2 0 c2] 29))
     have hO2:=Lib.hid ((HO1.out.below hb2).below ((Below.refl _ _).alloc (Nat.le_refl _) (.cells #[.slice a2 0 c2] 29)))
     have hz2:=hB2.size
     have HB2:=Lib.hid hB2
     clear hown2 hel0 hb2 hB2 hb1 hB1 HO1
     go_wp2_with (at_builtin;refine wpList_append_own_sl rfl _ _ rfl w.heap.size _ ls rfl hO2.out w2.heap.size (.slice a2 0 c2) [] rfl (by rw [World.cell?_alloc_mark];rfl) hel.out hlb (by simp;omega) ?_;intro a3 c3 w3 hown3 hb3 hgr3;clear hgr3)
     go_roundw
     case rel=>exact ⟨k+12,_,by omega,by simp;omega,by go_num,HF.out,hown3,(HB2.out.alloc hz2 _).trans hb3⟩
     case measure=>simp [intOf];omega
    ·have hrl:=HR.out.len
     go_wp2_with fail
     refine (clone_any _ _ _ rec _ HR.out (by omega)).mono ?_
     rintro e w2 ⟨v2,rfl,hown2,hb2⟩
     have hB2:=hB1.trans (hb2.mono hB1.size)
     have hel0:=hown2.mono hB1.size
     obtain ⟨a2,c2,rfl,_⟩:=own_len hown2 _ hrl
     have hel:=Lib.hid (hel0.alloc (.cells #[.slice a2 (k+sz - (k+12)) c2] 29))
     have hO2:=Lib.hid ((HO1.out.below hb2).below ((Below.refl _ _).alloc (Nat.le_refl _) (.cells #[.slice a2 (k+sz - (k+12)) c2] 29)))
     have hlb:ls.length+1≤1000000:=by omega
     have hz2:=hB2.size
     have HB2:=Lib.hid hB2
     clear hown2 hel0 hb2 hB2 hb1 hB1 HO1 HR hrl
     go_wp2_with (at_builtin;refine wpList_append_own_sl rfl _ _ rfl w.heap.size _ ls rfl hO2.out w2.heap.size (.slice a2 (k+sz - (k+12)) c2) rec rfl (by rw [World.cell?_alloc_mark];rfl) hel.out hlb (by simp;omega) ?_;intro a3 c3 w3 hown3 hb3 hgr3;clear hgr3)
     go_roundw
     case rel=>exact ⟨k+sz,_,by omega,by simp;omega,by go_num,HF.out,hown3,(HB2.out.alloc hz2 _).trans hb3⟩
     case measure=>simp [intOf];omega
   ·have hstop:=HSP.out h0
    have HF:Hid (scanAll B=(ls,k,how)):=Lib.hid (by rw [←HSC.out,hstop])
    clear hstop
    have g0:((how:Int) != 0)=true:=by simp;omega
    go_wp2_with fail
    go_ret3
    refine ⟨_,by unfold Recs;rw [HF.out];rfl,?_,hB1⟩
    rw [HF.out]
    exact HO.out.below hb1
  ·obtain rfl:k=n:=by omega
   have HF:Hid (scanAll B=(ls,k,0)):=Lib.hid (by rw [←HSC.out,scanF_end B _ k ls (by rw [HL.out];exact Nat.le_refl _)])
   go_wp2_with fail
   go_ret3
   refine ⟨_,by unfold Recs;rw [HF.out];rfl,?_,hbl⟩
   rw [HF.out]
   exact HO.out
end Go.Proofs.Ytnicaicjgaoolaa.F
namespace Go.Proofs.Ytnicaicjgaoolaa
open Go.RowKit Go.ChangeMaps Go.WideMaps Go.Maps
set_option maxRecDepth 20000
/-- numbers that never turn -/
def ImmI (w:World) (A:List Nat) (v:Value) (l:List Int):Prop:=∃ao c,v = .slice ao l.length c∧IsI w ao l.length c l∧l.length≤c∧c≤9223372036854775807∧∀p,ao=some p→p.block∉A∧p.block<w.heap.size
/-- rows of bytes that never turn -/
def ImmL (w:World) (A:List Nat) (v:Value) (ls:List (List UInt8)):Prop :=
 (v = .slice none 0 0∧ls=[])∨∃g c cur,v = .slice (some ⟨g,0,none⟩) ls.length c∧ls.length≤c∧c≤9223372036854775807∧g∉A∧w.heap[g]? = some (.cells cur 29 (0,0))∧∀i,i<ls.length→∃u,cur[i]? = some u∧Imm w A u (ls.getD i [])
theorem isI_avoid {w w':World} {S:List Nat} {ao:Option Addr} {n c:Nat} {l:List Int} (h:IsI w ao n c l) (ho:Only S w w') (hS:∀p,ao=some p→p.block∉S):IsI w' ao n c l:=by
 obtain ⟨h1,h2,h3⟩:=h
 refine ⟨h1,h2,?_⟩
 rcases h3 with h3 | ⟨b,off,h4,h5⟩
 ·exact .inl h3
 ·exact .inr ⟨b,off,h4,fun i hi=>ho.cell (h5 i hi) (show b∉S from hS ⟨b,off,none⟩ h4)⟩
theorem ImmI.step {w w':World} {A A' S:List Nat} {v:Value} {l:List Int} (h:ImmI w A v l) (ho:Only S w w') (hS:∀b∈S,b∈A) (he:Ext A A' w):ImmI w' A' v l:=by
 obtain ⟨ao,c,rfl,h1,h2,h9,h3⟩:=h
 refine ⟨ao,c,rfl,isI_avoid h1 ho (fun p hp hm=>(h3 p hp).1 (hS _ hm)),h2,h9,fun p hp=>?_⟩
 obtain ⟨h4,h5⟩:=h3 p hp
 refine ⟨fun hm=>?_,Nat.lt_of_lt_of_le h5 ho.size⟩
 rcases he _ hm with h6 | h6
 ·exact h4 h6
 ·omega
theorem ImmI.below {w w':World} {A:List Nat} {v:Value} {l:List Int} (h:ImmI w A v l) (hb:Below w.heap.size w w'):ImmI w' A v l:=h.step (Only.ofBelow hb []) (fun b hb=>by cases hb) (Ext.refl _ _)
theorem ImmI.avoid {w w':World} {A S:List Nat} {ao:Option Addr} {n c:Nat} {l:List Int} (h:ImmI w A (.slice ao n c) l) (ho:Only S w w') (hS:∀p,ao=some p→p.block∉S):ImmI w' A (.slice ao n c) l:=by
 obtain ⟨ao',c',e,h1,h2,h9,h3⟩:=h
 cases e
 exact ⟨ao,c,rfl,isI_avoid h1 ho hS,h2,h9,fun p hp=>⟨(h3 p hp).1,Nat.lt_of_lt_of_le (h3 p hp).2 ho.size⟩⟩
/-- numbers in a new block -/
theorem ImmI.fresh {w:World} {A:List Nat} (l:List Int) (vs:Array Value) (hv:vs=(l.map iv).toArray) (t:TypeId) (n:Nat) (hn:l.length=n) (hm:n≤9223372036854775807) (hA:∀b∈A,b<w.heap.size):ImmI (w.alloc (.cells vs t)) A (.slice (some ⟨w.heap.size,0,none⟩) n n) l:=by
 have h1:=isI_new w l vs hv t (0,0) w.heap.size rfl n hn n
 subst hn
 exact ⟨_,_,rfl,h1,Nat.le_refl _,hm,fun p hp=>by cases hp;exact ⟨fun hm=>by have:=hA _ hm;simp at this,by simp⟩⟩
theorem setRow_only (w:World) (b:Nat) (row:Array Value):Only [b] w (w.setRow b row):=⟨rfl,rfl,rfl,by simp,fun k _ hk=>setRow_other _ _ _ _ (by simpa using hk)⟩
theorem ImmL.step {w w':World} {A A' S:List Nat} {v:Value} {ls:List (List UInt8)} (h:ImmL w A v ls) (ho:Only S w w') (hS:∀b∈S,b∈A) (he:Ext A A' w):ImmL w' A' v ls:=by
 rcases h with ⟨rfl,rfl⟩ | ⟨g,c,cur,rfl,h1,h2,h3,h4,h5⟩
 ·exact .inl ⟨rfl,rfl⟩
 ·refine .inr ⟨g,c,cur,rfl,h1,h2,fun hm=>?_,ho.keeps h4 (fun hm=>h3 (hS g hm)),fun i hi=>?_⟩
  ·rcases he g hm with h6 | h6
   ·exact h3 h6
   ·have:=lt_of_heap h4;omega
  ·obtain ⟨u,k1,k2⟩:=h5 i hi
   exact ⟨u,k1,k2.step ho hS he⟩
theorem ImmL.below {w w':World} {A:List Nat} {v:Value} {ls:List (List UInt8)} (h:ImmL w A v ls) (hb:Below w.heap.size w w'):ImmL w' A v ls:=h.step (Only.ofBelow hb []) (fun b hb=>by cases hb) (Ext.refl _ _)
theorem OwnI.caps {w:World} {base:Nat} {e:TypeId} {v:Value} {l:List Int} (h:OwnI w base e v l):∃ao c,v = .slice ao l.length c∧IsI w ao l.length c l∧l.length≤c∧c≤9223372036854775807∧∀p,ao=some p→base≤p.block∧p.block<w.heap.size:=by
 obtain ⟨ao,c,e1,h1⟩:=h.isI
 have hlt:=h.lt
 rcases h.2 with ⟨h2,h3⟩ | ⟨g,cap,cur,hv,hg,hh,hn,hm,hs,ht⟩
 ·rw [e1] at h2
  simp only [Value.slice.injEq] at h2
  obtain ⟨rfl,h0,rfl⟩:=h2
  exact ⟨none,0,e1,h1,by omega,by omega,(fun p hp=>by cases hp)⟩
 ·rw [e1] at hv
  cases hv
  unfold maxLen at hm
  exact ⟨_,_,e1,h1,hn,by omega,fun p hp=>by cases hp;exact ⟨hg,lt_of_heap hh⟩⟩
theorem ImmI.new {w w':World} {A:List Nat} {e:TypeId} {v:Value} {l:List Int} (h:OwnI w' w.heap.size e v l) (hA:∀b∈A,b<w.heap.size):ImmI w' A v l:=by
 obtain ⟨ao,c,rfl,h1,h2,h9,h3⟩:=h.caps
 exact ⟨ao,c,rfl,h1,h2,h9,fun p hp=>⟨fun hm=>by have:=hA _ hm;have:=(h3 p hp).1;omega,(h3 p hp).2⟩⟩
theorem ImmL.new {w w':World} {A:List Nat} {v:Value} {ls:List (List UInt8)} (h:OwnL w' w.heap.size v ls) (hA:∀b∈A,b<w.heap.size):ImmL w' A v ls:=by
 obtain ⟨vs,h1,⟨h9,h2⟩,h3,h4⟩:=h
 rcases h2 with ⟨rfl,h0⟩ | ⟨g,cap,cur,rfl,hg,hh,hn,hm,hs,ht⟩
 ·exact .inl ⟨rfl,List.length_eq_zero_iff.1 h0⟩
 ·unfold maxLen at hm
  refine .inr ⟨g,cap,cur,rfl,hn,by omega,fun hm=>by have:=hA _ hm;omega,hh,fun i hi=>?_⟩
  have hiv:i<vs.length:=by omega
  refine ⟨vs.getD i undef,?_,Imm.new (h4 i hi) hA⟩
  have h7:(cur.toList.take (ls.length*1))[i]? = vs[i]? := by rw [ht]
  rw [List.getElem?_take,if_pos (by omega),Array.getElem?_toList] at h7
  rw [h7]
  simp [hiv]
/-- a message's value -/
def msgV (m:Msg) (v u:Value):Value:=.agg #[.int .i64 m.frm,.int .i64 m.dst,.int .i64 m.kind,v,u]
structure IsMsg (w:World) (A:List Nat) (m:Msg) (v u:Value):Prop where
 n:ImmI w A v m.N
 b:ImmL w A u m.B
theorem IsMsg.step {w w':World} {A A' S:List Nat} {m:Msg} {v u:Value} (h:IsMsg w A m v u) (ho:Only S w w') (hS:∀b∈S,b∈A) (he:Ext A A' w):IsMsg w' A' m v u:=⟨h.n.step ho hS he,h.b.step ho hS he⟩
theorem IsMsg.below {w w':World} {A:List Nat} {m:Msg} {v u:Value} (h:IsMsg w A m v u) (hb:Below w.heap.size w w'):IsMsg w' A m v u:=⟨h.n.below hb,h.b.below hb⟩
theorem five_ones (f t k:Int) (ao:Option Addr) (n c:Nat) (bo:Option Addr) (q d:Nat):(#[Value.int .i64 f,.int .i64 t,.int .i64 k,.slice ao n c,.slice bo q d]).all (·.oneCell')=true:=by
 refine Array.all_eq_true_iff_forall_mem.2 fun u hu=>?_
 simp only [List.mem_toArray,List.mem_cons,List.not_mem_nil,or_false] at hu
 rcases hu with rfl | rfl | rfl | rfl | rfl<;>rfl
theorem size51:(Try.prog.info? 51).map (·.size)=some 5:=by kernel_rfl
section
variable {w w':World} {A A' X X':List Nat} {r d l:Nat} {s s':Rp} {k k':Dk}
theorem say_any (h:Nd w A X r d l s k) (dst kind:Int) (N:List Int) (ao:Option Addr) (n c:Nat):Calls Try.prog 44 #[.pointer (some ⟨r,0,none⟩),.int .i64 dst,.int .i64 kind,.slice ao n c] w fun e w'=>e = .returned (msgV (sayM s dst kind N) (.slice ao n c) (.slice none 0 0))∧Below w.heap.size w w':=by
 obtain ⟨vl,gv,gn,gm,gh,hcell⟩:=h.cells
 have hlt:=lt_of_heap hcell
 have hc0:(w.alloc (.cells #[.int .i64 0,.int .i64 0,.int .i64 0,.slice none 0 0,.slice none 0 0] 51)).cell? ⟨r,0,none⟩=some (.int .i64 (s.own:Int)):=by
  rw [cell_heap (heap_old hcell _)];rfl
 clear hcell h
 go_enter Try.func44,Try.ntmps44
 go_wp2_with fail
 exact bodyPost_ret (results_cell_row (P:=Try.prog) (fn:=Try.f44) rfl _ _ w.heap.size 51 _ _ _ rfl (heap_new _ _) Try.underlying51 rfl size51) rfl ⟨rfl,(Below.refl _ _).alloc (Nat.le_refl _) _⟩
end
end Go.Proofs.Ytnicaicjgaoolaa
