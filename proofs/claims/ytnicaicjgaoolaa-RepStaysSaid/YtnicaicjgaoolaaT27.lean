/-
  What the proof of the law leans on: contracts of the program's functions, one behind another. No condition.
-/
import Derived.Test.YtnicaicjgaoolaaT18
set_option linter.unusedVariables false
set_option linter.unusedSimpArgs false
namespace Go.Proofs.Ytnicaicjgaoolaa
set_option maxRecDepth 20000
/-- what is agreed on only grows -/
structure Gr (s s':Rp):Prop where
 agr:s.agreed≤s'.agreed
 pre:s'.log.take s.agreed=s.log.take s.agreed
 liv:s'.lives=s.lives
theorem Gr.refl (s:Rp):Gr s s:=⟨Nat.le_refl _,rfl,rfl⟩
theorem Gr.trans {a b c:Rp} (h:Gr a b) (g:Gr b c):Gr a c:=by
 refine ⟨Nat.le_trans h.agr g.agr,?_,g.liv.trans h.liv⟩
 have:=congrArg (List.take a.agreed) g.pre
 rw [List.take_take,List.take_take,Nat.min_eq_left h.agr] at this
 rw [this,h.pre]
theorem Gr.of {s s':Rp} (h1:s'.agreed=s.agreed) (h2:s'.log=s.log) (h3:s'.lives=s.lives):Gr s s':=⟨by rw [h1];exact Nat.le_refl _,by rw [h2],h3⟩
theorem Gr.from {a b c:Rp} (h:Gr b c) (h1:b.agreed=a.agreed) (h2:b.log=a.log) (h3:b.lives=a.lives):Gr a c:=⟨by rw [←h1];exact h.agr,by rw [←h1,←h2];exact h.pre,h.liv.trans h3⟩
/-- no record: neither in the log, nor on the disk -/
structure Qt (s:Rp):Prop where
 log:∀x∈s.log,x.bs=[]
 dsk:∀b∈s.wl.recs,b.length≤32
def QtM (m:Msg):Prop:=∀b∈m.B,b=[]
structure St (s:Rp) (p:List Msg×Rp×Dk):Prop where
 gr:Gr s p.2.1
 qt:Qt s→Qt p.2.1∧∀m∈p.1,QtM m
section
variable {s s':Rp} {k k':Dk}
theorem St.none (h1:Gr s s') (h2:Qt s→Qt s'):St s ([],s',k'):=⟨h1,fun h=>⟨h2 h,fun m hm=>by cases hm⟩⟩
theorem Qt.of (h:Qt s) (h1:s'.log=s.log) (h2:s'.wl.recs=s.wl.recs):Qt s':=⟨by rw [h1];exact h.log,by rw [h2];exact h.dsk⟩
theorem St.pre {a b:Rp} {p:List Msg×Rp×Dk} (h:St b p) (h1:Gr a b) (h2:Qt a→Qt b):St a p:=⟨h1.trans h.gr,fun q=>h.qt (h2 q)⟩
theorem write_log (b:List UInt8):(writeM s k b).1.log=s.log∧(writeM s k b).1.agreed=s.agreed∧(writeM s k b).1.lives=s.lives:=by
 rw [write_same];exact ⟨rfl,rfl,rfl⟩
theorem sync_log:(syncM s k).1.log=s.log∧(syncM s k).1.agreed=s.agreed∧(syncM s k).1.lives=s.lives:=by
 rw [sync_same];exact ⟨rfl,rfl,rfl⟩
theorem write_dsk (h:∀b∈s.wl.recs,b.length≤32) (b:List UInt8) (hb:b.length≤32):∀x∈(writeM s k b).1.wl.recs,x.length≤32:=by
 intro x hx
 rcases write_recs (s:=s) (k:=k) b with ⟨_,_,e⟩ | ⟨_,e⟩
 ·rw [e] at hx
  rcases List.mem_append.1 hx with h1 | h1
  ·exact h x h1
  ·rw [List.mem_singleton.1 h1];exact hb
 ·rw [e] at hx;exact h x hx
theorem qt_write (h:Qt s) (b:List UInt8) (hb:b.length≤32):Qt (writeM s k b).1:=⟨by rw [(write_log b).1];exact h.log,write_dsk h.dsk b hb⟩
theorem qt_sync (h:Qt s):Qt (syncM s k).1:=h.of sync_log.1 sync_recs.1
theorem enter_gr (term who:Int):Gr s (enterM s k term who).2.1∧(Qt s→Qt (enterM s k term who).2.1):=by
 have h1:=write_log (s:=s) (k:=k) (noteT term who)
 have h2:Qt s→Qt (writeM s k (noteT term who)).1:=fun q=>qt_write q _ (by rw [noteT_len];omega)
 unfold enterM
 generalize writeM s k (noteT term who)=p at *
 simp only
 split
 ·exact ⟨Gr.of h1.2.1 h1.1 h1.2.2,h2⟩
 ·have h3:=sync_log (s:=p.1) (k:=p.2)
  have h4:Qt p.1→Qt (syncM p.1 p.2).1:=qt_sync
  generalize syncM p.1 p.2=q at *
  split
  ·exact ⟨Gr.of (h3.2.1.trans h1.2.1) (h3.1.trans h1.1) (h3.2.2.trans h1.2.2),fun q=>h4 (h2 q)⟩
  ·exact ⟨Gr.of (h3.2.1.trans h1.2.1) (h3.1.trans h1.1) (h3.2.2.trans h1.2.2),fun q=>(h4 (h2 q)).of rfl rfl⟩
theorem place_gr (p:Nat) (x:Ent) (hp:s.agreed≤p) (hp2:p≤s.log.length):Gr s (placeM s k p x).2.1∧(Qt s→x.bs=[]→Qt (placeM s k p x).2.1)∧(placeM s k p x).2.1.agreed=s.agreed:=by
 have h1:=write_log (s:=s) (k:=k) (noteE p x)
 have h2:Qt s→x.bs=[]→Qt (writeM s k (noteE p x)).1:=fun q e=>qt_write q _ (by rw [noteE_len,e];simp)
 unfold placeM
 generalize writeM s k (noteE p x)=q at *
 simp only
 split
 ·exact ⟨Gr.of h1.2.1 h1.1 h1.2.2,h2,h1.2.1⟩
 ·refine ⟨⟨by show s.agreed≤q.1.agreed;rw [h1.2.1];exact Nat.le_refl _,?_,h1.2.2⟩,fun h e=>⟨fun y hy=>?_,(h2 h e).dsk⟩,h1.2.1⟩
  ·show (q.1.log.take p++[x]).take s.agreed=_
   rw [h1.1,List.take_append_of_le_length (by rw [List.length_take];omega),List.take_take,Nat.min_eq_left hp]
  ·rcases List.mem_append.1 hy with h3 | h3
   ·exact (h2 h e).log y (List.mem_of_mem_take h3)
   ·rw [List.mem_singleton.1 h3];exact e
theorem put_gr (x:Ent) (ha:s.agreed≤s.log.length):Gr s (putM s k x).2.1∧(Qt s→x.bs=[]→Qt (putM s k x).2.1):=by
 have h:=place_gr (s:=s) (k:=k) s.log.length x ha (Nat.le_refl _)
 unfold putM
 generalize placeM s k s.log.length x=q at *
 simp only
 split
 ·have h3:=sync_log (s:=q.2.1) (k:=q.2.2)
  exact ⟨h.1.trans (Gr.of h3.2.1 h3.1 h3.2.2),fun a b=>qt_sync (h.2.1 a b)⟩
 ·exact ⟨h.1,h.2.1⟩
theorem agree_gr (n:Nat):Gr s (agreeM s n)∧(agreeM s n).log=s.log∧(agreeM s n).wl=s.wl:=by
 unfold agreeM
 split
 ·exact ⟨⟨by show s.agreed≤n;omega,rfl,rfl⟩,rfl,rfl⟩
 ·exact ⟨Gr.refl _,rfl,rfl⟩
theorem settle_gr:Gr s (settleM s).2∧(settleM s).2.log=s.log∧(settleM s).2.wl=s.wl:=by
 unfold settleM
 simp only
 split
 ·rename_i m _
  have h:=agree_gr (s:={ s with mat:=s.mat.set s.own s.log.length }) m
  exact ⟨h.1.from rfl rfl rfl,h.2.1,h.2.2⟩
 ·exact ⟨Gr.of rfl rfl rfl,rfl,rfl⟩
theorem qt_settle (h:Qt s):Qt (settleM s).2:=h.of settle_gr.2.1 (by rw [settle_gr.2.2])
theorem qtM_laying (h:Qt s) (d:Nat):QtM (layingM s d):=by
 intro b hb
 have hb:b∈(((s.log.drop (s.next.getD d 0)).take 20).map Ent.bs):=hb
 obtain ⟨x,hx,rfl⟩:=List.mem_map.1 hb
 exact h.log x (List.mem_of_mem_drop (List.mem_of_mem_take hx))
theorem qtM_say (d kd:Int) (N:List Int):QtM (sayM s d kd N):=fun b hb=>by cases hb
theorem qt_layings (h:Qt s):∀m∈othersM s (layingM s),QtM m:=fun m hm=>by
 obtain ⟨i,_,_,rfl⟩:=mem_othersG _ _ hm
 exact qtM_laying h i
theorem qt_tellings (kind:Int):∀m∈othersM s (telling s kind),QtM m:=fun m hm=>by
 obtain ⟨i,_,_,rfl⟩:=mem_othersG _ _ hm
 exact qtM_say _ _ _
theorem st_lead (ha:s.agreed≤s.log.length):St s (leadM s k):=by
 have h:=put_gr (s:={ s with leads:=true,next:=List.replicate s.n s.log.length,mat:=List.replicate s.n 0 }) (k:=k) ⟨s.term,[]⟩ ha
 unfold leadM
 simp only
 generalize putM { s with leads:=true,next:=List.replicate s.n s.log.length,mat:=List.replicate s.n 0 } k ⟨s.term,[]⟩=p at *
 have h0:Gr s p.2.1:=h.1.from rfl rfl rfl
 split
 ·refine ⟨h0.trans settle_gr.1,fun q=>?_⟩
  have q2:=qt_settle (h.2 (q.of rfl rfl) rfl)
  exact ⟨q2,qt_layings q2⟩
 ·exact St.none h0 fun q=>h.2 (q.of rfl rfl) rfl
theorem enter_agr (term who:Int):(enterM s k term who).2.1.agreed=s.agreed∧(enterM s k term who).2.1.log=s.log:=by
 have h1:=write_log (s:=s) (k:=k) (noteT term who)
 unfold enterM
 generalize writeM s k (noteT term who)=p at *
 simp only
 split
 ·exact ⟨h1.2.1,h1.1⟩
 ·have h3:=sync_log (s:=p.1) (k:=p.2)
  generalize syncM p.1 p.2=q at *
  split
  ·exact ⟨h3.2.1.trans h1.2.1,h3.1.trans h1.1⟩
  ·exact ⟨h3.2.1.trans h1.2.1,h3.1.trans h1.1⟩
theorem st_stand (ha:s.agreed≤s.log.length):St s (standM s k):=by
 unfold standM
 split
 ·exact St.none (Gr.refl _) id
 ·have h:=enter_gr (s:=s) (k:=k) (s.term+1) (s.own:Int)
  have hl:=enter_agr (s:=s) (k:=k) (s.term+1) (s.own:Int)
  generalize enterM s k (s.term+1) (s.own:Int)=p at *
  simp only
  split
  ·have e:Gr s { p.2.1 with ticks:=0,votes:=(List.replicate s.n false).set s.own true }:=h.1.trans (Gr.of rfl rfl rfl)
   have eq:Qt s→Qt { p.2.1 with ticks:=0,votes:=(List.replicate s.n false).set s.own true }:=fun q=>(h.2 q).of rfl rfl
   split
   ·exact (st_lead (by show p.2.1.agreed≤p.2.1.log.length;rw [hl.1,hl.2];exact ha)).pre e eq
   ·exact ⟨e,fun q=>⟨eq q,qt_tellings 1⟩⟩
  ·exact St.none h.1 h.2
theorem st_tick (h:Wf s k):St s (tickM s k):=by
 unfold tickM
 simp only
 split
 ·exact St.none (Gr.of rfl rfl rfl) (fun q=>q.of rfl rfl)
 ·split
  ·exact ⟨Gr.of rfl rfl rfl,fun q=>⟨q.of rfl rfl,qt_layings (q.of rfl rfl)⟩⟩
  ·split
   ·exact (st_stand (by exact h.agr)).pre (Gr.of rfl rfl rfl) (fun q=>q.of rfl rfl)
   ·split
    ·exact ⟨Gr.of rfl rfl rfl,fun q=>⟨q.of rfl rfl,qt_tellings 5⟩⟩
    ·exact St.none (Gr.of rfl rfl rfl) (fun q=>q.of rfl rfl)
theorem gr_submit (h:Wf s k) (rec:List UInt8):Gr s (submitM s k rec).2.2.1:=by
 unfold submitM
 by_cases h1:rec.length=0
 ·rw [if_pos h1];exact Gr.refl _
 rw [if_neg h1]
 by_cases h2:8000<rec.length
 ·rw [if_pos h2];exact Gr.refl _
 rw [if_neg h2]
 simp only
 by_cases h3:(doneS s k).done=true
 ·rw [if_pos h3];exact Gr.of rfl rfl rfl
 rw [if_neg h3]
 by_cases h4:(!(doneS s k).leads)=true
 ·rw [if_pos h4];exact Gr.of rfl rfl rfl
 rw [if_neg h4]
 by_cases h5:200≤openM (doneS s k)∨2000≤(doneS s k).many
 ·rw [if_pos h5];exact Gr.of rfl rfl rfl
 rw [if_neg h5]
 have hp:=put_gr (s:=doneS s k) (k:=k) ⟨(doneS s k).term,rec⟩ (by exact h.agr)
 generalize putM (doneS s k) k ⟨(doneS s k).term,rec⟩=p at *
 have h0:Gr s p.2.1:=hp.1.from rfl rfl rfl
 by_cases h6:p.1=true
 ·rw [if_pos h6];exact h0.trans settle_gr.1
 ·rw [if_neg h6];exact h0
theorem st_asked (m:Msg):St s (askedM s k m):=by
 unfold askedM
 split
 ·simp only
  split
  ·split
   ·have h:=enter_gr (s:=s) (k:=k) s.term m.frm
    generalize enterM s k s.term m.frm=p at *
    split
    ·exact ⟨h.1.trans (Gr.of rfl rfl rfl),fun q=>⟨(h.2 q).of rfl rfl,fun x hx=>by rw [List.mem_singleton.1 hx];exact qtM_say _ _ _⟩⟩
    ·exact St.none h.1 h.2
   ·exact ⟨Gr.of rfl rfl rfl,fun q=>⟨q.of rfl rfl,fun x hx=>by rw [List.mem_singleton.1 hx];exact qtM_say _ _ _⟩⟩
  ·exact ⟨Gr.refl _,fun q=>⟨q,fun x hx=>by rw [List.mem_singleton.1 hx];exact qtM_say _ _ _⟩⟩
 ·exact St.none (Gr.refl _) id
theorem st_voted (ha:s.agreed≤s.log.length) (m:Msg):St s (votedM s k m):=by
 unfold votedM
 split
 ·exact St.none (Gr.refl _) id
 ·simp only
  split
  ·exact (st_lead (by exact ha)).pre (Gr.of rfl rfl rfl) (fun q=>q.of rfl rfl)
  ·exact St.none (Gr.of rfl rfl rfl) (fun q=>q.of rfl rfl)
theorem laysF_gr (f:Nat) (l:List (Int×List UInt8)):∀(i:Nat) (s:Rp) (k:Dk),f+i≤s.log.length →
  Gr s (laysF f l i s k).2.1∧(Qt s→(∀x∈l,x.2=[])→Qt (laysF f l i s k).2.1):=by
 induction l with
 | nil=>intro i s k _;exact ⟨Gr.refl _,fun q _=>q⟩
 | cons a l ih =>
  intro i s k hf
  obtain ⟨t,rec⟩:=a
  unfold laysF
  by_cases h1:f+i<s.log.length∧(s.log.map Ent.term).getD (f+i) 0=t
  ·rw [if_pos h1]
   have h2:=ih (i+1) s k (by omega)
   exact ⟨h2.1,fun q e=>h2.2 q (fun x hx=>e x (List.mem_cons_of_mem _ hx))⟩
  ·rw [if_neg h1]
   by_cases h2:8000<rec.length∨t<1∨s.term<t∨f+i<s.agreed
   ·rw [if_pos h2]
    exact ⟨Gr.refl _,fun q _=>q⟩
   ·rw [if_neg h2]
    have hs:=place_gr (s:=s) (k:=k) (f+i) ⟨t,rec⟩ (by omega) hf
    have hg:=place_logG (s:=s) (k:=k) (f+i) ⟨t,rec⟩
    generalize placeM s k (f+i) ⟨t,rec⟩=p at *
    simp only
    by_cases h3:p.1=true
    ·rw [if_pos h3]
     have hlen:p.2.1.log.length=f+i+1:=by
      rw [hg h3];simp [Nat.min_eq_left hf]
     have h4:=ih (i+1) p.2.1 p.2.2 (by omega)
     exact ⟨hs.1.trans h4.1,fun q e=>h4.2 (hs.2.1 q (e _ List.mem_cons_self)) (fun x hx=>e x (List.mem_cons_of_mem _ hx))⟩
    ·rw [if_neg h3]
     exact ⟨hs.1,fun q e=>hs.2.1 q (e _ List.mem_cons_self)⟩
/-- as St, where the message that came has no record -/
structure StM (s:Rp) (m:Msg) (p:List Msg×Rp×Dk):Prop where
 gr:Gr s p.2.1
 qt:Qt s→QtM m→Qt p.2.1∧∀m∈p.1,QtM m
theorem St.m {p:List Msg×Rp×Dk} (h:St s p) (m:Msg):StM s m p:=⟨h.gr,fun q _=>h.qt q⟩
theorem StM.pre {a b:Rp} {m:Msg} {p:List Msg×Rp×Dk} (h:StM b m p) (h1:Gr a b) (h2:Qt a→Qt b):StM a m p:=⟨h1.trans h.gr,fun q e=>h.qt (h2 q) e⟩
theorem st_lays (m:Msg):StM s m (laysM s k m):=by
 unfold laysM
 by_cases hb:(!(m.N.length==4+m.B.length)||decide (m.N.getD 1 0<0)||(m.N.getD 0 0==s.term&&s.leads))=true
 ·rw [if_pos hb];exact (St.none (Gr.refl _) id).m m
 rw [if_neg hb]
 by_cases h1:m.N.getD 0 0<s.term
 ·rw [if_pos h1]
  exact St.m (p:=([sayM s m.frm 4 [s.term,0,0]],s,k)) ⟨Gr.refl _,fun q=>⟨q,fun x hx=>by rw [List.mem_singleton.1 hx];exact qtM_say _ _ _⟩⟩ m
 rw [if_neg h1]
 simp only
 by_cases hft:fitsM { s with ticks:=0 } (m.N.getD 1 0) (m.N.getD 2 0)=true
 ·rw [if_pos hft]
  have hfl:(m.N.getD 1 0).toNat≤s.log.length:=by
   unfold fitsM at hft
   simp only [Bool.and_eq_true,decide_eq_true_eq] at hft
   omega
  have hF:=laysF_gr (m.N.getD 1 0).toNat ((m.N.drop 4).zip m.B) 0 { s with ticks:=0 } k hfl
  have hz:QtM m→∀x∈(m.N.drop 4).zip m.B,x.2=[]:=fun q x hx=>q x.2 (List.of_mem_zip hx).2
  generalize laysF (m.N.getD 1 0).toNat ((m.N.drop 4).zip m.B) 0 { s with ticks:=0 } k=p at *
  have g0:Gr s p.2.1:=hF.1.from rfl rfl rfl
  have q0:Qt s→QtM m→Qt p.2.1:=fun q e=>hF.2 (q.of rfl rfl) (hz e)
  by_cases hp:p.1=true
  ·rw [if_pos hp]
   have hq:∃q:Rp×Dk,q=(if m.B.length=0 then p.2 else syncM p.2.1 p.2.2)∧Gr s q.1∧(Qt s→QtM m→Qt q.1):=by
    by_cases h2:m.B.length=0
    ·rw [if_pos h2];exact ⟨_,rfl,g0,q0⟩
    ·rw [if_neg h2]
     exact ⟨_,rfl,g0.trans (Gr.of sync_log.2.1 sync_log.1 sync_log.2.2),fun a b=>qt_sync (q0 a b)⟩
   obtain ⟨q,hqe,hg,hqq⟩:=hq
   rw [←hqe]
   split
   ·exact ⟨hg,fun a b=>⟨hqq a b,fun x hx=>by cases hx⟩⟩
   ·have hag:=agree_gr (s:=q.1) (min (m.N.getD 3 0) (((m.N.getD 1 0).toNat+m.B.length:Nat):Int)).toNat
    exact ⟨hg.trans hag.1,fun a b=>⟨(hqq a b).of hag.2.1 (by rw [hag.2.2]),fun x hx=>by rw [List.mem_singleton.1 hx];exact qtM_say _ _ _⟩⟩
  ·rw [if_neg hp]
   exact ⟨g0,fun a b=>⟨q0 a b,fun x hx=>by cases hx⟩⟩
 ·rw [if_neg hft]
  exact ⟨Gr.of rfl rfl rfl,fun q _=>⟨q.of rfl rfl,fun x hx=>by rw [List.mem_singleton.1 hx];exact qtM_say _ _ _⟩⟩
theorem st_answered (m:Msg):St s ((answeredM s m).1,(answeredM s m).2,k):=by
 unfold answeredM
 by_cases hb:(!s.leads || !(m.N.getD 0 0==s.term) || !(m.N.length==3)||decide (m.N.getD 2 0<0)||decide ((s.log.length:Int)<m.N.getD 2 0))=true
 ·rw [if_pos hb];exact St.none (Gr.refl _) id
 rw [if_neg hb]
 simp only
 by_cases h1:m.N.getD 1 0=0
 ·rw [if_pos h1]
  split
  ·exact St.none (Gr.refl _) id
  ·exact ⟨Gr.of rfl rfl rfl,fun q=>⟨q.of rfl rfl,fun x hx=>by rw [List.mem_singleton.1 hx];exact qtM_laying (s:={ s with next:=s.next.set m.frm.toNat (max (m.N.getD 2 0).toNat (s.mat.getD m.frm.toNat 0))}) (q.of rfl rfl) _⟩⟩
 ·rw [if_neg h1]
  split
  ·exact St.none (Gr.refl _) id
  ·have hst:=settle_gr (s:={ s with mat:=s.mat.set m.frm.toNat (m.N.getD 2 0).toNat,next:=s.next.set m.frm.toNat (max (m.N.getD 2 0).toNat (s.next.getD m.frm.toNat 0))})
   generalize settleM { s with mat:=s.mat.set m.frm.toNat (m.N.getD 2 0).toNat,next:=s.next.set m.frm.toNat (max (m.N.getD 2 0).toNat (s.next.getD m.frm.toNat 0))}=p at *
   have g0:Gr s p.2:=hst.1.from rfl rfl rfl
   have q0:Qt s→Qt p.2:=fun q=>q.of hst.2.1 (by rw [hst.2.2])
   split
   ·exact ⟨g0,fun q=>⟨q0 q,qt_layings (q0 q)⟩⟩
   ·split
    ·exact ⟨g0,fun q=>⟨q0 q,fun x hx=>by rw [List.mem_singleton.1 hx];exact qtM_laying (q0 q) _⟩⟩
    ·exact St.none g0 q0
theorem st_get (h:Wf s k) (m:Msg):StM s m (getM s k m):=by
 unfold getM
 by_cases hb:((doneS s k).done||badM (doneS s k) m)=true
 ·rw [if_pos hb];exact ⟨Gr.of rfl rfl rfl,fun q _=>⟨q.of rfl rfl,fun x hx=>by cases hx⟩⟩
 rw [if_neg hb]
 have hp:∃p:Bool×Rp×Dk,p=(if (doneS s k).term<m.N.getD 0 0 then enterM (doneS s k) k (m.N.getD 0 0) (-1) else (true,doneS s k,k))∧Gr s p.2.1∧(Qt s→Qt p.2.1)∧p.2.1.agreed≤p.2.1.log.length:=by
  by_cases ht:(doneS s k).term<m.N.getD 0 0
  ·rw [if_pos ht]
   have he:=enter_gr (s:=doneS s k) (k:=k) (m.N.getD 0 0) (-1)
   have ha:=enter_agr (s:=doneS s k) (k:=k) (m.N.getD 0 0) (-1)
   exact ⟨_,rfl,he.1.from rfl rfl rfl,fun q=>he.2 (q.of rfl rfl),by rw [ha.1,ha.2];exact h.agr⟩
  ·rw [if_neg ht]
   exact ⟨_,rfl,Gr.of rfl rfl rfl,fun q=>q.of rfl rfl,h.agr⟩
 obtain ⟨p,hpe,hg,hq,ha⟩:=hp
 simp only
 rw [←hpe]
 by_cases h1:p.1=true
 ·rw [if_pos h1]
  split
  ·exact ((st_asked m).m m).pre hg hq
  ·split
   ·exact ((st_voted ha m).m m).pre hg hq
   ·split
    ·exact (st_lays m).pre hg hq
    ·split
     ·exact ((st_answered m).m m).pre hg hq
     ·split
      ·split
       ·exact ⟨hg.trans (Gr.of rfl rfl rfl),fun q _=>⟨(hq q).of rfl rfl,fun x hx=>by cases hx⟩⟩
       ·exact (St.none hg hq).m m
      ·exact (St.none hg hq).m m
 ·rw [if_neg h1]
  exact (St.none hg hq).m m
end
end Go.Proofs.Ytnicaicjgaoolaa
