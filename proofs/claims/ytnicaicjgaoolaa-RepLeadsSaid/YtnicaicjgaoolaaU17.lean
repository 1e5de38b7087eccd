/-
  What the proof of the law leans on: contracts of the program's functions, one behind another. No condition.
-/
import Derived.Test.YtnicaicjgaoolaaU0
import Derived.Deep.Strs
import Derived.Test.YtnicaicjgaoolaaU16
import Derived.Test.YtnicaicjgaoolaaU10
import Derived.Test.YtnicaicjgaoolaaU4
import Derived.Test.YtnicaicjgaoolaaU1
set_option linter.unusedVariables false
set_option linter.unusedSimpArgs false
namespace Go.Proofs.Ytnicaicjgaoolaa
set_option maxRecDepth 20000
def iI (n:Nat):Rp:=dz 0 n 0 []
def Match (n:Nat) (ns:List Note) (term choice:Int) (log:List Ent):Prop:=(cK (iI n) ns).term=term/\(cK (iI n) ns).choice=choice/\(cK (iI n) ns).log=log
structure NOk (s:Rp):Prop where
 ex:∃ns,s.wl.recs=ns.map Note.bytes/\db (iI s.n) ns/\(s.done=false->Match s.n ns s.term s.choice s.log)
 lead:s.leads=true->1<=s.term
section
variable {s s':Rp} {k k':Dk}
theorem xg (w:Wl) (k:Dk) (b:List UInt8):((ft w k b).1=0/\(ft w k b).2.1.recs=w.recs++[b])\/((ft w k b).1≠0/\(ft w k b).2.1.recs=w.recs):=by
 unfold ft;split
 ·exact .inr ⟨by simp,rfl⟩
 ·split
  ·exact .inr ⟨by simp,rfl⟩
  ·split
   ·exact .inr ⟨by simp,rfl⟩
   ·exact .inl ⟨rfl,rfl⟩
theorem sZ (w:Wl) (k:Dk):(fO w k).2.1.recs=w.recs:=by
 unfold fO;split
 ·rfl
 ·split<;>rfl
theorem kq (b:List UInt8):((bK s k b).1.done=false/\s.done=false/\(bK s k b).1.wl.recs=s.wl.recs++[b])\/((bK s k b).1.done=true/\(bK s k b).1.wl.recs=s.wl.recs):=by
 unfold bK;by_cases hd:s.done=true
 ·rw [ax hd];exact .inr ⟨hd,rfl⟩
 ·rw [aw hd];rcases xg s.wl k b with ⟨h1,h2⟩ | ⟨h1,h2⟩
  ·exact .inl ⟨by simp [h1],by simpa using hd,h2⟩
  ·exact .inr ⟨by simp [h1],h2⟩
theorem lM:(cx s k).1.wl.recs=s.wl.recs/\((cx s k).1.done=false->s.done=false):=by
 unfold cx;by_cases hd:s.done=true
 ·rw [ax hd];exact ⟨rfl,id⟩
 ·rw [aw hd];exact ⟨sZ _ _,λ_=>by simpa using hd⟩
theorem NOk.sync (h:NOk s):NOk (cx s k).1:=by
 obtain ⟨⟨ns,h1,h2,h3⟩,h4⟩:=h;obtain ⟨r1,r2⟩:=lM (s:=s) (k:=k);have e:=(iH (s:=s) (k:=k))
 have ea:=e.all;have es:=eX (s:=s) (k:=k);have e1:(cx s k).1.choice=s.choice:=by rw [es]
 have e2:(cx s k).1.log=s.log:=by rw [es]
 refine ⟨⟨ns,by rw [r1,h1],by rw [ea.2.1];exact h2,λhd=>?_⟩,λhl=>?_⟩
 ·rw [ea.2.1,ea.2.2.2.2.1,e1,e2];exact h3 (r2 hd)
 ·rw [ea.2.2.2.2.1];exact h4 (by rw [<-ea.2.2.2.1];exact hl)
theorem Match.snoc {n:Nat} {ns:List Note} {t c:Int} {l:List Ent} (h:Match n ns t c l) (a:Note):Match n (ns++[a]) (dG { iI n with term:=t,choice:=c,log:=l } a).term (dG { iI n with term:=t,choice:=c,log:=l } a).choice (dG { iI n with term:=t,choice:=c,log:=l } a).log:=by
 obtain ⟨h1,h2,h3⟩:=h;obtain ⟨t',c',g',e⟩:=fK (iI n) ns;unfold Match;rw [ki];rw [e] at h1 h2 h3 ⊢;simp only at h1 h2 h3;subst h1;subst h2;subst h3;exact ⟨rfl,rfl,rfl⟩
theorem mA {n:Nat} {ns:List Note} {t c:Int} {l:List Ent} (h:Match n ns t c l) (hk:db (iI n) ns) (a:Note) (ha:jJ { iI n with term:=t,choice:=c,log:=l } a):db (iI n) (ns++[a]):=by
 rw [gI];refine ⟨hk,?_,trivial⟩;obtain ⟨h1,h2,h3⟩:=h;obtain ⟨t',c',g',e⟩:=fK (iI n) ns;rw [e] at h1 h2 h3 ⊢;simp only at h1 h2 h3;subst h1;subst h2;subst h3;exact ha
theorem lR (h:NOk s) (term who:Int) (h1:s.term<=term) (h2:term<=1099511627776) (h3 : -1<=who) (h4:who<s.n):NOk (bx s k term who).2.1:=by
 obtain ⟨⟨ns,g1,g2,g3⟩,g4⟩:=h;have e1:=ez (s:=s) (k:=k) (dF term who);have ea:=(jc (s:=s) (k:=k) (dF term who)).all;have hr:=kq (s:=s) (k:=k) (dF term who);unfold bx;generalize bK s k (dF term who)=p at *;simp only;rcases hr with ⟨r1,r2,r3⟩ | ⟨r1,r2⟩
 ·rw [aw (by rw [r1];decide)];have hm:=g3 r2;have hk:=mA hm g2 (.t term who) ⟨h1,h2,h3,h4⟩;have hm2:=hm.snoc (.t term who);have q1:=lM (s:=p.1) (k:=p.2);have qa:=(iH (s:=p.1) (k:=p.2)).all;have qs:=eX (s:=p.1) (k:=p.2);have hrec:(cx p.1 p.2).1.wl.recs=(ns++[Note.t term who]).map Note.bytes:=by rw [q1.1,r3,g1];simp [Note.bytes]
  have hn:(cx p.1 p.2).1.n=s.n:=qa.2.1.trans ea.2.1;have hlog:(cx p.1 p.2).1.log=s.log:=by rw [qs,e1]
  have hcho:(cx p.1 p.2).1.choice=s.choice:=by rw [qs,e1]
  have htm:(cx p.1 p.2).1.term=s.term:=qa.2.2.2.2.1.trans ea.2.2.2.2.1;have hld:(cx p.1 p.2).1.leads=s.leads:=qa.2.2.2.1.trans ea.2.2.2.1;generalize cx p.1 p.2=q at *;by_cases hd:q.1.done=true
  ·rw [ax hd];exact ⟨⟨_,hrec,by rw [hn];exact hk,λe=>by rw [hd] at e;cases e⟩,λhl=>by rw [htm];exact g4 (by rw [<-hld];exact hl)⟩
  ·rw [aw hd];refine ⟨⟨_,hrec,by show db (iI q.1.n) _;rw [hn];exact hk,λ_=>?_⟩,λhl=>?_⟩
   ·show Match q.1.n _ term who q.1.log;rw [hn,hlog];exact hm2
   ·have hl2:(q.1.leads && !decide (q.1.term<term))=true:=hl;rw [bk] at hl2;have:=g4 (by rw [<-hld];exact hl2.1);show 1<=term;omega
 ·rw [ax r1];have hn:p.1.n=s.n:=ea.2.1;exact ⟨⟨ns,by rw [r2,g1],by rw [hn];exact g2,λe=>by rw [r1] at e;cases e⟩,λhl=>by rw [ea.2.2.2.2.1];exact g4 (by rw [<-ea.2.2.2.1];exact hl)⟩
theorem oW (h:NOk s) (p:Nat) (x:Ent) (h1:p<=s.log.length) (h2:1<=x.term) (h3:x.term<=s.term) (h4:x.bs.length<=8000):NOk (cG s k p x).2.1:=by
 obtain ⟨⟨ns,g1,g2,g3⟩,g4⟩:=h;have e1:=ez (s:=s) (k:=k) (dp p x);have ea:=(jc (s:=s) (k:=k) (dp p x)).all;have hr:=kq (s:=s) (k:=k) (dp p x);unfold cG;generalize bK s k (dp p x)=q at *;simp only;rcases hr with ⟨r1,r2,r3⟩ | ⟨r1,r2⟩
 ·rw [aw (by rw [r1];decide)];have hm:=g3 r2;have hk:=mA hm g2 (.e p x) ⟨h1,h2,h3,h4⟩;have hm2:=hm.snoc (.e p x);refine ⟨⟨ns++[Note.e p x],by show q.1.wl.recs=_;rw [r3,g1];simp [Note.bytes],by show db (iI q.1.n) _;rw [ea.2.1];exact hk,λ_=>?_⟩,λhl=>?_⟩
  ·show Match q.1.n _ q.1.term q.1.choice (q.1.log.take p++[x]);rw [e1];exact hm2
  ·show 1<=q.1.term;rw [ea.2.2.2.2.1];exact g4 (by rw [<-ea.2.2.2.1];exact hl)
 ·rw [ax r1];exact ⟨⟨ns,by rw [r2,g1],by rw [ea.2.1];exact g2,λe=>by rw [r1] at e;cases e⟩,λhl=>by rw [ea.2.2.2.2.1];exact g4 (by rw [<-ea.2.2.2.1];exact hl)⟩
theorem uC (h:NOk s) (x:Ent) (h2:1<=x.term) (h3:x.term<=s.term) (h4:x.bs.length<=8000):NOk (fy s k x).2.1:=by
 have hp:=oW (k:=k) h s.log.length x (ah _) h2 h3 h4;unfold fy;generalize cG s k s.log.length x=p at *;simp only;split
 ·exact hp.sync
 ·exact hp
theorem NOk.of {s s':Rp} (h:NOk s) (h1:s'.wl.recs=s.wl.recs) (h2:s'.n=s.n) (h3:s'.done=false->s.done=false) (h4:s'.term=s.term) (h5:s'.choice=s.choice) (h6:s'.log=s.log) (h7:s'.leads=true->1<=s.term):NOk s':=by
 obtain ⟨⟨ns,g1,g2,g3⟩,g4⟩:=h;exact ⟨⟨ns,h1.trans g1,by rw [h2];exact g2,λhd=>by rw [h2,h4,h5,h6];exact g3 (h3 hd)⟩,λhl=>by rw [h4];exact h7 hl⟩
theorem kI (h:NOk s):NOk (bS s).2:=by
 have ha:∀(t:Rp) (m:Nat),(bZ t m).wl.recs=t.wl.recs/\(bZ t m).n=t.n/\(bZ t m).done=t.done/\(bZ t m).term=t.term/\(bZ t m).choice=t.choice/\(bZ t m).log=t.log/\(bZ t m).leads=t.leads:=λt m=>by unfold bZ;split<;>exact ⟨rfl,rfl,rfl,rfl,rfl,rfl,rfl⟩
 have hk:∀t:Rp,NOk t->∀m,NOk (bZ t m):=λt ht m=>by
  obtain ⟨a1,a2,a3,a4,a5,a6,a7⟩:=ha t m;exact ht.of a1 a2 (by rw [a3];exact id) a4 a5 a6 (by rw [a7];exact ht.lead)
 have h1:NOk { s with mat:=s.mat.set s.own s.log.length }:=h.of rfl rfl id rfl rfl rfl h.lead;unfold bS;simp only;split
 ·exact hk _ h1 _
 ·exact h1
theorem wc (h:NOk s) (m:Nat):NOk (bZ s m):=by
 unfold bZ;split
 ·exact h.of rfl rfl id rfl rfl rfl h.lead
 ·exact h
theorem rf (h:NOk s) (ht:1<=s.term):NOk (fR s k).2.1:=by
 have h0:NOk { s with leads:=true,next:=List.replicate s.n s.log.length,mat:=List.replicate s.n 0 }:=h.of rfl rfl id rfl rfl rfl (λ_=>ht);have h1:=uC (k:=k) h0 ⟨s.term,[]⟩ ht (aM _) (by simp);unfold fR;simp only;split
 ·exact kI h1
 ·exact h1
theorem vX (h:NOk s) (hw:Wf s k):NOk (fP s k).2.1:=by
 unfold fP;by_cases ht:1099511627776<=s.term
 ·rw [ax ht];exact h
 ·rw [aw ht];have h0:=hw.term0;have hn:=lR (k:=k) h (s.term+1) (s.own:Int) (by omega) (by omega) (by omega) (by have:=hw.own;omega);have he:=gD (s:=s) (k:=k) (s.term+1) (s.own:Int);generalize bx s k (s.term+1) (s.own:Int)=p at *;simp only;by_cases hp:p.1=true
  ·rw [ax hp];have h1:NOk { p.2.1 with ticks:=0,votes:=(List.replicate s.n false).set s.own true }:=hn.of rfl rfl id rfl rfl rfl hn.lead;split
   ·exact rf h1 (by show 1<=p.2.1.term;rw [he.2.2.2 hp];omega)
   ·exact h1
  ·rw [aw hp];exact hn
theorem lS (h:NOk s):NOk (aY s k):=h.of rfl rfl (λhd=>by
 have:ew s k=false:=hd;unfold ew at this;rw [dZ] at this;exact this.1) rfl rfl rfl h.lead
theorem za (h:NOk s) (hw:Wf s k):NOk (eh s k).2.1:=by
 have h0:=lS (k:=k) h;have w0:=gx hw;unfold eh;simp only;split
 ·exact h0
 ·split
  ·exact h0.of rfl rfl id rfl rfl rfl h0.lead
  ·have h2:NOk { aY s k with clock:=(aY s k).clock+1,ticks:=(aY s k).ticks+1 }:=h0.of rfl rfl id rfl rfl rfl h0.lead;have w2:Wf { aY s k with clock:=(aY s k).clock+1,ticks:=(aY s k).ticks+1 } k:=eL w0 (aY s k).lives ((aY s k).ticks+1) ((aY s k).clock+1) (aY s k).votes (Nat.succ_le_succ w0.tick) w0.vl (bO _);split
   ·exact vX h2 w2
   ·split<;>exact h2
theorem tA (h:NOk s) (rec:List UInt8):NOk (bJ s k rec).2.2.1:=by
 have h0:=lS (k:=k) h;unfold bJ;by_cases h1:rec.length=0
 ·rw [ax h1];exact h
 rw [aw h1];by_cases h2:8000<rec.length
 ·rw [ax h2];exact h
 rw [aw h2];simp only;by_cases h3:(aY s k).done=true
 ·rw [ax h3];exact h0
 rw [aw h3];by_cases h4:(!(aY s k).leads)=true
 ·rw [ax h4];exact h0
 rw [aw h4];by_cases h5:200<=ik (aY s k)\/2000<=(aY s k).many
 ·rw [ax h5];exact h0
 rw [aw h5];have hw:=uC (k:=k) h0 ⟨(aY s k).term,rec⟩ (h0.lead (by simpa using h4)) (aM _) (by simpa using h2);generalize fy (aY s k) k ⟨(aY s k).term,rec⟩=p at *;by_cases h6:p.1=true
 ·rw [ax h6];exact kI hw
 ·rw [aw h6];exact hw
theorem kH (h:NOk s) (t:Nat):NOk { s with ticks:=t }:=h.of rfl rfl id rfl rfl rfl h.lead
theorem vZ (h:NOk s) (hw:Wf s k) (m:Msg) (hf0:0<=m.frm) (hfn:m.frm<(s.n:Int)):NOk (dV s k m).2.1:=by
 unfold dV;split
 ·simp only;split
  ·split
   ·have hn:=lR (k:=k) h s.term m.frm (aM _) hw.termM (by omega) hfn;generalize bx s k s.term m.frm=p at *;split
    ·exact kH hn 0
    ·exact hn
   ·exact kH h 0
  ·exact h
 ·exact h
theorem vW (h:NOk s) (m:Msg) (hN:1<=m.N.getD 0 0):NOk (eM s k m).2.1:=by
 unfold eM;split
 ·exact h
 ·rename_i hb;have h1:NOk { s with votes:=s.votes.set m.frm.toNat true }:=h.of rfl rfl id rfl rfl rfl h.lead;simp only [aW,aV,not_or,dB,cH] at hb;simp only;split
  ·exact rf h1 (by show 1<=s.term;rw [<-hb.1.1.2];exact hN)
  ·exact h1
theorem pU (h:NOk s) (m:Msg):NOk (ct s m).2:=by
 unfold ct;split
 ·exact h
 ·simp only;split
  ·split
   ·exact h
   ·exact h.of rfl rfl id rfl rfl rfl h.lead
  ·split
   ·exact h
   ·have h1:NOk { s with mat:=s.mat.set m.frm.toNat (m.N.getD 2 0).toNat,next:=s.next.set m.frm.toNat (max (m.N.getD 2 0).toNat (s.next.getD m.frm.toNat 0))}:=h.of rfl rfl id rfl rfl rfl h.lead;have h2:=kI h1;split
    ·exact h2
    ·split<;>exact h2
theorem vY (f:Nat) (l:List (Int×List UInt8)):∀(i:Nat) (s:Rp) (k:Dk),NOk s->Wf s k->s.leads=false->f+i<=s.log.length->NOk (bE f l i s k).2.1:=by
 induction l with
 | nil=>intro i s k h hw hl hf;exact h
 | cons a l ih =>
  intro i s k h hw hl hf;obtain ⟨t,rec⟩:=a;unfold bE;by_cases h1:f+i<s.log.length/\(s.log.map Ent.term).getD (f+i) 0=t
  ·rw [ax h1];exact ih (i+1) s k h hw hl (by omega)
  ·rw [aw h1];by_cases h2:8000<rec.length\/t<1\/s.term<t\/f+i<s.agreed
   ·rw [ax h2];exact h
   ·rw [aw h2];have hn:=oW (k:=k) h (f+i) ⟨t,rec⟩ hf (by show 1<=t;omega) (by show t<=s.term;omega) (by show rec.length<=8000;omega);have hw2:=kU hw (f+i) ⟨t,rec⟩ hf (by omega) (λe=>by rw [hl] at e;cases e) (by show rec.length<=8000;omega);have hs:=jd (s:=s) (k:=k) (f+i) ⟨t,rec⟩;have hg:=kC (s:=s) (k:=k) (f+i) ⟨t,rec⟩;generalize cG s k (f+i) ⟨t,rec⟩=p at *;simp only;by_cases h3:p.1=true
    ·rw [ax h3];have hlen:p.2.1.log.length=f+i+1:=by
      rw [hg h3];simp [bB hf]
     exact ih (i+1) p.2.1 p.2.2 hn hw2 (hs.all.2.2.2.1.trans hl) (by omega)
    ·rw [aw h3];exact hn
theorem zb (h:NOk s) (hw:Wf s k) (m:Msg) (hle:m.N.getD 0 0<=s.term):NOk (dK s k m).2.1:=by
 unfold dK;by_cases hb:(!(m.N.length==4+m.B.length)||decide (m.N.getD 1 0<0)||(m.N.getD 0 0==s.term&&s.leads))=true
 ·rw [ax hb];exact h
 rw [aw hb];by_cases h1:m.N.getD 0 0<s.term
 ·rw [ax h1];exact h
 rw [aw h1];have h0:=kH h 0;have w0:Wf { s with ticks:=0 } k:=eL hw s.lives 0 s.clock _ (aA _) hw.vl (ah _);simp only;simp only [aW,aV,not_or,dB,aR,bk,cH,not_and] at hb;obtain ⟨⟨hNl,hN1⟩,hld⟩:=hb;have hld2:s.leads=false:=by
  have:=hld (by omega);simpa using this
 by_cases hft:eW { s with ticks:=0 } (m.N.getD 1 0) (m.N.getD 2 0)=true
 ·rw [ax hft];have hfl:(m.N.getD 1 0).toNat<=s.log.length:=by
   unfold eW at hft;simp only [bk,aR] at hft;omega
  have hF:=vY (m.N.getD 1 0).toNat ((m.N.drop 4).zip m.B) 0 { s with ticks:=0 } k h0 w0 hld2 hfl;generalize bE (m.N.getD 1 0).toNat ((m.N.drop 4).zip m.B) 0 { s with ticks:=0 } k=p at *;by_cases hp:p.1=true
  ·rw [ax hp];have hq:NOk (if m.B.length=0 then p.2 else cx p.2.1 p.2.2).1:=by
    split
    ·exact hF
    ·exact hF.sync
   generalize (if m.B.length=0 then p.2 else cx p.2.1 p.2.2)=q at *;split
   ·exact hq
   ·exact wc hq _
  ·rw [aw hp];exact hF
 ·rw [aw hft];exact h0
theorem Bc (h:NOk s) (hw:Wf s k) (m:Msg):NOk (fC s k m).2.1:=by
 have h0:=lS (k:=k) h;have w0:=gx hw;unfold fC;by_cases hb:((aY s k).done||mh (aY s k) m)=true
 ·rw [ax hb];exact h0
 rw [aw hb];simp only [aW,not_or] at hb;have hbad:=hb.2;unfold mh at hbad;simp only [aW,aV,not_or,dB,aR] at hbad;obtain ⟨⟨⟨⟨⟨⟨_,hfo⟩,hf0⟩,hfn⟩,hln⟩,hN0⟩,hNM⟩:=hbad;have hfn:m.frm<(s.n:Int):=by
  have:¬((s.n:Int)<=m.frm):=hfn;omega
 have hp:∃p:Bool×Rp×Dk,p=(if (aY s k).term<m.N.getD 0 0 then bx (aY s k) k (m.N.getD 0 0) (-1) else (true,aY s k,k))/\NOk p.2.1/\Wf p.2.1 p.2.2/\p.2.1.n=s.n/\(p.1=true->m.N.getD 0 0<=p.2.1.term):=by
  by_cases ht:(aY s k).term<m.N.getD 0 0
  ·rw [ax ht];have he:=gD (s:=aY s k) (k:=k) (m.N.getD 0 0) (-1);exact ⟨_,rfl,lR h0 _ _ (Int.le_of_lt ht) (by omega) (by omega) (by have:=w0.n1;omega),iz w0 _ _ (by omega) (by omega) (by omega) (by have:=w0.n1;omega),he.2.1,λe=>by rw [he.2.2.2 e];exact aM _⟩
  ·rw [aw ht];exact ⟨_,rfl,h0,w0,rfl,λ_=>by show _<=(aY s k).term;omega⟩
 obtain ⟨p,hpe,hn,hw1,p2,p4⟩:=hp;simp only;rw [<-hpe];by_cases h1:p.1=true
 ·rw [ax h1];split
  ·exact vZ hn hw1 m (by omega) (by rw [p2];exact hfn)
  ·split
   ·exact vW hn m (by omega)
   ·split
    ·exact zb hn hw1 m (p4 h1)
    ·split
     ·exact pU hn m
     ·split
      ·split
       ·exact hn.of rfl rfl id rfl rfl rfl hn.lead
       ·exact hn
      ·exact hn
 ·rw [aw h1];exact hn
end
def zP:List (List UInt8)->Nat->Nat
 | [],_=>0
 | r::l,len=>if 12+r.length<=len then zP l (len - (12+r.length))+1 else 0
theorem vj (recs:List (List UInt8)):∀len,len<=(F.aL recs).length->∃r q,(F.aL recs).take len=F.aL (recs.take (zP recs len))++(F.cz r).take q/\q<12+r.length/\(r=[]\/r∈recs):=by
 induction recs with
 | nil =>
  intro len h;refine ⟨[],0,?_,by simp,.inl rfl⟩;simp [F.aL,zP]
 | cons a l ih =>
  intro len h;rw [F.et,ay,F.di] at h;unfold zP;by_cases hl:12+a.length<=len
  ·rw [ax hl];obtain ⟨r,q,h1,h2,h3⟩:=ih (len - (12+a.length)) (by omega);refine ⟨r,q,?_,h2,h3.imp id (aI _)⟩;rw [F.et,List.take_succ_cons,F.et,bH,<-h1,List.take_append,F.di,bA (by rw [F.di];exact hl)]
  ·rw [aw hl];refine ⟨a,len,?_,by omega,.inr aP⟩;rw [F.et,cI (by rw [F.di];omega)];simp [F.aL]
def lk (b:List UInt8):Note:=if b.length=24 then .t (ol (b.drop 8)) (ol (b.drop 16)) else .e (ol (b.drop 8)).toNat ⟨ol (b.drop 16),b.drop 32⟩
theorem Ba (a c:Int) (h1 : -9223372036854775808<=a) (h2:a<=9223372036854775807) (h3 : -9223372036854775808<=c) (h4:c<=9223372036854775807):lk (dF a c) = .t a c:=by
 unfold lk;rw [ax (iK a c),mz];have e1:(fI 1++(fI a++(fI c++[]))).drop 8=fI a++(fI c++[]):=jU (fs 1);have e2:(fI 1++(fI a++(fI c++[]))).drop 16=fI c++[]:=by
  rw [show 16=8+8 from rfl,<-List.drop_drop,e1];exact jU (fs a)
 rw [e1,e2,jA a _ h1 h2,jA c _ h3 h4]
theorem Bb (p:Nat) (x:Ent) (h1:p<=1000000000) (h2 : -9223372036854775808<=x.term) (h3:x.term<=9223372036854775807):lk (dp p x) = .e p x:=by
 unfold lk;rw [aw (by rw [gX];omega)];have hp:dp p x=fI 2++(fI (p:Int)++(fI x.term++(fI (x.bs.length:Int)++x.bs))):=by
  unfold dp jp;simp [bH]
 rw [hp];have e1:(fI 2++(fI (p:Int)++(fI x.term++(fI (x.bs.length:Int)++x.bs)))).drop 8=fI (p:Int)++(fI x.term++(fI (x.bs.length:Int)++x.bs)):=jU (fs 2);have e2:(fI 2++(fI (p:Int)++(fI x.term++(fI (x.bs.length:Int)++x.bs)))).drop 16=fI x.term++(fI (x.bs.length:Int)++x.bs):=by
  rw [show 16=8+8 from rfl,<-List.drop_drop,e1];exact jU (fs _)
 have e3:(fI 2++(fI (p:Int)++(fI x.term++(fI (x.bs.length:Int)++x.bs)))).drop 32=x.bs:=by
  rw [show 32=16+(8+8) from rfl,<-List.drop_drop,e2,<-List.drop_drop,jU (fs x.term)];exact jU (fs _)
 rw [e1,e2,e3,jA (p:Int) _ (by omega) (by omega),jA x.term _ h2 h3,dj]
theorem jF (a b:Rp) (h1:a.n=b.n) (h2:a.term=b.term) (h3:a.choice=b.choice) (h4:a.log=b.log) (l:List Note):(cK a l).term=(cK b l).term/\(cK a l).choice=(cK b l).choice/\(cK a l).log=(cK b l).log/\(db a l↔db b l):=by
 induction l generalizing a b with
 | nil=>exact ⟨h2,h3,h4,Iff.rfl⟩
 | cons x l ih =>
  have hk:jJ a x↔jJ b x:=by
   cases x with
   | t u v=>simp only [jJ];rw [h2,h1]
   | e p y=>simp only [jJ];rw [h4,h2]
  have hn:(dG a x).n=(dG b x).n/\(dG a x).term=(dG b x).term/\(dG a x).choice=(dG b x).choice/\(dG a x).log=(dG b x).log:=by
   cases x with
   | t u v=>exact ⟨h1,rfl,rfl,h4⟩
   | e p y=>exact ⟨h1,h2,h3,by simp only [dG];rw [h4]⟩
  obtain ⟨r1,r2,r3,r4⟩:=ih (dG a x) (dG b x) hn.1 hn.2.1 hn.2.2.1 hn.2.2.2;refine ⟨r1,r2,r3,?_⟩;simp only [db];rw [hk,r4]
theorem la (s:Rp) (l:List Note) (h:db s l) (hl:s.log.length+l.length<=1000000000) (h0:0<=s.term) (hM:s.term<=1099511627776) (hn:s.n<=5):(l.map Note.bytes).map lk=l:=by
 induction l generalizing s with
 | nil=>rfl
 | cons a l ih =>
  obtain ⟨h1,h2⟩:=h;simp only [aX] at hl;have hlog:(dG s a).log.length<=s.log.length+1:=by
   cases a with
   | t u v=>simp [dG]
   | e p y=>simp [dG];omega
  have hterm:0<=(dG s a).term:=by
   cases a with
   | t u v=>exact cS h0 h1.1
   | e p y=>exact h0
  have hnn:(dG s a).n<=5:=by
   cases a with
   | t u v=>exact hn
   | e p y=>exact hn
  have hMM:(dG s a).term<=1099511627776:=by
   cases a with
   | t u v=>exact h1.2.1
   | e p y=>exact hM
  have e:=ih (dG s a) h2 (by omega) hterm hMM hnn;simp only [ii,e];congr 1;cases a with
  | t u v =>
   obtain ⟨k1,k2,k3,k4⟩:=h1;exact Ba u v (by omega) (by omega) (by omega) (by omega)
  | e p y =>
   obtain ⟨k1,k2,k3,k4⟩:=h1;exact Bb p y (by omega) (by omega) (by omega)
structure UpI (s:Rp) (k:Dk):Prop where
 wf:Wf s k
 nok:NOk s
 sf:qn k
 off:k.off=false
structure DnI (s:Rp) (k:Dk):Prop where
 fil:eZ k=(F.aL s.wl.recs).take (eZ k).length
 len:(eZ k).length<=(F.aL s.wl.recs).length
 sf:qn k
 room:k.room<=1048576
 tot:(k.total:Int)<=k.room
 nok:NOk s
 n1:1<=s.n
 n5:s.n<=5
 own:s.own<s.n
 off:k.off=true
theorem nS (k:Dk) (keep:Int):∃m,m<=(eZ k).length/\eZ (dN k keep)=(eZ k).take m/\(qn k->qn (dN k keep)):=by
 unfold dN nT eZ qn;cases hk:k.file with
 | none=>exact ⟨0,by simp,by simp,λ_ l q hf=>by cases hf⟩
 | some p =>
  obtain ⟨l,q⟩:=p;refine ⟨min (jr l q keep) l.length,by simp;omega,?_,λh l2 q2 hf=>?_⟩
  ·simp only;rw [<-cL,bA (ah _)]
  ·simp only [co,fW] at hf;obtain ⟨rfl,rfl⟩:=hf;have:=qF (l:=l) (k:=q) keep (h l q rfl);rw [aE];omega
theorem UpI.crash {s:Rp} {k:Dk} (h:UpI s k) (keep:Int):DnI s (dN k keep):=by
 obtain ⟨m,h1,h2,h3⟩:=nS k keep;have hf:=h.wf.fil;have hl:(eZ (dN k keep)).length=m:=by rw [h2,aE];omega
 refine ⟨by rw [hl,h2,hf],by rw [hl,<-hf];exact h1,h3 h.sf,h.wf.room,?_,h.nok,h.wf.n1,h.wf.n5,h.wf.own,rfl⟩;have:=h.wf.tot;rw [eN] at this ⊢;rw [hl];show (m:Int)<=k.room;omega
theorem DnI.crash {s:Rp} {k:Dk} (h:DnI s k) (keep:Int):DnI s (dN k keep):=by
 obtain ⟨m,h1,h2,h3⟩:=nS k keep;have hl:(eZ (dN k keep)).length=m:=by rw [h2,aE];omega
 refine ⟨?_,by rw [hl];exact aF h1 h.len,h3 h.sf,h.room,?_,h.nok,h.n1,h.n5,h.own,rfl⟩
 ·rw [hl,h2];rw [h.fil,cL,bB h1]
 ·have:=h.tot;rw [eN] at this ⊢;rw [hl];show (m:Int)<=k.room;omega
def BZ (k:Dk):Dk:={ k with off:=false,lives:=k.lives+1 }
def dT (s:Rp) (k:Dk):List (List UInt8):=s.wl.recs.take (zP s.wl.recs (eZ k).length)
def fN (i n:Nat) (s:Rp) (k:Dk):Rp:=cK (dz i n (k.lives+1) (dT s k)) ((dT s k).map lk)
def fu (s:Rp) (k:Dk):Dk:=eR (BZ k) (dT s k)
theorem rd (s:Rp) (l:List Note) (h:db s l):∀x∈l.map Note.bytes,x.length<=20000:=by
 induction l generalizing s with
 | nil=>intro x hx;cases hx
 | cons a l ih =>
  intro x hx;obtain ⟨h1,h2⟩:=h;rw [ii] at hx;rcases bG.1 hx with rfl | hx
  ·cases a with
   | t u v=>show (dF u v).length<=_;rw [iK];omega
   | e p y=>show (dp p y).length<=_;rw [gX];have:=h1.2.2.2;omega
  ·exact ih _ h2 x hx
theorem qd {s:Rp} {k:Dk} (h:DnI s k):Torn (BZ k) (dT s k)/\(∀x∈dT s k,x.length<=20000)/\(BZ k).total<=1048576/\∃ns,dT s k=ns.map Note.bytes/\(dT s k).map lk=ns/\db (iI s.n) ns/\ns.length<=100000:=by
 obtain ⟨ns,g1,g2,_⟩:=h.nok.ex;have ht:(eZ k).length<=1048576:=by
  have h1:=h.tot;have h2:=h.room;rw [eN] at h1;omega
 obtain ⟨r,q,t1,t2,t3⟩:=vj s.wl.recs (eZ k).length h.len;have hb:dT s k=(ns.take (zP s.wl.recs (eZ k).length)).map Note.bytes:=by
  unfold dT;rw [g1,ju]
 have hk:=km _ _ g2 (zP s.wl.recs (eZ k).length);have hlen:∀x∈dT s k,x.length<=20000:=by rw [hb];exact rd _ _ hk
 have hfb:eZ k=F.aL (dT s k)++(F.cz r).take q:=by rw [h.fil];exact t1
 have hns:(ns.take (zP s.wl.recs (eZ k).length)).length<=100000:=by
  have h1:=ip (dT s k);have h2:(F.aL (dT s k)).length<=(eZ k).length:=by rw [hfb,ay];omega
  have h3:(dT s k).length=(ns.take (zP s.wl.recs (eZ k).length)).length:=by rw [hb,aQ]
  omega
 refine ⟨⟨?_⟩,hlen,by rw [eN];exact ht,_,hb,?_,hk,hns⟩
 ·cases hf:k.file with
  | none =>
   refine .inl ⟨hf,?_⟩;have:eZ k=[]:=by unfold eZ;rw [hf]
   rw [this] at hfb;have h0:(F.aL (dT s k)).length=0:=by
    have:=congrArg List.length hfb;rw [ay] at this;simp at this;omega
   have h1:=ip (dT s k);exact bC.1 (by omega)
  | some p =>
   obtain ⟨l,sf⟩:=p;have hl:eZ k=l:=by unfold eZ;rw [hf]
   rw [hl] at hfb;have hr:r.length<=20000:=by
    rcases t3 with rfl | hm
    ·simp
    ·rw [g1] at hm;exact rd _ _ g2 r hm
   exact .inr ⟨sf,r,q,by show k.file=_;rw [hf,<-hfb],hr,t2,by rw [<-hfb];exact h.sf l sf hf⟩
 ·rw [hb];exact la (iI s.n) _ hk (by show 0+_<=_;omega) (aM _) (by show (0:Int)<=_;decide) h.n5
theorem ot (s:Rp) (l:List Note) (h:db s l) (h1 : -1<=s.choice) (h2:s.choice<s.n) (h3:∀x∈s.log,x.bs.length<=8000) : -1<=(cK s l).choice/\(cK s l).choice<s.n/\∀x∈(cK s l).log,x.bs.length<=8000:=by
 induction l generalizing s with
 | nil=>exact ⟨h1,h2,h3⟩
 | cons a l ih =>
  obtain ⟨k1,k2⟩:=h;cases a with
  | t u v=>exact ih (dG s (.t u v)) k2 k1.2.2.1 k1.2.2.2 h3
  | e p y=>exact ih (dG s (.e p y)) k2 h1 h2 (λx hx=>by
   rcases av.1 hx with hx | hx
   ·exact h3 x (eS hx)
   ·rw [aj.1 hx];exact k1.2.2.2)
theorem BP {s:Rp} {k:Dk} (h:DnI s k):UpI (fN s.own s.n s k) (fu s k)/\(fN s.own s.n s k).own=s.own/\(fN s.own s.n s k).n=s.n/\(fN s.own s.n s k).clock=0:=by
 obtain ⟨ht,hr,htot,ns,hb,hd,hk,hns⟩:=qd h;have e0:fN s.own s.n s k=cK (dz s.own s.n (k.lives+1) (dT s k)) ns:=by unfold fN;rw [hd]
 have hlike:=jF (dz s.own s.n (k.lives+1) (dT s k)) (iI s.n) rfl rfl rfl rfl ns;have hk2:=hlike.2.2.2.2 hk;have hbnd:=ot (dz s.own s.n (k.lives+1) (dT s k)) ns hk2 (by show (-1:Int) <= -1;omega) (by show (-1:Int)<(s.n:Int);omega) (λx hx=>by cases hx);have htm:=kZ (dz s.own s.n (k.lives+1) (dT s k)) ns hk2;have hlen:=nA (dz s.own s.n (k.lives+1) (dT s k)) ns;obtain ⟨t,c,g,e⟩:=fK (dz s.own s.n (k.lives+1) (dT s k)) ns;rw [e] at hbnd htm hlen hlike;have hrl:(dT s k).length=ns.length:=by rw [hb,aQ]
 have hfil:eZ (fu s k)=F.aL (dT s k):=by
  unfold fu eR;rcases ht.ex with ⟨hf,hn⟩ | ⟨sf,r,q,hf,_⟩
  ·rw [hf];simp only;rw [hn];unfold eZ;rw [hf];rfl
  ·rw [hf];rfl
 have hroom:(fu s k).room=k.room:=by unfold fu eR;split<;>rfl
 have hoff:(fu s k).off=false:=by unfold fu eR;split<;>rfl
 have hfl:(F.aL (dT s k)).length<=(eZ k).length:=by
  rcases ht.ex with ⟨hf,hn⟩ | ⟨sf,r,q,hf,_⟩
  ·rw [hn];simp [F.aL]
  ·have:eZ k=F.aL (dT s k)++(F.cz r).take q:=by
    have hf2:k.file=some (F.aL (dT s k)++(F.cz r).take q,sf):=hf;unfold eZ;rw [hf2]
   rw [this,ay];omega
 have hsf:qn (fu s k):=by
  intro l q hf;unfold fu eR at hf;split at hf
  ·rename_i hn;rw [hn] at hf;cases hf
  ·simp only [co,fW] at hf;obtain ⟨rfl,rfl⟩:=hf;exact Nat.min_le_right _ _
 rw [e0,e];refine ⟨⟨⟨h.n1,h.n5,h.own,by simp [dz],by simp [dz],by simp [dz],by simp [dz],by rw [hroom];exact h.room,?_,hfil,?_,aA _,rfl,(λhl=>by cases hl),htm.1,htm.2 (by show (0:Int)<=_;decide),hbnd.1,hbnd.2.1,hbnd.2.2,ah _,λx hx=>?_⟩,⟨⟨ns,hb,hk,λ_=>⟨hlike.1.symm,hlike.2.1.symm,hlike.2.2.1.symm⟩⟩,(λhl=>by cases hl)⟩,hsf,hoff⟩,rfl,rfl,rfl⟩
 ·have:=h.tot;rw [eN] at this ⊢;rw [hroom,hfil];omega
 ·show g.length<=(dT s k).length;rw [hrl];have:g.length<=0+ns.length:=hlen;omega
 ·have:x∈List.replicate s.n ((0:Int),(0:Int),(0:Int)):=hx;rw [List.eq_of_mem_replicate this];exact ⟨aM _,by show (0:Int)<=_;simp⟩
open Go.RowKit
structure Ac where
 op:Int
 N:Int
 K:Int
 P:Int
 B:List UInt8
def qp:Ac:=⟨0,0,0,0,[]⟩
instance:Inhabited Ac:=⟨qp⟩
theorem tE {z:Int} (h:(Lit.int .i64 z).wf=true) : -9223372036854775808<=z/\z<=9223372036854775807:=by
 simp only [Lit.wf,IntKind.min,IntKind.max,IntKind.signed,IntKind.bits,bk,aR,if_true] at h;omega
structure AtAc (w:World) (b off:Nat) (x:Ac):Prop where
 c0:w.cell? ⟨b,off,none⟩=some (.int .i64 x.op)
 c1:w.cell? ⟨b,off+1,none⟩=some (.int .i64 x.N)
 c2:w.cell? ⟨b,off+2,none⟩=some (.int .i64 x.K)
 c3:w.cell? ⟨b,off+3,none⟩=some (.int .i64 x.P)
 c4:∃bo bc,w.cell? ⟨b,off+4,none⟩=some (.slice bo x.B.length bc)/\IsB w bo x.B.length bc x.B/\x.B.length<=bc
 p1 : -9223372036854775808<=x.P/\x.P<=9223372036854775807
 n1 : -9223372036854775808<=x.N/\x.N<=9223372036854775807
structure IsAx (w:World) (ao:Option Addr) (n:Nat) (l:List Ac):Prop where
 len:l.length=n
 at_:n=0\/∃b off,ao=some ⟨b,off,none⟩/\∀i,i<n->AtAc w b (off+i*5) (l.getD i qp)
theorem AtAc.below {w w':World} {b off:Nat} {x:Ac} (h:AtAc w b off x) (hb:Below w.heap.size w w'):AtAc w' b off x:=by
 obtain ⟨h0,h1,h2,h3,⟨bo,bc,h4,h5,h6⟩,h7,h8⟩:=h;exact ⟨cell_later hb h0,cell_later hb h1,cell_later hb h2,cell_later hb h3,⟨bo,bc,cell_later hb h4,h5.below hb,h6⟩,h7,h8⟩
theorem IsAx.below {w w':World} {ao:Option Addr} {n:Nat} {l:List Ac} (h:IsAx w ao n l) (hb:Below w.heap.size w w'):IsAx w' ao n l:=by
 refine ⟨h.len,?_⟩;rcases h.at_ with h0 | ⟨b,off,h1,h2⟩
 ·exact .inl h0
 ·exact .inr ⟨b,off,h1,λi hi=>(h2 i hi).below hb⟩
section
variable {H:Type} {enc:TypeId×Value->H}
open Go.ChangeShapes Go.WideShapes Go.ChangeAt
theorem CO:Try.prog.cellsOf 31=5:=by kernel_rfl
theorem AY {W:World} {base:Nat} {v:Value} {d:DataW H} {ps:List MemPlace} (hv:Value.okWide Try.prog W .any base 22 v) (h:DataW.Trod enc Try.prog W 0 (λ_=>true) true 22 v d ps)
  (hsz:(DataW.weights Try.prog 22 d).all (· <= reachBytes)=true):∃ao n c l,v = .slice ao n c/\IsAx W ao n l/\n<=c/\n<=140737488355328:=by
 obtain ⟨a,n,c,rfl⟩:=okWide_slice Try.underlying22 hv;obtain ⟨fuel,hf⟩:=h;have k3:Try.prog.cellsOf 3=1:=by kernel_rfl
 have k29:Try.prog.cellsOf 29=1:=by kernel_rfl
 have kb:Try.prog.bytesOf 31=56:=by kernel_rfl
 rcases Deep.open_slice Try.underlying22 hf with ⟨hcs,hx⟩ | ⟨ad,n',c',m,k,D,Pl,hcs,_,hle,_,hm,hx,hcell⟩
 ·simp [Value.cells] at hcs;obtain ⟨rfl,rfl,rfl⟩:=hcs;exact ⟨_,_,_,[],rfl,⟨rfl,.inl rfl⟩,ah _,aA _⟩
 ·simp [Value.cells] at hcs;obtain ⟨rfl,rfl,rfl⟩:=hcs;obtain rfl:m=c:=by simpa using hm
  rw [CO] at hcell;obtain ⟨rfl,rfl⟩:=Prod.mk.inj hx;simp only [DataW.weights,Try.underlying22,List.all_cons,List.all_append,bk] at hsz;obtain ⟨hs1,hs2,_⟩:=hsz;have hnb:n<=140737488355328:=by
   rw [kb] at hs1;simp [reachBytes] at hs1;omega
  have hw:∀i,i<n->(DataW.weights Try.prog 31 (D i)).all (· <= reachBytes)=true:=λi hi=>pC hs2 (gR.2 ⟨i,cX.2 hi,rfl⟩);have hex:∀i,i<n->∃x:Ac,∃bo bc,W.cell? (ad.add (i*5))=some (.int .i64 x.op)/\W.cell? ((ad.add (i*5)).add 1)=some (.int .i64 x.N)/\W.cell? ((ad.add (i*5)).add 2)=some (.int .i64 x.K)/\W.cell? ((ad.add (i*5)).add 3)=some (.int .i64 x.P)/\W.cell? ((ad.add (i*5)).add 4)=some (.slice bo x.B.length bc)/\IsB W bo x.B.length bc x.B/\x.B.length<=bc/\(-9223372036854775808<=x.P/\x.P<=9223372036854775807)/\(-9223372036854775808<=x.N/\x.N<=9223372036854775807):=by
   intro i hi;obtain ⟨cs,hcs1,htr⟩:=hcell i (by omega);obtain ⟨_,hlen,hget⟩:=World.cells?_some hcs1;obtain ⟨xs,q,_,hx,_,hlen2,hf⟩:=DataW.trod_struct Try.underlying31 htr;obtain ⟨c0,c1,c2,c3,c4,rfl⟩:∃c0 c1 c2 c3 c4,cs=[c0,c1,c2,c3,c4]:=by
    match cs,hlen with
    | [c0,c1,c2,c3,c4],_=>exact ⟨c0,c1,c2,c3,c4,rfl⟩
   obtain ⟨y0,y1,y2,y3,y4,rfl⟩:∃y0 y1 y2 y3 y4,xs=[y0,y1,y2,y3,y4]:=by
    match xs,hlen2 with
    | [y0,y1,y2,y3,y4],_=>exact ⟨y0,y1,y2,y3,y4,rfl⟩
   have f0:DataW.trod enc Try.prog W 0 (λ_=>true) true q 3 [c0]=some y0:=by simpa [k3] using hf 0 _ rfl
   have f1:DataW.trod enc Try.prog W 0 (λ_=>true) true q 3 [c1]=some y1:=by simpa [k3] using hf 1 _ rfl
   have f2:DataW.trod enc Try.prog W 0 (λ_=>true) true q 3 [c2]=some y2:=by simpa [k3] using hf 2 _ rfl
   have f3:DataW.trod enc Try.prog W 0 (λ_=>true) true q 3 [c3]=some y3:=by simpa [k3] using hf 3 _ rfl
   have f4:DataW.trod enc Try.prog W 0 (λ_=>true) true q 29 [c4]=some y4:=by simpa [k29] using hf 4 _ rfl
   have hd:=hw i hi;rw [show D i = .agg [y0.1,y1.1,y2.1,y3.1,y4.1] from (Prod.mk.inj hx).1] at hd;have hwe:(DataW.weightsEach Try.prog [3,3,3,3,29] [y0.1,y1.1,y2.1,y3.1,y4.1]).all (· <= reachBytes)=true:=by
    simp only [DataW.weights,Try.underlying31] at hd;exact hd
   have hw4:=jy hwe (j:=4) (t:=29) (d:=y4.1) rfl rfl;obtain ⟨z0,e0,_,_⟩:=DataW.trod_int Try.underlying3 f0;obtain ⟨z1,e1,_,w1⟩:=DataW.trod_int Try.underlying3 f1;obtain ⟨z2,e2,_,_⟩:=DataW.trod_int Try.underlying3 f2;obtain ⟨z3,e3,_,w3⟩:=DataW.trod_int Try.underlying3 f3;obtain ⟨bo,bn,bc,bl,e4,i4,hle4,_⟩:=iJ Try.underlying29 Try.underlying5 (by kernel_rfl) (by kernel_rfl) f4 hw4;simp only [List.cons.injEq,and_true] at e0 e1 e2 e3 e4;subst e0 e1 e2 e3 e4;have hq:=i4.len;subst hq;refine ⟨⟨z0,z1,z2,z3,bl⟩,bo,bc,?_,?_,?_,?_,?_,i4,hle4,tE w3,tE w1⟩
   ·have:=hget 0 (by omega);simpa [Addr.add] using this
   ·rw [hget 1 (by omega)];rfl
   ·rw [hget 2 (by omega)];rfl
   ·rw [hget 3 (by omega)];rfl
   ·rw [hget 4 (by omega)];rfl
  obtain ⟨L,hL⟩:=Deep.choose_lt hex;refine ⟨some ad,n,m,(List.range n).map L,rfl,⟨by simp,?_⟩,hle,hnb⟩;by_cases h0:n=0
  ·exact .inl h0
  ·right;obtain ⟨b,off,spot⟩:=ad;have hspot:spot=none:=by
    obtain ⟨_,_,h1,_⟩:=hL 0 (by omega);simpa [Addr.add] using World.cell?_spot h1
   subst hspot;refine ⟨b,off,rfl,λi hi=>?_⟩;obtain ⟨bo,bc,g0,g1,g2,g3,g4,g5,g6,g7,g8⟩:=hL i hi;simp only [Addr.add_lit] at g0 g1 g2 g3 g4;have hgd:((List.range n).map L).getD i qp=L i:=by simp [aK,hi]
   rw [hgd];exact ⟨g0,g1,g2,g3,⟨bo,bc,g4,g5,g6⟩,g7,g8⟩
end
end Go.Proofs.Ytnicaicjgaoolaa
