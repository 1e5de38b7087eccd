/-
  What the proof of the law leans on: contracts of the program's functions, one behind another. No condition.
-/
import Derived.Test.YtnhefallmioefaaGreatV0
import Derived.Test.YtnhefallmioefaaGreatV33
import Derived.Test.YtnhefallmioefaaGreatV28
import Derived.Test.YtnhefallmioefaaGreatV23
set_option linter.unusedVariables false
set_option linter.unusedSimpArgs false
namespace Go.Proofs.YtnhefallmioefaaGreat
set_option maxRecDepth 20000
section
variable {ρ:Type} {f:ρ->List UInt8} {z:ρ->Bool} {e:ρ} {s:Rp} {k:Dk} {c:X.Nd ρ}
theorem po (hz:∀x,z x=(f x).isEmpty) (he:f e=[]) (hf:∀x,(f x).length<=300) (h:Rel f s k c) (hc:c.cnt<=3000) (m:X.Ms ρ) (hb:m.B.length<=20) (hbad:(X.getIn z e c m).2.bad=false) :
  RelP f (if (dj f m).kind=1 then dW s k (dj f m) else if (dj f m).kind=2 then eF s k (dj f m) else if (dj f m).kind=3 then dH s k (dj f m) else if (dj f m).kind=4 then ((bR s (dj f m)).1,(bR s (dj f m)).2,k)
   else if (dj f m).kind=5 then (if (dj f m).N.length=3 then ([],{ s with heard:=s.heard.set (dj f m).frm.toNat ((s.clock:Int),(dj f m).N.getD 1 0,(dj f m).N.getD 2 0)},k) else ([],s,k)) else ([],s,k)) (X.getIn z e c m):=by
 unfold X.getIn at hbad ⊢;refine uL rfl (λ_=>xe h (by omega) m) λq1=>?_;rw [aw q1] at hbad;refine uL rfl (λ_=>vf hz he h (by omega) m) λq2=>?_;rw [aw q2] at hbad;refine uL rfl (λq3=>?_) λq3=>?_
 ·grind [zf]
 ·refine uL rfl (λ_=>qn hz h m) λ_=>?_;refine uL rfl (λ_=>?_) λ_=>ef h;refine uL rfl (λ_=>?_) λ_=>ef h;refine ef ⟨h.u.mk2 h.u.own h.u.n h.u.term h.u.choice h.u.log h.u.agreed h.u.many h.u.leads h.u.votes h.u.next h.u.mat h.u.ticks h.u.clock ?_ rfl rfl rfl rfl,h.syn⟩;show s.heard.set _ _=_;rw [h.u.heard,h.u.clock];rfl
theorem uN (hz:∀x,z x=(f x).isEmpty) (he:f e=[]) (hf:∀x,(f x).length<=300) (h:Rel f s k c) (hc:c.cnt<=2990) (m:X.Ms ρ) (hb:m.B.length<=20) (hbad:(X.get z e c m).2.bad=false):RelP f (fw s k (dj f m)) (X.get z e c m):=by
 have hbm:l3 s (dj f m)=X.oE c m:=by
  unfold l3 X.oE;rw [h.u.own,h.u.n];rfl
 unfold fw;unfold X.get at hbad ⊢;simp only;rw [h.u.done_same.2,hbm];by_cases q1:X.oE c m=true
 ·grind [ef]
 ·rw [aw q1] at hbad ⊢;rw [aw (by rw [h.u.done];simpa using q1)];by_cases q2:c.term<m.N.getD 0 0
  ·rw [aA q2] at hbad ⊢;rw [aA (show s.term<(dj f m).N.getD 0 0 by rw [h.u.term];exact q2)];obtain ⟨s1,k1,e1,h1⟩:=lW h.u (m.N.getD 0 0) (-1) (by omega);have e2:be s k ((dj f m).N.getD 0 0) (-1)=(true,s1,k1):=e1;rw [e2];exact po hz he hf h1 (by show c.cnt+1<=3000;omega) m hb hbad
  ·rw [aw q2] at hbad ⊢;rw [aw (show ¬s.term<(dj f m).N.getD 0 0 by rw [h.u.term];exact q2)];exact po hz he hf h (by omega) m hb hbad
theorem Br (l:List (List UInt8)):zx l (F.aL l).length=l.length:=by
 induction l with
 | nil=>rfl
 | cons a l ih =>
  unfold zx;rw [F.eh,ay,F.cX,aA (by omega),aY];rw [show 12+a.length+(F.aL l).length - (12+a.length)=(F.aL l).length from by omega,ih]
theorem lj (h:qw k) (keep:Int):cS k keep={ k with off:=true }:=by
 unfold cS n6;cases hk:k.file with
 | none=>rfl
 | some p =>
  obtain ⟨l,q⟩:=p;have:=h l q hk;subst this;have e:stays l l.length keep=l.length:=by unfold stays;omega
  simp only;rw [e,cK]
theorem sy (h:Rel f s k c) (hu:UpI s k) (keep:Int):Rel f (eB s.own s.n s (cS k keep)) (ep s (cS k keep)) (X.back c):=by
 have hd:=hu.crash keep;rw [lj h.syn] at hd ⊢;have hfil:eP { k with off:=true }=F.aL s.wl.recs:=hu.wf.fil;have hR:dS s { k with off:=true }=s.wl.recs:=by
  unfold dS;rw [hfil,Br,cK]
 obtain ⟨ns,g1,g2,g3⟩:=hu.nok.ex;obtain ⟨m1,m2,m3⟩:=g3 h.u.done;obtain ⟨ht,hr,htot,ns',hb,hnd,hk',hns⟩:=qk hd;rw [hR] at hnd hb;have hlike:=js (dg s.own s.n (k.lives+1) s.wl.recs) (ix s.n) rfl rfl rfl rfl ns;have hN:(s.wl.recs).map kT=ns:=by
  rw [g1];refine kN (ix s.n) ns g2 ?_ (aX _) (by show (0:Int)<=_;decide) hu.wf.n5;have e1:ns.length=ns'.length:=by
   grind
  show 0+_<=_;omega
 have hS:eB s.own s.n s { k with off:=true }=cA (dg s.own s.n (k.lives+1) s.wl.recs) ns:=by
  unfold eB;rw [hR,hN]
 obtain ⟨t,ch,g,er⟩:=fC (dg s.own s.n (k.lives+1) s.wl.recs) ns;rw [er] at hlike hS;have ht':t=c.term:=(hlike.1.trans m1).trans h.u.term;have hc':ch=c.choice:=(hlike.2.1.trans m2).trans h.u.choice;have hg':g=c.log.map (pe f):=(hlike.2.2.1.trans m3).trans h.u.log;have hK:ep s { k with off:=true }={ k with off:=false,lives:=k.lives+1 }:=by
  unfold ep eJ CX;rw [hR];cases hf:k.file with
  | none=>simp [hf]
  | some p =>
   obtain ⟨l,q⟩:=p;have e1:l=F.aL s.wl.recs:=by
    grind [eP]
   have e2:=h.syn l q hf;simp only [hf];rw [e2,e1,DM]
 rw [hS,hK];have ho:=h.u.own;have hn:=h.u.n;refine ⟨⟨ho,hn,ht',hc',hg',rfl,rfl,rfl,?_,?_,?_,rfl,rfl,?_,rfl,rfl,rfl,rfl,rfl,h.u.room,h.u.tot⟩,h.syn⟩
 ·show List.replicate s.n false=List.replicate c.n false;rw [hn]
 ·show List.replicate s.n 0=List.replicate c.n 0;rw [hn]
 ·show List.replicate s.n 0=List.replicate c.n 0;rw [hn]
 ·show List.replicate s.n (0,0,0)=List.replicate c.n (0,0,0);rw [hn]
end
end Go.Proofs.YtnhefallmioefaaGreat
namespace Go.Proofs.YtnhefallmioefaaGreat.X
set_option maxRecDepth 20000
section
variable {ρ:Type} (z:ρ->Bool) (e:ρ)
def fK (q:List (Ms ρ)) (m:Ms ρ):List (Ms ρ):=if q.length<2000 then q++[m] else q
end
end Go.Proofs.YtnhefallmioefaaGreat.X
namespace Go.Proofs.YtnhefallmioefaaGreat
set_option maxRecDepth 20000
namespace X
section
variable {ρ:Type} {z:ρ->Bool} {e:ρ}
end
end X
section
variable {ρ:Type} {f:ρ->List UInt8} {z:ρ->Bool} {e:ρ} {n cl lv:Nat} {S:Mn}
theorem Ao (q:List (X.Ms ρ)) (m:X.Ms ρ):fK (q.map (dj f)) (dj f m)=(X.fK q m).map (dj f):=by
 unfold fK X.fK;rw [aP];split
 ·rw [bS];rfl
 ·rfl
section
variable (hz:∀x,z x=(f x).isEmpty) (he:f e=[]) (hf:∀x,(f x).length<=300)
end
end
section
variable {ρ:Type} {f:ρ->List UInt8} {z:ρ->Bool} {e:ρ} {n cl lv:Nat} {S:Mn}
section
variable (hz:∀x,z x=(f x).isEmpty) (he:f e=[]) (hf:∀x,(f x).length<=300)
end
section
end
end
namespace X
section
variable {ρ:Type} {z:ρ->Bool} {e:ρ} {n F:Nat} {T T':Cs ρ} {m:Ms ρ}
end
end X
structure CRel {ρ:Type} (f:ρ->List UInt8) (n:Nat) (S:Mn) (T:X.Cs ρ):Prop where
 q:S.q=T.q.map (dj f)
 bad:S.bad=false
 len:S.nodes.length=n
 up:∀i,i<n->(S.at i).up=T.up i
 nd:∀i,i<n->T.up i=true->Rel f (S.at i).s (S.at i).k (T.nd i)
 dn:∀i,i<n->T.up i=false->∃k keep,(S.at i).k=cS k keep/\Rel f (S.at i).s k (T.nd i)/\UpI (S.at i).s k
section
variable {ρ:Type} {f:ρ->List UInt8} {z:ρ->Bool} {e:ρ} {n cl lv:Nat} {S:Mn} {T:X.Cs ρ} {b:Int}
theorem sG (ms:List (X.Ms ρ)):∀q:List (X.Ms ρ),q.length+ms.length<=2000->(ms.map (dj f)).foldl fK (q.map (dj f))=(q++ms).map (dj f):=by
 induction ms with
 | nil=>intro q _;simp
 | cons a l ih =>
  intro q h;rw [aY] at h;rw [dE,jJ,Ao];have:X.fK q a=q++[a]:=by unfold X.fK;rw [aA (by omega)]
  rw [this,ih _ (by rw [ay];simp;omega)];simp
theorem CRel.turn (h:CRel f n S T) (i:Nat) (hi:i<n) (hu:T.up i=true) {p:List Msg×Rp×Dk} {q:List (X.Ms ρ)×X.Nd ρ} (hp:RelP f p q) (hl:(T.call i q).q.length<=2000):CRel f n ((S.set i ⟨p.2.1,p.2.2,true⟩).send p.1) (T.call i q):=by
 have hat:=λj=>Mn.at_set S i j ⟨p.2.1,p.2.2,true⟩ (by rw [h.len];exact hi);refine ⟨?_,h.bad,by simp [Mn.send,Mn.set,h.len],λj hj=>?_,λj hj hju=>?_,λj hj hju=>?_⟩
 ·show p.1.foldl fK S.q=(T.q++q.1).map (dj f);rw [X.np,ay] at hl;rw [hp.ms,h.q,sG q.1 T.q hl]
 ·show ((S.set i ⟨p.2.1,p.2.2,true⟩).at j).up=T.up j;rw [hat];split
  ·rename_i e1;subst e1;exact hu.symm
  ·exact h.up j hj
 ·show Rel f ((S.set i ⟨p.2.1,p.2.2,true⟩).at j).s ((S.set i ⟨p.2.1,p.2.2,true⟩).at j).k ((T.call i q).nd j);rw [hat,X.jS];split
  ·exact hp.rel
  ·exact h.nd j hj hju
 ·show ∃k keep,((S.set i ⟨p.2.1,p.2.2,true⟩).at j).k=cS k keep/\Rel f ((S.set i ⟨p.2.1,p.2.2,true⟩).at j).s k ((T.call i q).nd j)/\UpI ((S.set i ⟨p.2.1,p.2.2,true⟩).at j).s k;rw [hat,X.jS];split
  ·rename_i e1;subst e1;have hju:T.up j=false:=hju;rw [hu] at hju;cases hju
  ·exact h.dn j hj hju
section
variable (hz:∀x,z x=(f x).isEmpty) (he:f e=[]) (hf:∀x,(f x).length<=300)
include hz he
include hf
end
end
end Go.Proofs.YtnhefallmioefaaGreat
namespace Go.Proofs.YtnhefallmioefaaGreat.X
set_option maxRecDepth 20000
section
variable {ρ:Type} {z:ρ->Bool} {e:ρ}
variable {n i a c:Nat} {b M:Int} {T T':Cs ρ} {G:Gh ρ} {m:Ms ρ} {s s':Nd ρ} {r:List (Ms ρ)×Nd ρ} {ms q:List (Ms ρ)}
def Cs.subm (z:ρ->Bool) (T:Cs ρ) (i:Nat) (x:ρ):Cs ρ:=if T.up i then T.call i ((X.submit z (T.nd i) x).1,(X.submit z (T.nd i) x).2.2) else T
def Cs.down (T:Cs ρ) (i:Nat):Cs ρ:=⟨T.nd,λj=>if j=i then false else T.up j,T.q,T.lo⟩
def Cs.rise (T:Cs ρ) (i:Nat):Cs ρ:=if T.up i then T else ⟨λj=>if j=i then X.back (T.nd i) else T.nd j,λj=>if j=i then true else T.up j,T.q,T.lo⟩
theorem Wk.q_sub (h:Wk z n b T) (hq:∀x∈q,x∈T.q):Wk z n b (T.wq q):=by
 obtain ⟨G,h⟩:=h;exact ⟨G,h.gi,h.ni,h.ln,λm hm=>h.mi m (hq m hm),h.up,h.tb,h.lo⟩
theorem Wk.down (h:Wk z n b T) (i:Nat):Wk z n b (T.down i):=by
 obtain ⟨G,h⟩:=h;refine ⟨G,h.gi,h.ni,h.ln,h.mi,λj hj=>?_,h.tb,h.lo⟩;have hj:(if j=i then false else T.up j)=true:=hj;split at hj
 ·cases hj
 ·exact h.up j hj
theorem Wk.rise (h:Wk z n b T) (hi:i<n):Wk z n b (T.rise i):=by
 obtain ⟨G,h⟩:=h;unfold Cs.rise;split
 ·exact ⟨G,h⟩
 ·refine ⟨G,h.gi,λj hj=>?_,λj hj=>?_,h.mi,λj hj=>?_,λj hj=>?_,h.lo⟩
  ·show NI z n G j (if j=i then X.back (T.nd i) else T.nd j);split
   ·rename_i e1;subst e1;exact (h.ni j hj).back
   ·exact h.ni j hj
  ·grind [LN.back,h.ln]
  ·have hj:(if j=i then true else T.up j)=true:=hj;split at hj
   ·rename_i e1;subst e1;exact hi
   ·exact h.up j hj
  ·show (if j=i then X.back (T.nd i) else T.nd j).term<=b;split
   ·exact h.tb i hi
   ·exact h.tb j hj
theorem Wk.tick1 (h:Wk z n b T) (hb:b+1<=1099511627776) (hi:i<n):Wk z n (b+1) (T.tick z e i):=by
 have hk:=h.tk (e:=e) hb i hi;obtain ⟨G,h⟩:=h;unfold Cs.tick;split
 ·have hni:=h.ni i hi;have htb:=h.tb i hi;obtain ⟨G0,h0⟩:=Wk.mono (b':=b+1) ⟨G,h⟩ (by omega);have hni0:=h0.ni i hi;obtain ⟨G',_,h2⟩:=h0.call (i:=i) hi (AJ (e:=e) h0.gi hni0) ((h0.ln i hi).tick (by rw [hni.own,hni.nn];exact hi)) (by rcases hk.1.term with g | g<;>omega) (λx hx=>by
   obtain ⟨o1,o2,o3,⟨d,d1,d2,d3⟩,_⟩:=hk.1.out x hx;have ht0:=hni.t0;rw [hni.nn] at d1;rw [hni.own] at d2 o1;exact ⟨⟨d,i,d1,hi,by omega,d3,o1⟩,o3,by rw [o2];rcases hk.1.term with g | g<;>omega,by rw [o2];rcases hk.1.term with g | g<;>omega⟩)
  exact ⟨G',h2⟩
 ·exact Wk.mono ⟨G,h⟩ (by omega)
structure Sub (z:ρ->Bool) (s:Nd ρ) (r:List (Ms ρ)×Nd ρ):Prop where
 out:∀x∈r.1,∃d:Nat,d<s.n/\d≠s.own/\x=cO r.2 d
 own:r.2.own=s.own
 leads:r.2.leads=s.leads
 l1:r.1≠[]->s.leads=true
 term:r.2.term=s.term
 num:s.own<s.n->r.1.length+1<=s.n
 len:r.2.log.length<=s.log.length+1
theorem mU (x:ρ):Sub z s ((X.submit z s x).1,(X.submit z s x).2.2):=by
 unfold X.submit;split
 ·exact ⟨λx hx=>(by cases hx),rfl,rfl,λh=>absurd rfl h,rfl,λh=>(by show 0+1<=_;omega),cf _⟩
 ·rename_i hl;split
  ·exact ⟨λx hx=>(by cases hx),rfl,rfl,λh=>absurd rfl h,rfl,λh=>(by show 0+1<=_;omega),cf _⟩
  ·obtain ⟨g1,g2,g3,g4,g5,g6,g7,g8,_⟩:=eW (z:=z) (s:=place s s.log.length (s.term,x));have hl:s.leads=true:=by simpa using hl
   refine ⟨λy hy=>?_,g1,g5,λ_=>hl,g6,λh=>?_,?_⟩
   ·obtain ⟨d,d1,d2,rfl⟩:=dp _ _ _ hy;rw [g2] at d1;rw [g1] at d2;exact ⟨d,d1,d2,rfl⟩
   ·have:=gK (X.settle z (place s s.log.length (s.term,x))).2 (cO (X.settle z (place s s.log.length (s.term,x))).2) (by rw [g1,g2];exact h);rw [g2] at this;exact this
   ·grind [place]
theorem Wk.subm (h:Wk z n b T) (hi:i<n) (x:ρ):Wk z n b (T.subm z i x):=by
 obtain ⟨G,h⟩:=h;unfold Cs.subm;split
 ·have hni:=h.ni i hi;have hs:=mU (z:=z) (s:=T.nd i) x;have ht0:=hni.t0;have htb:=h.tb i hi;obtain ⟨G',_,h2⟩:=h.call (i:=i) hi (vu h.gi hni x) ((h.ln i hi).submit (by rw [hni.own,hni.nn];exact hi) x) (by rw [hs.term];exact htb) (λy hy=>by
   obtain ⟨d,d1,d2,rfl⟩:=hs.out y hy;obtain ⟨p1,p2,p3,p4,p5,p6,p7⟩:=pg (X.submit z (T.nd i) x).2.2 d;have ht:(X.submit z (T.nd i) x).2.2.term=(T.nd i).term:=hs.term;have ho:(X.submit z (T.nd i) x).2.2.own=(T.nd i).own:=hs.own;rw [hni.nn] at d1;rw [hni.own] at d2;exact ⟨⟨d,i,d1,hi,Ne.symm d2,p2,by rw [p3,ho,hni.own]⟩,by unfold cO;simp,by rw [p4,ht];exact ht0,by rw [p4,ht];exact htb⟩)
  exact ⟨G',h2⟩
 ·exact ⟨G,h⟩
theorem Wk.comes (h:Wk z n b T) (hb:b<=1099511627776) (hm:m∈T.q) (hq:∀x∈q,x∈T.q):Wk z n b ((T.wq q).bring z e m)/\∃i,i<n/\m.dst=(i:Int)/\Got (T.nd i) m (X.get z e (T.nd i) m)/\(T.up i=true->(T.wq q).bring z e m=(T.wq q).call i (X.get z e (T.nd i) m))/\(T.up i=false->(T.wq q).bring z e m=T.wq q):=by
 obtain ⟨G,hG⟩:=h;have hwm:WkM z [m] n b (T.wq q):=⟨G,⟨hG.gi,hG.ni,hG.ln,λx hx=>hG.mi x (hq x hx),hG.up,hG.tb,hG.lo⟩,λx hx=>by rw [aj.1 hx];exact hG.mi m hm⟩
 obtain ⟨h1,i,h2,h3,h4,h5,h6⟩:=hwm.take (e:=e) hb cz;exact ⟨h1.wk,i,h2,h3,h4,h5,h6⟩
end
section
variable {ρ:Type} {z:ρ->Bool} {e:ρ}
variable {n i a c c':Nat} {b M:Int} {T T':Cs ρ} {G:Gh ρ} {m:Ms ρ} {s s':Nd ρ} {r:List (Ms ρ)×Nd ρ} {ms q:List (Ms ρ)}
structure AI (z:ρ->Bool) (n a c:Nat) (T:Cs ρ):Prop where
 wk:Wk z n a T
 ql:T.q.length<=4*a
 ca:c<=a
 lg:∀i,i<n->(T.nd i).log.length<=c
 ms:∀m∈T.q,m.kind=3->(m.N.getD 1 0).toNat+m.B.length<=c
 b20:∀m∈T.q,m.B.length<=20
 pl:∀i,i<n->pl (T.nd i)<=(((a - c)*min 20 c+c:Nat):Int)
theorem BZ (h:c<=a):(a - c)*min 20 c+c+min 20 c=(a+1 - c)*min 20 c+c:=by
 rw [show a+1 - c=(a - c)+1 by omega,Nat.succ_mul];omega
theorem C6 (h:c<=a):(a - c)*min 20 c+c+1<=(a+1 - (c+1))*min 20 (c+1)+(c+1):=by
 rw [show a+1 - (c+1)=a - c by omega];have:=Nat.mul_le_mul_left (a - c) (show min 20 c<=min 20 (c+1) by omega);omega
theorem C5:∀c,c<91->(90 - c)*min 20 c+c<=1420:=by decide
theorem room (h1:c<=a) (h2:a<=90):(a - c)*min 20 c+c<=1420:=by
 have h3:=C5 c (by omega);have:=CZ (min 20 c) (show a - c<=90 - c by omega);omega
theorem AI.same (h:AI z n a c T) (hw:Wk z n (a+1:Nat) T') (hq:∀x∈T'.q,x∈T.q) (hl:T'.q.length<=T.q.length+1) (hn:∀i,i<n->(T'.nd i).log=(T.nd i).log/\X.pl (T'.nd i)<=X.pl (T.nd i)):AI z n (a+1) c T' :=
 ⟨hw,by have:=h.ql;omega,by have:=h.ca;omega,λi hi=>by rw [(hn i hi).1];exact h.lg i hi,λm hm=>h.ms m (hq m hm),λm hm=>h.b20 m (hq m hm),λi hi=>by
  have h1:=h.pl i hi;have h2:=(hn i hi).2;have h3:=BZ h.ca;omega⟩
theorem AI.call (h:AI z n a c T) (hi:i<n) (hq:∀x∈q,x∈T.q) (hql:q.length<=T.q.length) (hw:Wk z n (a+1:Nat) ((T.wq q).call i r)) (hnum:r.1.length<=4) (hout:∀x∈r.1,x.B.length<=20/\(x.kind=3->r.2.leads=true/\x.N.getD 0 0=r.2.term))
  (hc:(c'=c/\r.2.log.length<=c/\X.pl r.2<=X.pl (T.nd i)+(min 20 c:Nat))\/(c'=c+1/\r.2.log.length<=c+1/\X.pl r.2<=X.pl (T.nd i)+1)):AI z n (a+1) c' ((T.wq q).call i r):=by
 have hcc:c<=c'/\c'<=c+1:=by rcases hc with ⟨g,_⟩ | ⟨g,_⟩<;>omega
 have hlen:r.2.log.length<=c':=by rcases hc with ⟨g,g2,_⟩ | ⟨g,g2,_⟩<;>omega
 have h3:=BZ h.ca;have h4:=C6 h.ca;refine ⟨hw,?_,by have:=h.ca;omega,λj hj=>?_,λm hm hk=>?_,λm hm=>?_,λj hj=>?_⟩
 ·rw [np,ay];have:=h.ql;show q.length+_<=_;omega
 ·rw [jS];split
  ·exact hlen
  ·have:=h.lg j hj;show (T.nd j).log.length<=c';omega
 ·rw [np] at hm;rcases ap.1 hm with hm | hm
  ·have:=h.ms m (hq m hm) hk;omega
  ·obtain ⟨o1,o2⟩:=(hout m hm).2 hk;obtain ⟨G,hG⟩:=hw;have e1:((T.wq q).call i r).nd i=r.2:=by rw [jS,aA rfl]
   have:=Bm hG hi (by rw [e1];exact o1) (x:=m) (by rw [np];exact aO _ hm) hk (by rw [e1];exact o2);rw [e1] at this;omega
 ·rw [np] at hm;rcases ap.1 hm with hm | hm
  ·exact h.b20 m (hq m hm)
  ·exact (hout m hm).1
 ·have hold:=h.pl j hj;rw [jS];rcases hc with ⟨g,_,g2⟩ | ⟨g,_,g2⟩
  ·subst g;split
   ·rename_i e1;subst e1;omega
   ·show X.pl (T.nd j)<=_;omega
  ·subst g;split
   ·rename_i e1;subst e1;omega
   ·show X.pl (T.nd j)<=_;omega
theorem yf (hn:s.own<s.n) (ht:s.term<1099511627776):(X.tick z e s).2.log.length<=s.log.length+(if s.n=1 then 1 else 0):=by
 rcases iP (z:=z) (e:=e) s with ⟨h1,h2⟩ | ⟨h1,h2,h3,h4⟩ | ⟨h1,h2,h3,h4⟩ | ⟨h1,h2,h3,h4⟩
 ·rw [h2];exact eA _ _
 ·rw [h4,kJ hn ht];split
  ·rw [(ie (z:=z) (e:=e) (fB s)).len];exact ah _
  ·exact ah _
 ·rw [h4];exact eA _ _
 ·rw [h4];exact eA _ _
theorem AI.tick (h:AI z n a c T) (hn:n<=5) (ha:a<=1000) (hi:i<n):∃c',AI z n (a+1) c' (T.tick z e i):=by
 have hw:=h.wk.tick1 (e:=e) (by omega) hi;have hw:Wk z n ((a+1:Nat):Int) (T.tick z e i):=by rw [show ((a+1:Nat):Int)=(a:Int)+1 by omega];exact hw
 obtain ⟨tk,ho,hnn⟩:=h.wk.tk (e:=e) (by omega) i hi;obtain ⟨G,hG⟩:=h.wk;have htb:=hG.tb i hi;unfold Cs.tick at hw ⊢;split at hw
 ·rename_i hu;rw [aA hu];have e0:T.wq T.q=T:=rfl;have h1:=yf (z:=z) (e:=e) (s:=T.nd i) (by rw [ho,hnn];exact hi) (by omega);have h2:=AH (z:=z) (e:=e) (s:=T.nd i) (by rw [ho,hnn];exact hi) (by omega);have h3:=(AK (z:=z) (e:=e) (s:=T.nd i) 0 (by rw [ho,hnn];exact hi) (by omega)).2;have h4:=h.lg i hi;have h5:=tk.num;have hout:∀x∈(X.tick z e (T.nd i)).1,x.B.length<=20/\(x.kind=3->(X.tick z e (T.nd i)).2.leads=true/\x.N.getD 0 0=(X.tick z e (T.nd i)).2.term):=λx hx=>by
   obtain ⟨_,o2,_,_,o⟩:=tk.out x hx;refine ⟨h3 x hx,λhk=>?_⟩;rcases o with o | o | o
   ·omega
   ·exact ⟨o.2,o2⟩
   ·omega
  by_cases h6:(T.nd i).n=1
  ·rw [aA h6] at h1 h2;exact ⟨c+1,h.call (q:=T.q) hi (λx hx=>hx) (ah _) hw (by omega) hout (.inr ⟨rfl,by omega,h2⟩)⟩
  ·rw [aw h6] at h1 h2;exact ⟨c,h.call (q:=T.q) hi (λx hx=>hx) (ah _) hw (by omega) hout (.inl ⟨rfl,by omega,by omega⟩)⟩
 ·rename_i hu;rw [aw hu];exact ⟨c,h.same hw (λx hx=>hx) (cf _) λj hj=>⟨rfl,aX _⟩⟩
theorem AI.subm (h:AI z n a c T) (hn:n<=5) (hi:i<n) (x:ρ):AI z n (a+1) (c+1) (T.subm z i x)\/AI z n (a+1) c (T.subm z i x):=by
 have hw:=(h.wk.subm hi x).mono (b':=((a+1:Nat):Int)) (by omega);obtain ⟨G,hG⟩:=h.wk;have hni:=hG.ni i hi;unfold Cs.subm at hw ⊢;split at hw
 ·rename_i hu;rw [aA hu];have hs:=mU (z:=z) (s:=T.nd i) x;have h2:=vt (z:=z) (s:=T.nd i) x;have h4:=h.lg i hi;have h5:=hs.num (by rw [hni.own,hni.nn];exact hi);have hlen:=hs.len;refine .inl (h.call (q:=T.q) hi (λx hx=>hx) (ah _) hw (by rw [hni.nn] at h5;omega) (λy hy=>?_) (.inr ⟨rfl,by omega,h2⟩));obtain ⟨d,d1,d2,rfl⟩:=hs.out y hy;refine ⟨lP _ _,λ_=>⟨?_,rfl⟩⟩;rw [hs.leads];exact hs.l1 (List.ne_nil_of_mem hy)
 ·rename_i hu;rw [aw hu];exact .inr (h.same hw (λx hx=>hx) (cf _) λj hj=>⟨rfl,aX _⟩)
theorem AI.comes (h:AI z n a c T) (hn:n<=5) (ha:a<=1000) (hm:m∈T.q) (hq:∀x∈q,x∈T.q) (hql:q.length<=T.q.length):∃c',AI z n (a+1) c' ((T.wq q).bring z e m):=by
 obtain ⟨hw,i,hi,hd,hg,h1,h2⟩:=h.wk.comes (e:=e) (by omega) hm hq;have hw:=hw.mono (b':=((a+1:Nat):Int)) (by omega);have hf:=(h.wk.fm hm).frm0.1;cases hu:T.up i with
 | false =>
  rw [h2 hu] at hw ⊢;exact ⟨c,h.same hw hq (by show q.length<=_;omega) λj hj=>⟨rfl,aX _⟩⟩
 | true =>
  rw [h1 hu] at hw ⊢;obtain ⟨G,hG⟩:=h.wk;have hni:=hG.ni i hi;have hnum:=hg.num;rw [hni.nn] at hnum;have hp:=(CI (z:=z) (e:=e) (s:=T.nd i) hf).1;have hB:=(CL (z:=z) (e:=e) (s:=T.nd i) (m:=m) 0).2.2;have gl:=(CK (z:=z) (e:=e) (s:=T.nd i) (m:=m)).len;have hlg:=h.lg i hi;have hout:∀x∈(X.get z e (T.nd i) m).1,x.B.length<=20/\(x.kind=3->(X.get z e (T.nd i) m).2.leads=true/\x.N.getD 0 0=(X.get z e (T.nd i) m).2.term):=λx hx=>by
   obtain ⟨_,o2,_,_,o5⟩:=hg.out x hx;exact ⟨hB x hx,λhk=>⟨o5 hk,o2⟩⟩
  have h20:=h.b20 m hm;by_cases h3:m.kind=3
  ·have hms:=h.ms m hm h3;rw [aA h3] at hp gl;refine ⟨c,h.call hi hq hql hw (by rcases hnum with g | g<;>omega) hout (.inl ⟨rfl,?_,by omega⟩)⟩;rcases gl with g | g
   ·omega
   ·omega
  ·rw [aw h3] at hp gl;by_cases hk2:m.kind=2
   ·rw [aA hk2] at hp;refine ⟨c+1,h.call hi hq hql hw (by rcases hnum with g | g<;>omega) hout (.inr ⟨rfl,?_,hp⟩)⟩;rcases gl with g | g<;>omega
   ·rw [aw hk2] at hp;refine ⟨c,h.call hi hq hql hw (by rcases hnum with g | g<;>omega) hout (.inl ⟨rfl,?_,by omega⟩)⟩;rcases gl with g | g<;>omega
theorem AI.down (h:AI z n a c T) (i:Nat):AI z n (a+1) c (T.down i) :=
 h.same ((h.wk.down i).mono (by omega)) (λ_ hx=>hx) (cf _) λ_ _=>⟨rfl,aX _⟩
theorem AI.rise (h:AI z n a c T) (hi:i<n):AI z n (a+1) c (T.rise i):=by
 have hw:=(h.wk.rise hi).mono (b':=((a+1:Nat):Int)) (by omega);refine h.same hw (λx hx=>?_) ?_ λj hj=>?_
 ·grind [Cs.rise]
 ·unfold Cs.rise;split<;>exact cf _
 ·unfold Cs.rise;split
  ·exact ⟨rfl,aX _⟩
  ·show (if j=i then X.back (T.nd i) else T.nd j).log=_/\X.pl (if j=i then X.back (T.nd i) else T.nd j)<=_;split
   ·rename_i e1;subst e1;exact ⟨rfl,Int.le_of_eq BR⟩
   ·exact ⟨rfl,aX _⟩
end
end Go.Proofs.YtnhefallmioefaaGreat.X
namespace Go.Proofs.YtnhefallmioefaaGreat
set_option maxRecDepth 20000
theorem X.AI.twice {ρ:Type} {z:ρ->Bool} {n a c:Nat} {T:X.Cs ρ} (h:X.AI z n a c T) {q:List (X.Ms ρ)} (hq:∀x∈q,x∈T.q) (hl:q.length<=T.q.length+1):X.AI z n (a+1) c (T.wq q) :=
 h.same ((h.wk.q_sub hq).mono (by omega)) hq hl λ_ _=>⟨rfl,aX _⟩
section
variable {ρ:Type} {z:ρ->Bool} {e:ρ} {T:X.Cs ρ}
theorem X.lo_rise (i:Nat):(T.rise i).lo=T.lo:=by unfold X.Cs.rise;split<;>rfl
end
section
variable {ρ:Type} {f:ρ->List UInt8} {z:ρ->Bool} {e:ρ} {n cl lv a c:Nat} {S:Mn} {T:X.Cs ρ} {b:Int}
theorem sk {k:Dk} (h:qw k) (x y:Int):cS (cS k x) y=cS k x:=by
 grind [lj,qw]
theorem CRel.wq (h:CRel f n S T) (q:List (X.Ms ρ)):CRel f n { S with q:=q.map (dj f)} (T.wq q):=⟨rfl,h.bad,h.len,h.up,h.nd,h.dn⟩
theorem CRel.crash (h:CRel f n S T) (hi:BInv n cl lv S) (i:Nat) (hin:i<n) (keep:Int):CRel f n (S.crash i keep) (T.down i):=by
 have hat:=λj=>Mn.at_set S i j ⟨(S.at i).s,cS (S.at i).k keep,false⟩ (by rw [h.len];exact hin);refine ⟨h.q,h.bad,by simp [Mn.crash,Mn.set,h.len],λj hj=>?_,λj hj hju=>?_,λj hj hju=>?_⟩
 ·show ((S.set i _).at j).up=(if j=i then false else T.up j)
  rw [hat];split
  ·rfl
  ·exact h.up j hj
 ·have hju:(if j=i then false else T.up j)=true:=hju;split at hju
  ·cases hju
  ·rename_i e1;show Rel f ((S.set i _).at j).s ((S.set i _).at j).k (T.nd j);rw [hat,aw e1];exact h.nd j hj hju
 ·have hju:(if j=i then false else T.up j)=false:=hju;show ∃k kp,((S.set i _).at j).k=cS k kp/\Rel f ((S.set i _).at j).s k (T.nd j)/\UpI ((S.set i _).at j).s k;rw [hat];by_cases e1:j=i
  ·subst e1;rw [aA rfl];cases hu:T.up j with
   | true=>exact ⟨(S.at j).k,keep,rfl,h.nd j hj hu,(hi.up j hj ((h.up j hj).trans hu)).1⟩
   | false =>
    obtain ⟨k,kp,k1,k2,k3⟩:=h.dn j hj hu;exact ⟨k,kp,by show cS (S.at j).k keep=_;rw [k1,sk k2.syn],k2,k3⟩
  ·grind [h.dn]
theorem CRel.back (h:CRel f n S T) (hi:BInv n cl lv S) (i:Nat) (hin:i<n):CRel f n (S.back n i) (T.rise i):=by
 unfold Mn.back X.Cs.rise;rw [h.up i hin];cases hu:T.up i with
 | true=>exact h
 | false =>
  obtain ⟨k,kp,k1,k2,k3⟩:=h.dn i hin hu;have hb:=sy k2 k3 kp;rw [<-k1,(hi.sv.id i hin).1,(hi.sv.id i hin).2] at hb;have hat:=λj=>Mn.at_set S i j ⟨eB i n (S.at i).s (S.at i).k,ep (S.at i).s (S.at i).k,true⟩ (by rw [h.len];exact hin);show CRel f n (S.set i ⟨eB i n (S.at i).s (S.at i).k,ep (S.at i).s (S.at i).k,true⟩) ⟨λj=>if j=i then X.back (T.nd i) else T.nd j,λj=>if j=i then true else T.up j,T.q,T.lo⟩;refine ⟨h.q,h.bad,by simp [Mn.set,h.len],λj hj=>?_,λj hj hju=>?_,λj hj hju=>?_⟩
  ·grind [h.up]
  ·grind [h.nd]
  ·grind [h.dn]
section
variable (hz:∀x,z x=(f x).isEmpty) (he:f e=[]) (hf:∀x,(f x).length<=300)
include hz
omit hz in
theorem CRel.none (h:CRel f n S T) (i:Nat) (hin:i<n):CRel f n (S.submit i []) T:=by
 unfold Mn.submit;rw [h.up i hin];cases hu:T.up i with
 | false=>exact h
 | true =>
  show CRel f n (S.set i ⟨(S.at i).s,(S.at i).k,true⟩) T;have hat:=λj=>Mn.at_set S i j ⟨(S.at i).s,(S.at i).k,true⟩ (by rw [h.len];exact hin);have hs:∀j,(S.set i ⟨(S.at i).s,(S.at i).k,true⟩).at j=S.at j:=λj=>by
   rw [hat];split
   ·rename_i e1;subst e1;have:=(h.up j hin).trans hu;generalize S.at j=N at *;obtain ⟨n1,n2,n3⟩:=N;have this:n3=true:=this;rw [this]
   ·rfl
  exact ⟨h.q,h.bad,by simp [Mn.set,h.len],λj hj=>by rw [hs];exact h.up j hj,λj hj hu=>by rw [hs];exact h.nd j hj hu,λj hj hu=>by rw [hs];exact h.dn j hj hu⟩
include he hf
end
end
def X.Cs.wlo {ρ:Type} (T:X.Cs ρ) (lo:X.Lg ρ):X.Cs ρ:=⟨T.nd,T.up,T.q,lo⟩
section
variable {ρ:Type} {f:ρ->List UInt8} {z:ρ->Bool} {e:ρ} {n cl lv a c:Nat} {S:Mn} {T:X.Cs ρ} {b:Int} {G:X.Gh ρ}
def X.tells (s:X.Nd ρ):X.Lg ρ:=s.log.take s.agreed
def X.lookF (z:ρ->Bool) (T:X.Cs ρ):Nat->Nat->X.Lg ρ->X.Lg ρ
 | 0,_,lg=>lg
 | m+1,i,lg=>X.lookF z T m (i+1) (if T.up i then (if (X.recs z lg).length<(X.recs z (X.tells (T.nd i))).length then X.tells (T.nd i) else lg) else lg)
theorem X.recs_pre {l l':X.Lg ρ} (h:l <+: l'):X.recs z l <+: X.recs z l':=by
 obtain ⟨t,rfl⟩:=h;unfold X.recs;rw [cT,bS];exact List.prefix_append _ _
theorem X.agd_tells {i:Nat} {s:X.Nd ρ} (h:X.NI z n G i s):∃t,X.Agd n G t (X.tells s) (X.tells s).length:=by
 have hl:(X.tells s).length=s.agreed:=by unfold X.tells;rw [aI];have:=h.ag.1;omega
 exact ⟨s.term,by rw [hl];exact h.ag.log (by rw [hl];exact ah _) (by unfold X.tells;rw [cB,DM])⟩
theorem X.agd_two {l l':X.Lg ρ} (hg:X.GI n G) (h1:∃t,X.Agd n G t l l.length) (h2:∃t,X.Agd n G t l' l'.length):l <+: l'\/l' <+: l:=by
 obtain ⟨t,h1⟩:=h1;obtain ⟨t',h2⟩:=h2;by_cases h:l.length<=l'.length
 ·have:=hg.cmp h1 h2 h;rw [cK] at this;exact .inl (by rw [this];exact mx _ _)
 ·have:=hg.cmp h2 h1 (by omega);rw [cK] at this;exact .inr (by rw [this];exact mx _ _)
theorem qT (hz:∀x,z x=(f x).isEmpty) (l:X.Lg ρ):recs (l.map (pe f))=(X.recs z l).map f:=ng hz l
end
namespace X
section
variable {ρ:Type} {z:ρ->Bool} {e:ρ} {n l Λ:Nat} {T:Cs ρ} {b M:Int} {G:Gh ρ}
end
end X
namespace X
section
variable {ρ:Type} {z:ρ->Bool} {e:ρ} {n:Nat}
def Gh.none_:Gh ρ:={ led:=λ_=>none,C:=λ_=>[],L:=λ_=>[],ack:=λ_ _ _=>False,V:=λ_ _=>none }
theorem BB:GI n (Gh.none_:Gh ρ) :=
 ⟨λt i h=>(by cases h),λt i h=>(by cases h),λt i h=>(by cases h),λt h=>absurd rfl h,λ_=>.inr rfl,λ_ _=>rfl,λ_=>OkL.nil,λ_ _ _ _ _ h=>(by cases h),λ_ _ _ _ _ h=>(by cases h),λ_ _ _ _ _ _ h=>(by cases h),λ_ _ _ h=>h.elim,λ_ _ _ _ h=>h.elim,λ_ _ _ _ _ _ h=>h.elim⟩
theorem Cr {i:Nat} (hi:i<n):NI z n (Gh.none_:Gh ρ) i (X.new i n) :=
 ⟨hi,rfl,rfl,gX,gX,aX _,OkL.nil,aX _,λ_ _=>rfl,.inl ⟨rfl,rfl⟩,λ_ h=>(by cases h),λh=>(by cases h),λ_ _ h=>(by cases h),λh=>(by exfalso;have h:(-1:Int)=(i:Int):=h;omega),λh=>(by cases h),λh=>(by cases h),⟨aH _,.inl rfl⟩,λ_ _ h=>h.elim,rfl,rfl⟩
def Cs.new0 (n:Nat):Cs ρ:=⟨λi=>X.new i n,λi=>decide (i<n),[],[]⟩
theorem Cd:Wk z n 0 (Cs.new0 n:Cs ρ) :=
 ⟨Gh.none_,BB,λ_ hi=>Cr hi,λi _=>LN.new i n,λ_ hm=>(by cases hm),λi hi=>(by simpa [Cs.new0] using hi),λ_ _=>aX _,0,aH _,.inl rfl⟩
theorem CT:AI z n 0 0 (Cs.new0 n:Cs ρ) :=
 ⟨Cd,ah _,ah _,λ_ _=>ah _,λ_ hm=>(by cases hm),λ_ hm=>(by cases hm),λ_ _=>aX _⟩
end
end X
abbrev Rec:={ l:List UInt8 // l.length<=300 }
def fu (x:Rec):List UInt8:=x.1
def i5 (x:Rec):Bool:=x.1.isEmpty
def AU:Rec:=⟨[],aH _⟩
theorem qU:∀x,i5 x=(fu x).isEmpty:=λ_=>rfl
theorem yw:∀x,(fu x).length<=300:=λx=>x.2
theorem Ci (l:List UInt8) (h:l≠[]) (hl:l.length<=300):∃x,fu x=l/\i5 x=false:=⟨⟨l,hl⟩,rfl,by
 cases l with
 | nil=>exact absurd rfl h
 | cons a l=>rfl⟩
theorem Bc (n:Nat):CRel fu n (Mn.begun n) (X.Cs.new0 n):=by
 refine ⟨rfl,rfl,by simp [Mn.begun],λi hi=>?_,λi hi _=>?_,λi hi hu=>?_⟩
 ·rw [gD n i hi];show true=decide (i<n);rw [aJ hi]
 ·rw [gD n i hi];exact ⟨⟨rfl,rfl,rfl,rfl,rfl,rfl,rfl,rfl,rfl,rfl,rfl,rfl,rfl,rfl,rfl,rfl,rfl,rfl,rfl,rfl,by show B2.total<=_;rw [show B2.total=0 from rfl];exact aH _⟩,λl q e=>by cases e⟩
 ·have hu:decide (i<n)=false:=hu;rw [aJ hi] at hu;cases hu
structure Lo (n a:Nat) (S:Mn) (T:X.Cs Rec):Prop where
 rel:CRel fu n S T
 long:S.long=(X.recs i5 T.lo).map fu
 ai:∃c,X.AI i5 n a c T
theorem X.AI.wlo {ρ:Type} {z:ρ->Bool} {n a c:Nat} {T:X.Cs ρ} {lo:X.Lg ρ} (h:X.AI z n a c T) (hw:X.Wk z n a (T.wlo lo)):X.AI z n a c (T.wlo lo) :=
 ⟨hw,h.ql,h.ca,h.lg,h.ms,h.b20,h.pl⟩
theorem Lo.start (n:Nat):Lo n 0 (Mn.begun n) (X.Cs.new0 n):=⟨Bc n,rfl,0,X.CT⟩
namespace X
section
variable {ρ:Type} {z:ρ->Bool} {e:ρ} {n F i:Nat} {T:Cs ρ}
end
end X
end Go.Proofs.YtnhefallmioefaaGreat
