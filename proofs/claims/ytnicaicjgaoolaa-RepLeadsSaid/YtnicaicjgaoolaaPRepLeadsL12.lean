/-
  What the proof of the law leans on: contracts of the program's functions, one behind another. No condition.
-/
import Derived.Test.YtnicaicjgaoolaaU0
import Derived.Test.YtnicaicjgaoolaaPRepLeadsL11
set_option linter.unusedVariables false
set_option linter.unusedSimpArgs false
namespace Go.Proofs.Ytnicaicjgaoolaa
set_option maxRecDepth 20000
namespace X
section
variable {ρ:Type} {z:ρ->Bool} {e:ρ} {n F:Nat} {T T':Cs ρ} {m:Ms ρ}
def CMo (T T':Cs ρ):Prop:=∀i,Mo (T.nd i) (T'.nd i)
theorem CMo.refl (T:Cs ρ):CMo T T:=λ_=>Mo.refl _
theorem CMo.trans {A B C:Cs ρ} (h:CMo A B) (g:CMo B C):CMo A C:=λi=>(h i).trans (g i)
theorem sk (i:Nat) (r:List (Ms ρ)×Nd ρ) (h:Mo (T.nd i) r.2):CMo T (T.call i r):=λj=>by
 rw [bi];split
 ·rename_i e1;subst e1;exact h
 ·exact Mo.refl _
theorem nU (i:Nat):CMo T (T.tick z e i):=by
 grind [Cs.tick,sk,Bf,CMo.refl]
theorem wR (k:Nat):CMo T (T.ticks z e k):=by
 induction k with
 | zero=>exact CMo.refl _
 | succ k ih =>
  have e0:T.ticks z e (k+1)=(T.ticks z e k).tick z e k:=by unfold Cs.ticks;rw [cE,cZ];rfl
  rw [e0];exact ih.trans (nU k)
theorem pi (m:Ms ρ):CMo T (T.bring z e m):=by
 grind [Cs.bring,sk,Cu,CMo.refl]
theorem mg (k:Nat):∀T:Cs ρ,CMo T (Cs.drain z e k T):=by
 induction k with
 | zero=>exact λT=>CMo.refl _
 | succ k ih =>
  intro T;cases hq:T.q with
  | nil=>rw [eG _ hq];exact CMo.refl _
  | cons m q =>
   rw [eO k hq];have h1:CMo T (T.wq q):=λ_=>Mo.refl _;exact h1.trans ((pi m).trans (ih _))
theorem BK:CMo T (T.rnd z e n F):=(wR n).trans (mg F _)
theorem Ah (k:Nat):CMo T (T.rnds z e n F k):=by
 induction k with
 | zero=>exact CMo.refl _
 | succ k ih=>exact ih.trans BK
end
end X
structure CRel {ρ:Type} (f:ρ->List UInt8) (n:Nat) (S:Mn) (T:X.Cs ρ):Prop where
 q:S.q=T.q.map (dL f)
 bad:S.bad=false
 len:S.nodes.length=n
 up:∀i,i<n->(S.at i).up=T.up i
 nd:∀i,i<n->T.up i=true->Rel f (S.at i).s (S.at i).k (T.nd i)
 dn:∀i,i<n->T.up i=false->∃k keep,(S.at i).k=dN k keep/\Rel f (S.at i).s k (T.nd i)/\UpI (S.at i).s k
section
variable {ρ:Type} {f:ρ->List UInt8} {z:ρ->Bool} {e:ρ} {n cl lv:Nat} {S:Mn} {T:X.Cs ρ} {b:Int}
theorem sC (ms:List (X.Ms ρ)):∀q:List (X.Ms ρ),q.length+ms.length<=2000->(ms.map (dL f)).foldl gM (q.map (dL f))=(q++ms).map (dL f):=by
 induction ms with
 | nil=>intro q _;simp
 | cons a l ih =>
  intro q h;rw [aX] at h;rw [ii,List.foldl_cons,AD];have:X.gM q a=q++[a]:=by unfold X.gM;rw [ax (by omega)]
  rw [this,ih _ (by rw [ay];simp;omega)];simp
theorem CRel.turn (h:CRel f n S T) (i:Nat) (hi:i<n) (hu:T.up i=true) {p:List Msg×Rp×Dk} {q:List (X.Ms ρ)×X.Nd ρ} (hp:RelP f p q) (hl:(T.call i q).q.length<=2000):CRel f n ((S.set i ⟨p.2.1,p.2.2,true⟩).send p.1) (T.call i q):=by
 have hat:=λj=>Mn.at_set S i j ⟨p.2.1,p.2.2,true⟩ (by rw [h.len];exact hi);refine ⟨?_,h.bad,by simp [Mn.send,Mn.set,h.len],λj hj=>?_,λj hj hju=>?_,λj hj hju=>?_⟩
 ·show p.1.foldl gM S.q=(T.q++q.1).map (dL f);rw [X.dR,ay] at hl;rw [hp.ms,h.q,sC q.1 T.q hl]
 ·show ((S.set i ⟨p.2.1,p.2.2,true⟩).at j).up=T.up j;rw [hat];split
  ·rename_i e1;subst e1;exact hu.symm
  ·exact h.up j hj
 ·show Rel f ((S.set i ⟨p.2.1,p.2.2,true⟩).at j).s ((S.set i ⟨p.2.1,p.2.2,true⟩).at j).k ((T.call i q).nd j);rw [hat,X.bi];split
  ·exact hp.rel
  ·exact h.nd j hj hju
 ·show ∃k keep,((S.set i ⟨p.2.1,p.2.2,true⟩).at j).k=dN k keep/\Rel f ((S.set i ⟨p.2.1,p.2.2,true⟩).at j).s k ((T.call i q).nd j)/\UpI ((S.set i ⟨p.2.1,p.2.2,true⟩).at j).s k;rw [hat,X.bi];split
  ·rename_i e1;subst e1;have hju:T.up j=false:=hju;rw [hu] at hju;cases hju
  ·exact h.dn j hj hju
section
variable (hz:∀x,z x=(f x).isEmpty) (he:f e=[]) (hf:∀x,(f x).length<=300)
include hz he
theorem CRel.tick (h:CRel f n S T) (i:Nat) (hi:i<n) (hc:(T.nd i).cnt<=2990) (hl:(T.tick z e i).q.length<=2000):CRel f n (S.tick i) (T.tick z e i):=by
 unfold Mn.tick;unfold X.Cs.tick at hl ⊢;rw [h.up i hi];cases hu:T.up i with
 | false=>exact h
 | true =>
  rw [hu] at hl;exact h.turn i hi hu (yp hz he (h.nd i hi hu) (by omega)) hl
theorem CRel.ticks (k:Nat):∀{S:Mn} {T:X.Cs ρ},CRel f n S T->(∀i,i<n->((T.ticks z e k).nd i).cnt<=2990)->(T.ticks z e k).q.length<=2000->k<=n->CRel f n (S.ticks k) (T.ticks z e k):=by
 induction k with
 | zero=>exact λh _ _ _=>h
 | succ k ih =>
  intro S T h hc hl hk;have e0:T.ticks z e (k+1)=(T.ticks z e k).tick z e k:=by unfold X.Cs.ticks;rw [cE,cZ];rfl
  have e1:S.ticks (k+1)=(S.ticks k).tick k:=by unfold Mn.ticks;rw [cE,cZ];rfl
  rw [e0] at hc hl ⊢;rw [e1];have hq:(T.ticks z e k).q.length<=((T.ticks z e k).tick z e k).q.length:=by
   unfold X.Cs.tick;split
   ·rw [X.dR,ay];omega
   ·exact ah _
  have h2:=ih h (λi hi=>aF (X.nU (z:=z) (e:=e) k i).cnt (hc i hi)) (by omega) (by omega);exact h2.tick hz he k (by omega) (aF (X.nU (z:=z) (e:=e) k k).cnt (hc k (by omega))) hl
include hf
theorem CRel.bring (h:CRel f n S T) (m:X.Ms ρ) (hd:m.dst.toNat<n) (hc:(T.nd m.dst.toNat).cnt<=2990) (hb:m.B.length<=20) (hbad:((T.bring z e m).nd m.dst.toNat).bad=false) (hl:(T.bring z e m).q.length<=2000):CRel f n (S.bring (dL f m)) (T.bring z e m):=by
 have e1:(dL f m).dst=m.dst:=rfl;unfold Mn.bring;unfold X.Cs.bring at hl hbad ⊢;rw [e1,h.up _ hd];cases hu:T.up m.dst.toNat with
 | false=>exact h
 | true =>
  rw [hu] at hl hbad;refine h.turn m.dst.toNat hd hu (Bx hz he hf (h.nd _ hd hu) hc m hb ?_) hl;have hbad:((T.call m.dst.toNat (X.get z e (T.nd m.dst.toNat) m)).nd m.dst.toNat).bad=false:=hbad;rw [X.bi,ax rfl] at hbad;exact hbad
theorem CRel.drain (hn:n<=5) (hb:b<=1099511627776) (k:Nat):∀{S:Mn} {T:X.Cs ρ},CRel f n S T->BInv n cl lv S->X.Wk z n b T->(∀i,i<n->((X.Cs.drain z e k T).nd i).cnt<=2990)->(∀j,(X.Cs.drain z e j T).q.length<=2000)->CRel f n (S.drain k) (X.Cs.drain z e k T):=by
 induction k with
 | zero=>exact λh _ _ _ _=>h
 | succ k ih =>
  intro S T h hi hw hc hl;obtain ⟨Sn,Sq,Sl,Sb,Sg⟩:=S;have hq:=h.q;simp only at hq;subst hq;cases hTq:T.q with
  | nil =>
   rw [X.eG _ hTq];rw [hTq] at h;exact h
  | cons m q =>
   have hl1:=hl 1;rw [X.eO k hTq] at hc ⊢;rw [X.eO 0 hTq] at hl1;have hl1:((T.wq q).bring z e m).q.length<=2000:=hl1;obtain ⟨hw2,_⟩:=hw.drain1 (e:=e) hb hTq hn;show CRel f n (Mn.drain k (Mn.bring ⟨Sn,q.map (dL f),Sl,Sb,Sg⟩ (dL f m))) _;obtain ⟨fr,hfr,hg⟩:=hi.sv.q (dL f m) (by show dL f m∈T.q.map (dL f);rw [hTq];exact aP);have h0:CRel f n ⟨Sn,q.map (dL f),Sl,Sb,Sg⟩ (T.wq q):=⟨rfl,h.bad,h.len,h.up,h.nd,h.dn⟩
   have hb0:BInv n cl lv ⟨Sn,q.map (dL f),Sl,Sb,Sg⟩:=hi.ofq (q:=q.map (dL f)) (λx hx=>by show x∈T.q.map (dL f);rw [hTq];exact aI _ hx) (by have:=hi.sv.ql;rw [show (⟨Sn,T.q.map (dL f),Sl,Sb,Sg⟩:Mn).q=T.q.map (dL f) from rfl,hTq] at this;simp only [ii,aX] at this;omega);have d0:=hg.d0;have dn:=hg.dn;have e2:(dL f m).dst=m.dst:=rfl;have hd:m.dst.toNat<n:=by
    rw [e2] at d0 dn;omega
   have hmo:=X.mg (z:=z) (e:=e) k ((T.wq q).bring z e m);have h1:=h0.bring hz he hf m hd (by
     have h5:=hc _ hd;have h6:=(hmo m.dst.toNat).cnt;have h7:=(X.pi (z:=z) (e:=e) (T:=T.wq q) m m.dst.toNat).cnt;omega) (by have:=hg.bl;have e1:(dL f m).B.length=m.B.length:=aQ _;omega) (by
     obtain ⟨G,hG⟩:=hw2;exact (hG.ni _ hd).bad) hl1
   refine ih h1 (hb0.bring _ hg.d0 hg.dn) hw2 hc λj=>?_;have:=hl (j+1);rw [X.eO j hTq] at this;exact this
theorem CRel.calm (hn:n<=5) (hb:b+1<=1099511627776) (r:Nat):∀{cl:Nat} {S:Mn} {T:X.Cs ρ},CRel f n S T->BInv n cl lv S->(∀j,j<r->X.Wk z n b (T.rnds z e n 4000 j)/\(∀k,(X.Cs.drain z e k ((T.rnds z e n 4000 j).ticks z e n)).q.length<=2000)/\(T.rnds z e n 4000 (j+1)).q=[])->(∀i,i<n->((T.rnds z e n 4000 r).nd i).cnt<=2990) ->
  (Mn.calm n r S).1=true/\CRel f n (Mn.calm n r S).2 (T.rnds z e n 4000 r):=by
 induction r with
 | zero=>exact λh _ _ _=>⟨rfl,h⟩
 | succ r ih =>
  intro cl S T h hi hg hc;have sh:∀k,(T.rnd z e n 4000).rnds z e n 4000 k=T.rnds z e n 4000 (k+1):=λk=>by
   rw [show k+1=1+k by omega,X.jE];rfl
  obtain ⟨w0,l0,q0⟩:=hg 0 (by omega);have e0:T.rnds z e n 4000 0=T:=rfl;rw [e0] at w0 l0;have hc1:∀i,i<n->((T.rnd z e n 4000).nd i).cnt<=2990:=λi hi2=>by
   have h1:=(X.Ah (z:=z) (e:=e) (n:=n) (F:=4000) (T:=T.rnd z e n 4000) r i).cnt;rw [sh r] at h1;have:=hc i hi2;omega
  have h1:=h.ticks hz he n (λi hi2=>aF (X.mg (z:=z) (e:=e) 4000 (T.ticks z e n) i).cnt (hc1 i hi2)) (l0 0) (ah _);have hb1:=hi.ticks n (ah _);have h2:=h1.drain hz he hf hn hb 4000 hb1 (w0.ticks hb) hc1 l0;have hb2:=hb1.drain 4000;unfold Mn.calm;have hq:((S.ticks n).drain 4000).q.length=0:=by
   rw [h2.q];have q0:(X.Cs.drain z e 4000 (T.ticks z e n)).q=[]:=q0;rw [q0];rfl
  rw [ax hq];have:=ih (T:=T.rnd z e n 4000) h2 hb2 (λj hj=>by
   obtain ⟨g1,g2,g3⟩:=hg (j+1) (by omega);rw [sh j,sh (j+1)];exact ⟨g1,g2,g3⟩) (λi hi2=>by rw [sh r];exact hc i hi2)
  rw [sh r] at this;exact this
end
end
end Go.Proofs.Ytnicaicjgaoolaa
namespace Go.Proofs.Ytnicaicjgaoolaa.X
set_option maxRecDepth 20000
section
variable {ρ:Type} {z:ρ->Bool} {e:ρ}
variable {n i a c:Nat} {b M:Int} {T T':Cs ρ} {G:Gh ρ} {m:Ms ρ} {s s':Nd ρ} {r:List (Ms ρ)×Nd ρ} {ms q:List (Ms ρ)}
def Cs.subm (z:ρ->Bool) (T:Cs ρ) (i:Nat) (x:ρ):Cs ρ:=if T.up i then T.call i ((X.submit z (T.nd i) x).1,(X.submit z (T.nd i) x).2.2) else T
def Cs.down (T:Cs ρ) (i:Nat):Cs ρ:=⟨T.nd,λj=>if j=i then false else T.up j,T.q,T.lo⟩
def Cs.rise (T:Cs ρ) (i:Nat):Cs ρ:=if T.up i then T else ⟨λj=>if j=i then X.back (T.nd i) else T.nd j,λj=>if j=i then true else T.up j,T.q,T.lo⟩
theorem Wk.q_sub (h:Wk z n b T) (hq:∀x∈q,x∈T.q):Wk z n b (T.wq q):=by
 obtain ⟨G,h⟩:=h;exact ⟨G,h.gi,h.ni,h.ln,λm hm=>h.mi m (hq m hm),h.up,h.tb,h.lo⟩
theorem Wk.down (h:Wk z n b T) (i:Nat):Wk z n b (T.down i):=by
 obtain ⟨G,h⟩:=h;refine ⟨G,h.gi,h.ni,h.ln,h.mi,λj hj=>?_,h.tb,h.lo⟩;have hj:(if j=i then false else T.up j)=true:=hj;split at hj
 ·cases hj
 ·exact h.up j hj
theorem Wk.rise (h:Wk z n b T) (hi:i<n):Wk z n b (T.rise i):=by
 obtain ⟨G,h⟩:=h;unfold Cs.rise;split
 ·exact ⟨G,h⟩
 ·refine ⟨G,h.gi,λj hj=>?_,λj hj=>?_,h.mi,λj hj=>?_,λj hj=>?_,h.lo⟩
  ·show NI z n G j (if j=i then X.back (T.nd i) else T.nd j);split
   ·rename_i e1;subst e1;exact (h.ni j hj).back
   ·exact h.ni j hj
  ·grind [LN.back,h.ln]
  ·have hj:(if j=i then true else T.up j)=true:=hj;split at hj
   ·rename_i e1;subst e1;exact hi
   ·exact h.up j hj
  ·show (if j=i then X.back (T.nd i) else T.nd j).term<=b;split
   ·exact h.tb i hi
   ·exact h.tb j hj
theorem Wk.tick1 (h:Wk z n b T) (hb:b+1<=1099511627776) (hi:i<n):Wk z n (b+1) (T.tick z e i):=by
 have hk:=h.tk (e:=e) hb i hi;obtain ⟨G,h⟩:=h;unfold Cs.tick;split
 ·have hni:=h.ni i hi;have htb:=h.tb i hi;obtain ⟨G0,h0⟩:=Wk.mono (b':=b+1) ⟨G,h⟩ (by omega);have hni0:=h0.ni i hi;obtain ⟨G',_,h2⟩:=h0.call (i:=i) hi (um (e:=e) h0.gi hni0) ((h0.ln i hi).tick (by rw [hni.own,hni.nn];exact hi)) (by rcases hk.1.term with g | g<;>omega) (λx hx=>by
   obtain ⟨o1,o2,o3,⟨d,d1,d2,d3⟩,_⟩:=hk.1.out x hx;have ht0:=hni.t0;rw [hni.nn] at d1;rw [hni.own] at d2 o1;exact ⟨⟨d,i,d1,hi,by omega,d3,o1⟩,o3,by rw [o2];rcases hk.1.term with g | g<;>omega,by rw [o2];rcases hk.1.term with g | g<;>omega⟩)
  exact ⟨G',h2⟩
 ·exact Wk.mono ⟨G,h⟩ (by omega)
structure Sub (z:ρ->Bool) (s:Nd ρ) (r:List (Ms ρ)×Nd ρ):Prop where
 out:∀x∈r.1,∃d:Nat,d<s.n/\d≠s.own/\x=bI r.2 d
 own:r.2.own=s.own
 leads:r.2.leads=s.leads
 l1:r.1≠[]->s.leads=true
 term:r.2.term=s.term
 num:s.own<s.n->r.1.length+1<=s.n
 len:r.2.log.length<=s.log.length+1
theorem nf (x:ρ):Sub z s ((X.submit z s x).1,(X.submit z s x).2.2):=by
 unfold X.submit;split
 ·exact ⟨λx hx=>(by cases hx),rfl,rfl,λh=>absurd rfl h,rfl,λh=>(by show 0+1<=_;omega),bO _⟩
 ·rename_i hl;split
  ·exact ⟨λx hx=>(by cases hx),rfl,rfl,λh=>absurd rfl h,rfl,λh=>(by show 0+1<=_;omega),bO _⟩
  ·obtain ⟨g1,g2,g3,g4,g5,g6,g7,g8,_⟩:=dt (z:=z) (s:=place s s.log.length (s.term,x));have hl:s.leads=true:=by simpa using hl
   refine ⟨λy hy=>?_,g1,g5,λ_=>hl,g6,λh=>?_,?_⟩
   ·obtain ⟨d,d1,d2,rfl⟩:=cJ _ _ _ hy;rw [g2] at d1;rw [g1] at d2;exact ⟨d,d1,d2,rfl⟩
   ·have:=fk (X.settle z (place s s.log.length (s.term,x))).2 (bI (X.settle z (place s s.log.length (s.term,x))).2) (by rw [g1,g2];exact h);rw [g2] at this;exact this
   ·grind [place]
theorem Wk.subm (h:Wk z n b T) (hi:i<n) (x:ρ):Wk z n b (T.subm z i x):=by
 obtain ⟨G,h⟩:=h;unfold Cs.subm;split
 ·have hni:=h.ni i hi;have hs:=nf (z:=z) (s:=T.nd i) x;have ht0:=hni.t0;have htb:=h.tb i hi;obtain ⟨G',_,h2⟩:=h.call (i:=i) hi (oJ h.gi hni x) ((h.ln i hi).submit (by rw [hni.own,hni.nn];exact hi) x) (by rw [hs.term];exact htb) (λy hy=>by
   obtain ⟨d,d1,d2,rfl⟩:=hs.out y hy;obtain ⟨p1,p2,p3,p4,p5,p6,p7⟩:=fM (X.submit z (T.nd i) x).2.2 d;have ht:(X.submit z (T.nd i) x).2.2.term=(T.nd i).term:=hs.term;have ho:(X.submit z (T.nd i) x).2.2.own=(T.nd i).own:=hs.own;rw [hni.nn] at d1;rw [hni.own] at d2;exact ⟨⟨d,i,d1,hi,ud d2,p2,by rw [p3,ho,hni.own]⟩,by unfold bI;simp,by rw [p4,ht];exact ht0,by rw [p4,ht];exact htb⟩)
  exact ⟨G',h2⟩
 ·exact ⟨G,h⟩
theorem Wk.comes (h:Wk z n b T) (hb:b<=1099511627776) (hm:m∈T.q) (hq:∀x∈q,x∈T.q):Wk z n b ((T.wq q).bring z e m)/\∃i,i<n/\m.dst=(i:Int)/\Got (T.nd i) m (X.get z e (T.nd i) m)/\(T.up i=true->(T.wq q).bring z e m=(T.wq q).call i (X.get z e (T.nd i) m))/\(T.up i=false->(T.wq q).bring z e m=T.wq q):=by
 obtain ⟨G,hG⟩:=h;have hwm:WkM z [m] n b (T.wq q):=⟨G,⟨hG.gi,hG.ni,hG.ln,λx hx=>hG.mi x (hq x hx),hG.up,hG.tb,hG.lo⟩,λx hx=>by rw [aj.1 hx];exact hG.mi m hm⟩
 obtain ⟨h1,i,h2,h3,h4,h5,h6⟩:=hwm.take (e:=e) hb aP;exact ⟨h1.wk,i,h2,h3,h4,h5,h6⟩
end
section
variable {ρ:Type} {z:ρ->Bool} {e:ρ}
variable {n i a c c':Nat} {b M:Int} {T T':Cs ρ} {G:Gh ρ} {m:Ms ρ} {s s':Nd ρ} {r:List (Ms ρ)×Nd ρ} {ms q:List (Ms ρ)}
structure AI (z:ρ->Bool) (n a c:Nat) (T:Cs ρ):Prop where
 wk:Wk z n a T
 ql:T.q.length<=4*a
 ca:c<=a
 lg:∀i,i<n->(T.nd i).log.length<=c
 ms:∀m∈T.q,m.kind=3->(m.N.getD 1 0).toNat+m.B.length<=c
 b20:∀m∈T.q,m.B.length<=20
 pl:∀i,i<n->pl (T.nd i)<=(((a - c)*min 20 c+c:Nat):Int)
theorem BX (h:c<=a):(a - c)*min 20 c+c+min 20 c=(a+1 - c)*min 20 c+c:=by
 rw [show a+1 - c=(a - c)+1 by omega,AK];omega
theorem CU (h:c<=a):(a - c)*min 20 c+c+1<=(a+1 - (c+1))*min 20 (c+1)+(c+1):=by
 rw [show a+1 - (c+1)=a - c by omega];have:=Nat.mul_le_mul_left (a - c) (show min 20 c<=min 20 (c+1) by omega);omega
theorem CT:∀c,c<91->(90 - c)*min 20 c+c<=1420:=by decide
theorem room (h1:c<=a) (h2:a<=90):(a - c)*min 20 c+c<=1420:=by
 have h3:=CT c (by omega);have:=Nat.mul_le_mul_right (min 20 c) (show a - c<=90 - c by omega);omega
theorem AI.same (h:AI z n a c T) (hw:Wk z n (a+1:Nat) T') (hq:∀x∈T'.q,x∈T.q) (hl:T'.q.length<=T.q.length+1) (hn:∀i,i<n->(T'.nd i).log=(T.nd i).log/\X.pl (T'.nd i)<=X.pl (T.nd i)):AI z n (a+1) c T' :=
 ⟨hw,by have:=h.ql;omega,by have:=h.ca;omega,λi hi=>by rw [(hn i hi).1];exact h.lg i hi,λm hm=>h.ms m (hq m hm),λm hm=>h.b20 m (hq m hm),λi hi=>by
  have h1:=h.pl i hi;have h2:=(hn i hi).2;have h3:=BX h.ca;omega⟩
theorem AI.call (h:AI z n a c T) (hi:i<n) (hq:∀x∈q,x∈T.q) (hql:q.length<=T.q.length) (hw:Wk z n (a+1:Nat) ((T.wq q).call i r)) (hnum:r.1.length<=4) (hout:∀x∈r.1,x.B.length<=20/\(x.kind=3->r.2.leads=true/\x.N.getD 0 0=r.2.term))
  (hc:(c'=c/\r.2.log.length<=c/\X.pl r.2<=X.pl (T.nd i)+(min 20 c:Nat))\/(c'=c+1/\r.2.log.length<=c+1/\X.pl r.2<=X.pl (T.nd i)+1)):AI z n (a+1) c' ((T.wq q).call i r):=by
 have hcc:c<=c'/\c'<=c+1:=by rcases hc with ⟨g,_⟩ | ⟨g,_⟩<;>omega
 have hlen:r.2.log.length<=c':=by rcases hc with ⟨g,g2,_⟩ | ⟨g,g2,_⟩<;>omega
 have h3:=BX h.ca;have h4:=CU h.ca;refine ⟨hw,?_,by have:=h.ca;omega,λj hj=>?_,λm hm hk=>?_,λm hm=>?_,λj hj=>?_⟩
 ·rw [dR,ay];have:=h.ql;show q.length+_<=_;omega
 ·rw [bi];split
  ·exact hlen
  ·have:=h.lg j hj;show (T.nd j).log.length<=c';omega
 ·rw [dR] at hm;rcases av.1 hm with hm | hm
  ·have:=h.ms m (hq m hm) hk;omega
  ·obtain ⟨o1,o2⟩:=(hout m hm).2 hk;obtain ⟨G,hG⟩:=hw;have e1:((T.wq q).call i r).nd i=r.2:=by rw [bi,ax rfl]
   have:=pW hG hi (by rw [e1];exact o1) (x:=m) (by rw [dR];exact aG _ hm) hk (by rw [e1];exact o2);rw [e1] at this;omega
 ·rw [dR] at hm;rcases av.1 hm with hm | hm
  ·exact h.b20 m (hq m hm)
  ·exact (hout m hm).1
 ·have hold:=h.pl j hj;rw [bi];rcases hc with ⟨g,_,g2⟩ | ⟨g,_,g2⟩
  ·subst g;split
   ·rename_i e1;subst e1;omega
   ·show X.pl (T.nd j)<=_;omega
  ·subst g;split
   ·rename_i e1;subst e1;omega
   ·show X.pl (T.nd j)<=_;omega
theorem yq (hn:s.own<s.n) (ht:s.term<1099511627776):(X.tick z e s).2.log.length<=s.log.length+(if s.n=1 then 1 else 0):=by
 rcases dS (z:=z) (e:=e) s with ⟨h1,h2⟩ | ⟨h1,h2,h3,h4⟩ | ⟨h1,h2,h3,h4⟩ | ⟨h1,h2,h3,h4⟩
 ·rw [h2];exact eH _ _
 ·rw [h4,fB hn ht];split
  ·rw [(eC (z:=z) (e:=e) (dq s)).len];exact ah _
  ·exact ah _
 ·rw [h4];exact eH _ _
 ·rw [h4];exact eH _ _
theorem AI.tick (h:AI z n a c T) (hn:n<=5) (ha:a<=1000) (hi:i<n):∃c',AI z n (a+1) c' (T.tick z e i):=by
 have hw:=h.wk.tick1 (e:=e) (by omega) hi;have hw:Wk z n ((a+1:Nat):Int) (T.tick z e i):=by rw [show ((a+1:Nat):Int)=(a:Int)+1 by omega];exact hw
 obtain ⟨tk,ho,hnn⟩:=h.wk.tk (e:=e) (by omega) i hi;obtain ⟨G,hG⟩:=h.wk;have htb:=hG.tb i hi;unfold Cs.tick at hw ⊢;split at hw
 ·rename_i hu;rw [ax hu];have e0:T.wq T.q=T:=rfl;have h1:=yq (z:=z) (e:=e) (s:=T.nd i) (by rw [ho,hnn];exact hi) (by omega);have h2:=ul (z:=z) (e:=e) (s:=T.nd i) (by rw [ho,hnn];exact hi) (by omega);have h3:=(uo (z:=z) (e:=e) (s:=T.nd i) 0 (by rw [ho,hnn];exact hi) (by omega)).2;have h4:=h.lg i hi;have h5:=tk.num;have hout:∀x∈(X.tick z e (T.nd i)).1,x.B.length<=20/\(x.kind=3->(X.tick z e (T.nd i)).2.leads=true/\x.N.getD 0 0=(X.tick z e (T.nd i)).2.term):=λx hx=>by
   obtain ⟨_,o2,_,_,o⟩:=tk.out x hx;refine ⟨h3 x hx,λhk=>?_⟩;rcases o with o | o | o
   ·omega
   ·exact ⟨o.2,o2⟩
   ·omega
  by_cases h6:(T.nd i).n=1
  ·rw [ax h6] at h1 h2;exact ⟨c+1,h.call (q:=T.q) hi (λx hx=>hx) (ah _) hw (by omega) hout (.inr ⟨rfl,by omega,h2⟩)⟩
  ·rw [aw h6] at h1 h2;exact ⟨c,h.call (q:=T.q) hi (λx hx=>hx) (ah _) hw (by omega) hout (.inl ⟨rfl,by omega,by omega⟩)⟩
 ·rename_i hu;rw [aw hu];exact ⟨c,h.same hw (λx hx=>hx) (bO _) λj hj=>⟨rfl,aM _⟩⟩
theorem AI.subm (h:AI z n a c T) (hn:n<=5) (hi:i<n) (x:ρ):AI z n (a+1) (c+1) (T.subm z i x)\/AI z n (a+1) c (T.subm z i x):=by
 have hw:=(h.wk.subm hi x).mono (b':=((a+1:Nat):Int)) (by omega);obtain ⟨G,hG⟩:=h.wk;have hni:=hG.ni i hi;unfold Cs.subm at hw ⊢;split at hw
 ·rename_i hu;rw [ax hu];have hs:=nf (z:=z) (s:=T.nd i) x;have h2:=oI (z:=z) (s:=T.nd i) x;have h4:=h.lg i hi;have h5:=hs.num (by rw [hni.own,hni.nn];exact hi);have hlen:=hs.len;refine .inl (h.call (q:=T.q) hi (λx hx=>hx) (ah _) hw (by rw [hni.nn] at h5;omega) (λy hy=>?_) (.inr ⟨rfl,by omega,h2⟩));obtain ⟨d,d1,d2,rfl⟩:=hs.out y hy;refine ⟨lW _ _,λ_=>⟨?_,rfl⟩⟩;rw [hs.leads];exact hs.l1 (List.ne_nil_of_mem hy)
 ·rename_i hu;rw [aw hu];exact .inr (h.same hw (λx hx=>hx) (bO _) λj hj=>⟨rfl,aM _⟩)
theorem AI.comes (h:AI z n a c T) (hn:n<=5) (ha:a<=1000) (hm:m∈T.q) (hq:∀x∈q,x∈T.q) (hql:q.length<=T.q.length):∃c',AI z n (a+1) c' ((T.wq q).bring z e m):=by
 obtain ⟨hw,i,hi,hd,hg,h1,h2⟩:=h.wk.comes (e:=e) (by omega) hm hq;have hw:=hw.mono (b':=((a+1:Nat):Int)) (by omega);have hf:=(h.wk.fm hm).frm0.1;cases hu:T.up i with
 | false =>
  rw [h2 hu] at hw ⊢;exact ⟨c,h.same hw hq (by show q.length<=_;omega) λj hj=>⟨rfl,aM _⟩⟩
 | true =>
  rw [h1 hu] at hw ⊢;obtain ⟨G,hG⟩:=h.wk;have hni:=hG.ni i hi;have hnum:=hg.num;rw [hni.nn] at hnum;have hp:=(l6 (z:=z) (e:=e) (s:=T.nd i) hf).1;have hB:=(tQ (z:=z) (e:=e) (s:=T.nd i) (m:=m) 0).2.2;have gl:=(ma (z:=z) (e:=e) (s:=T.nd i) (m:=m)).len;have hlg:=h.lg i hi;have hout:∀x∈(X.get z e (T.nd i) m).1,x.B.length<=20/\(x.kind=3->(X.get z e (T.nd i) m).2.leads=true/\x.N.getD 0 0=(X.get z e (T.nd i) m).2.term):=λx hx=>by
   obtain ⟨_,o2,_,_,o5⟩:=hg.out x hx;exact ⟨hB x hx,λhk=>⟨o5 hk,o2⟩⟩
  have h20:=h.b20 m hm;by_cases h3:m.kind=3
  ·have hms:=h.ms m hm h3;rw [ax h3] at hp gl;refine ⟨c,h.call hi hq hql hw (by rcases hnum with g | g<;>omega) hout (.inl ⟨rfl,?_,by omega⟩)⟩;rcases gl with g | g
   ·omega
   ·omega
  ·rw [aw h3] at hp gl;by_cases hk2:m.kind=2
   ·rw [ax hk2] at hp;refine ⟨c+1,h.call hi hq hql hw (by rcases hnum with g | g<;>omega) hout (.inr ⟨rfl,?_,hp⟩)⟩;rcases gl with g | g<;>omega
   ·rw [aw hk2] at hp;refine ⟨c,h.call hi hq hql hw (by rcases hnum with g | g<;>omega) hout (.inl ⟨rfl,?_,by omega⟩)⟩;rcases gl with g | g<;>omega
theorem AI.down (h:AI z n a c T) (i:Nat):AI z n (a+1) c (T.down i) :=
 h.same ((h.wk.down i).mono (by omega)) (λ_ hx=>hx) (bO _) λ_ _=>⟨rfl,aM _⟩
theorem AI.rise (h:AI z n a c T) (hi:i<n):AI z n (a+1) c (T.rise i):=by
 have hw:=(h.wk.rise hi).mono (b':=((a+1:Nat):Int)) (by omega);refine h.same hw (λx hx=>?_) ?_ λj hj=>?_
 ·grind [Cs.rise]
 ·unfold Cs.rise;split<;>exact bO _
 ·unfold Cs.rise;split
  ·exact ⟨rfl,aM _⟩
  ·show (if j=i then X.back (T.nd i) else T.nd j).log=_/\X.pl (if j=i then X.back (T.nd i) else T.nd j)<=_;split
   ·rename_i e1;subst e1;exact ⟨rfl,DK BQ⟩
   ·exact ⟨rfl,aM _⟩
theorem AI.cnt (h:AI z n a c T) (ha:a<=90) (hi:i<n):((T.nd i).cnt:Int)<=1420+2*a+1:=by
 have h1:=h.pl i hi;have h2:=room h.ca ha;have h3:=yT (T.nd i);obtain ⟨G,hG⟩:=h.wk;have:=hG.tb i hi;omega
end
end Go.Proofs.Ytnicaicjgaoolaa.X
namespace Go.Proofs.Ytnicaicjgaoolaa
set_option maxRecDepth 20000
theorem X.AI.twice {ρ:Type} {z:ρ->Bool} {n a c:Nat} {T:X.Cs ρ} (h:X.AI z n a c T) {q:List (X.Ms ρ)} (hq:∀x∈q,x∈T.q) (hl:q.length<=T.q.length+1):X.AI z n (a+1) c (T.wq q) :=
 h.same ((h.wk.q_sub hq).mono (by omega)) hq hl λ_ _=>⟨rfl,aM _⟩
section
variable {ρ:Type} {z:ρ->Bool} {e:ρ} {T:X.Cs ρ}
theorem X.lo_tick (i:Nat):(T.tick z e i).lo=T.lo:=by unfold X.Cs.tick;split<;>rfl
theorem X.lo_bring (m:X.Ms ρ):(T.bring z e m).lo=T.lo:=by unfold X.Cs.bring;split<;>rfl
theorem X.lo_subm (i:Nat) (x:ρ):(T.subm z i x).lo=T.lo:=by unfold X.Cs.subm;split<;>rfl
theorem X.lo_rise (i:Nat):(T.rise i).lo=T.lo:=by unfold X.Cs.rise;split<;>rfl
theorem X.lo_ticks (k:Nat):(T.ticks z e k).lo=T.lo:=by
 induction k with
 | zero=>rfl
 | succ k ih =>
  have e0:T.ticks z e (k+1)=(T.ticks z e k).tick z e k:=by unfold X.Cs.ticks;rw [cE,cZ];rfl
  rw [e0,X.lo_tick,ih]
theorem X.lo_drain (k:Nat):∀T:X.Cs ρ,(X.Cs.drain z e k T).lo=T.lo:=by
 induction k with
 | zero=>exact λ_=>rfl
 | succ k ih =>
  intro T;cases hq:T.q with
  | nil=>rw [X.eG _ hq]
  | cons m q=>rw [X.eO k hq,ih,X.lo_bring];rfl
theorem X.lo_rnds (n F k:Nat):(T.rnds z e n F k).lo=T.lo:=by
 induction k with
 | zero=>rfl
 | succ k ih =>
  show (X.Cs.drain z e F ((T.rnds z e n F k).ticks z e n)).lo=_;rw [X.lo_drain,X.lo_ticks,ih]
end
theorem AE (S:Mn) (n:Nat) (A:Ac):(S.act n A).long=S.long:=by
 unfold Mn.act;split
 ·unfold Mn.tick;split<;>rfl
 ·split
  ·rfl
  ·split
   ·unfold Mn.back;split<;>rfl
   ·split
    ·unfold Mn.submit;split
     ·simp only;split<;>rfl
     ·rfl
    ·split
     ·unfold Mn.fetch;split
      ·rfl
      ·unfold Mn.bring;split<;>rfl
     ·split
      ·rfl
      ·grind [Mn.twice]
section
variable {ρ:Type} {f:ρ->List UInt8} {z:ρ->Bool} {e:ρ} {n cl lv a c:Nat} {S:Mn} {T:X.Cs ρ} {b:Int}
theorem si {k:Dk} (h:qm k) (x y:Int):dN (dN k x) y=dN k x:=by
 grind [lB,qm]
theorem CRel.wq (h:CRel f n S T) (q:List (X.Ms ρ)):CRel f n { S with q:=q.map (dL f)} (T.wq q):=⟨rfl,h.bad,h.len,h.up,h.nd,h.dn⟩
theorem CRel.crash (h:CRel f n S T) (hi:BInv n cl lv S) (i:Nat) (hin:i<n) (keep:Int):CRel f n (S.crash i keep) (T.down i):=by
 have hat:=λj=>Mn.at_set S i j ⟨(S.at i).s,dN (S.at i).k keep,false⟩ (by rw [h.len];exact hin);refine ⟨h.q,h.bad,by simp [Mn.crash,Mn.set,h.len],λj hj=>?_,λj hj hju=>?_,λj hj hju=>?_⟩
 ·show ((S.set i _).at j).up=(if j=i then false else T.up j)
  rw [hat];split
  ·rfl
  ·exact h.up j hj
 ·have hju:(if j=i then false else T.up j)=true:=hju;split at hju
  ·cases hju
  ·rename_i e1;show Rel f ((S.set i _).at j).s ((S.set i _).at j).k (T.nd j);rw [hat,aw e1];exact h.nd j hj hju
 ·have hju:(if j=i then false else T.up j)=false:=hju;show ∃k kp,((S.set i _).at j).k=dN k kp/\Rel f ((S.set i _).at j).s k (T.nd j)/\UpI ((S.set i _).at j).s k;rw [hat];by_cases e1:j=i
  ·subst e1;rw [ax rfl];cases hu:T.up j with
   | true=>exact ⟨(S.at j).k,keep,rfl,h.nd j hj hu,(hi.up j hj ((h.up j hj).trans hu)).1⟩
   | false =>
    obtain ⟨k,kp,k1,k2,k3⟩:=h.dn j hj hu;exact ⟨k,kp,by show dN (S.at j).k keep=_;rw [k1,si k2.syn],k2,k3⟩
  ·grind [h.dn]
theorem CRel.back (h:CRel f n S T) (hi:BInv n cl lv S) (i:Nat) (hin:i<n):CRel f n (S.back n i) (T.rise i):=by
 unfold Mn.back X.Cs.rise;rw [h.up i hin];cases hu:T.up i with
 | true=>exact h
 | false =>
  obtain ⟨k,kp,k1,k2,k3⟩:=h.dn i hin hu;have hb:=Aq k2 k3 kp;rw [<-k1,(hi.sv.id i hin).1,(hi.sv.id i hin).2] at hb;have hat:=λj=>Mn.at_set S i j ⟨fN i n (S.at i).s (S.at i).k,fu (S.at i).s (S.at i).k,true⟩ (by rw [h.len];exact hin);show CRel f n (S.set i ⟨fN i n (S.at i).s (S.at i).k,fu (S.at i).s (S.at i).k,true⟩) ⟨λj=>if j=i then X.back (T.nd i) else T.nd j,λj=>if j=i then true else T.up j,T.q,T.lo⟩;refine ⟨h.q,h.bad,by simp [Mn.set,h.len],λj hj=>?_,λj hj hju=>?_,λj hj hju=>?_⟩
  ·grind [h.up]
  ·grind [h.nd]
  ·grind [h.dn]
section
variable (hz:∀x,z x=(f x).isEmpty) (he:f e=[]) (hf:∀x,(f x).length<=300)
include hz
theorem CRel.submit (h:CRel f n S T) (i:Nat) (hin:i<n) (x:ρ) (hx:(f x).length<=300) (hne:z x=false) (hc:(T.nd i).cnt<=2990) (hl:(T.subm z i x).q.length<=2000):CRel f n (S.submit i (f x)) (T.subm z i x):=by
 unfold Mn.submit;unfold X.Cs.subm at hl ⊢;rw [h.up i hin];cases hu:T.up i with
 | false=>exact h
 | true =>
  rw [hu] at hl;obtain ⟨er,e1,e2,e3⟩:=ng hz (h.nd i hin hu) (by omega) x hx hne;have ht:=h.turn i hin hu (p:=((bJ (S.at i).s (S.at i).k (f x)).1,(bJ (S.at i).s (S.at i).k (f x)).2.2.1,(bJ (S.at i).s (S.at i).k (f x)).2.2.2)) (q:=((X.submit z (T.nd i) x).1,(X.submit z (T.nd i) x).2.2)) ⟨by simp only;rw [e1],e3⟩ hl;simp only [if_true];split
  ·exact ⟨ht.q,ht.bad,ht.len,ht.up,ht.nd,ht.dn⟩
  ·exact ht
omit hz in
theorem CRel.none (h:CRel f n S T) (i:Nat) (hin:i<n):CRel f n (S.submit i []) T:=by
 unfold Mn.submit;rw [h.up i hin];cases hu:T.up i with
 | false=>exact h
 | true =>
  show CRel f n (S.set i ⟨(S.at i).s,(S.at i).k,true⟩) T;have hat:=λj=>Mn.at_set S i j ⟨(S.at i).s,(S.at i).k,true⟩ (by rw [h.len];exact hin);have hs:∀j,(S.set i ⟨(S.at i).s,(S.at i).k,true⟩).at j=S.at j:=λj=>by
   rw [hat];split
   ·rename_i e1;subst e1;have:=(h.up j hin).trans hu;generalize S.at j=N at *;obtain ⟨n1,n2,n3⟩:=N;have this:n3=true:=this;rw [this]
   ·rfl
  exact ⟨h.q,h.bad,by simp [Mn.set,h.len],λj hj=>by rw [hs];exact h.up j hj,λj hj hu=>by rw [hs];exact h.nd j hj hu,λj hj hu=>by rw [hs];exact h.dn j hj hu⟩
include he hf
theorem CRel.act (h:CRel f n S T) (hi:BInv n cl lv S) (ha:X.AI z n a c T) (ha2:a<90) (hn:n<=5) (hr:∀l:List UInt8,l≠[]->l.length<=300->∃x,f x=l/\z x=false) (A:Ac) (hA:A.B.length<=300):∃T' c',CRel f n (S.act n A) T'/\X.AI z n (a+1) c' T'/\T'.lo=T.lo:=by
 have hin:=uW A.N hi.n1;have hc:∀j,j<n->(T.nd j).cnt<=2990:=λj hj=>by have:=ha.cnt (by omega) hj;omega
 have hlen:T.q.length=S.q.length:=by rw [h.q,aQ]
 have hget:∀k:Nat,S.q[k]? = (T.q[k]?).map (dL f):=λk=>by rw [h.q,List.getElem?_map]
 have hlose:∀K:Int,CRel f n (S.lose K) (T.wq (T.q.take (gG K S.q.length)++T.q.drop (gG K S.q.length+1))):=λK=>by
  have:=h.wq (T.q.take (gG K S.q.length)++T.q.drop (gG K S.q.length+1));rw [bW,ju,Dr,<-h.q] at this;exact this
 have hsub:∀K:Int,∀x∈T.q.take (gG K S.q.length)++T.q.drop (gG K S.q.length+1),x∈T.q:=λK x hx=>by
  grind
 have hsl:∀K:Int,(T.q.take (gG K S.q.length)++T.q.drop (gG K S.q.length+1)).length<=T.q.length:=λK=>by
  grind
 unfold Mn.act;split
 ·obtain ⟨c',h1⟩:=ha.tick (e:=e) hn (by omega) hin;exact ⟨_,c',h.tick hz he _ hin (hc _ hin) (by have:=h1.ql;omega),h1,X.lo_tick _⟩
 ·split
  ·exact ⟨_,c,h.crash hi _ hin _,ha.down _,rfl⟩
  ·split
   ·exact ⟨_,c,h.back hi _ hin,ha.rise hin,X.lo_rise _⟩
   ·split
    ·by_cases hB:A.B=[]
     ·rw [hB];exact ⟨T,c,h.none _ hin,ha.twice (q:=T.q) (λx hx=>hx) (bO _),rfl⟩
     ·obtain ⟨x,x1,x2⟩:=hr A.B hB hA;rw [<-x1];rcases ha.subm hn hin x with h1 | h1
      ·grind [X.lo_subm,h.submit,h1.ql]
      ·grind [X.lo_subm,h.submit,h1.ql]
    ·split
     ·unfold Mn.fetch;rw [hget];cases hm:T.q[gG A.K S.q.length]? with
      | none=>exact ⟨T,c,h,ha.twice (q:=T.q) (λx hx=>hx) (bO _),rfl⟩
      | some m =>
       have hmq:m∈T.q:=CS hm;obtain ⟨c',h1⟩:=ha.comes (e:=e) hn (by omega) hmq (hsub A.K) (hsl A.K);obtain ⟨_,j,j1,j2,_⟩:=ha.wk.comes (e:=e) (by omega) hmq (hsub A.K);have hd:m.dst.toNat<n:=by omega
       refine ⟨_,c',(hlose A.K).bring hz he hf m hd (hc _ hd) (ha.b20 m hmq) ?_ (by have:=h1.ql;omega),h1,X.lo_bring (T:=T.wq _) m⟩;obtain ⟨G,hG⟩:=h1.wk;exact (hG.ni _ hd).bad
     ·split
      ·exact ⟨_,c,hlose A.K,ha.twice (hsub A.K) (by have:=hsl A.K;omega),rfl⟩
      ·split
       ·unfold Mn.twice;rw [hget];cases hm:T.q[gG A.K S.q.length]? with
        | none=>exact ⟨T,c,h,ha.twice (q:=T.q) (λx hx=>hx) (bO _),rfl⟩
        | some m =>
         have hmq:m∈T.q:=CS hm;refine ⟨T.wq (T.q++[m]),c,?_,ha.twice (λx hx=>?_) (by simp),rfl⟩
         ·have h1:=h.wq (T.q++[m]);have h2:gM S.q (dL f m)=(T.q++[m]).map (dL f):=by
           grind [gM,ha.ql,h.q]
          rw [<-h2] at h1;exact h1
         ·grind
       ·exact ⟨T,c,h,ha.twice (q:=T.q) (λx hx=>hx) (bO _),rfl⟩
end
end
def X.Cs.wlo {ρ:Type} (T:X.Cs ρ) (lo:X.Lg ρ):X.Cs ρ:=⟨T.nd,T.up,T.q,lo⟩
theorem z6 (l l':List (List UInt8)) (h:l <+: l'):fT l l'=true/\fT l' l=true:=by
 obtain ⟨t,rfl⟩:=h;induction l with
 | nil=>simp [fT]
 | cons a l ih =>
  have e1:fT (a::l) (a::l++t)=((a==a)&&fT l (l++t)):=rfl;have e2:fT (a::l++t) (a::l)=((a==a)&&fT (l++t) l):=rfl;rw [e1,e2,ih.1,ih.2];simp
section
variable {ρ:Type} {f:ρ->List UInt8} {z:ρ->Bool} {e:ρ} {n cl lv a c:Nat} {S:Mn} {T:X.Cs ρ} {b:Int} {G:X.Gh ρ}
def X.tells (s:X.Nd ρ):X.Lg ρ:=s.log.take s.agreed
def X.lookF (z:ρ->Bool) (T:X.Cs ρ):Nat->Nat->X.Lg ρ->X.Lg ρ
 | 0,_,lg=>lg
 | m+1,i,lg=>X.lookF z T m (i+1) (if T.up i then (if (X.recs z lg).length<(X.recs z (X.tells (T.nd i))).length then X.tells (T.nd i) else lg) else lg)
theorem X.recs_pre {l l':X.Lg ρ} (h:l <+: l'):X.recs z l <+: X.recs z l':=by
 obtain ⟨t,rfl⟩:=h;unfold X.recs;rw [cC,bW];exact List.prefix_append _ _
theorem X.agd_tells {i:Nat} {s:X.Nd ρ} (h:X.NI z n G i s):∃t,X.Agd n G t (X.tells s) (X.tells s).length:=by
 have hl:(X.tells s).length=s.agreed:=by unfold X.tells;rw [aE];have:=h.ag.1;omega
 exact ⟨s.term,by rw [hl];exact h.ag.log (by rw [hl];exact ah _) (by unfold X.tells;rw [cL,pv])⟩
theorem X.agd_two {l l':X.Lg ρ} (hg:X.GI n G) (h1:∃t,X.Agd n G t l l.length) (h2:∃t,X.Agd n G t l' l'.length):l <+: l'\/l' <+: l:=by
 obtain ⟨t,h1⟩:=h1;obtain ⟨t',h2⟩:=h2;by_cases h:l.length<=l'.length
 ·have:=hg.cmp h1 h2 h;rw [cM] at this;exact .inl (by rw [this];exact iY _ _)
 ·have:=hg.cmp h2 h1 (by omega);rw [cM] at this;exact .inr (by rw [this];exact iY _ _)
theorem qR (hz:∀x,z x=(f x).isEmpty) (l:X.Lg ρ):recs (l.map (oY f))=(X.recs z l).map f:=qQ hz l
theorem zo (hz:∀x,z x=(f x).isEmpty) (h:CRel f n S T) (hG:X.WkG z n b G T) (m:Nat):∀(i:Nat) (lg:X.Lg ρ),i+m<=n->(∃t,X.Agd n G t lg lg.length)->gB S m i ((X.recs z lg).map f)=(true,(X.recs z (X.lookF z T m i lg)).map f)/\∃t,X.Agd n G t (X.lookF z T m i lg) (X.lookF z T m i lg).length:=by
 induction m with
 | zero=>intro i lg _ hl;exact ⟨rfl,hl⟩
 | succ m ih =>
  intro i lg hi hl;have hin:i<n:=by omega
  unfold gB X.lookF;rw [h.up i hin];cases hu:T.up i with
  | false=>exact ih (i+1) lg (by omega) hl
  | true =>
   have hr:=h.nd i hin hu;have ht:dx (S.at i).s=(X.recs z (X.tells (T.nd i))).map f:=by
    unfold dx X.tells;rw [hr.u.log,hr.u.agreed,<-ju,qR hz]
   have ha:=X.agd_tells (hG.ni i hin);have hfit:fT ((X.recs z (X.tells (T.nd i))).map f) ((X.recs z lg).map f)=true:=by
    grind [X.agd_two,z6,X.recs_pre,hG.gi]
   rw [ht];simp only [if_true,hfit];have hlong:jj ((X.recs z (X.tells (T.nd i))).map f) ((X.recs z lg).map f)=(X.recs z (if (X.recs z lg).length<(X.recs z (X.tells (T.nd i))).length then X.tells (T.nd i) else lg)).map f:=by
    grind [jj,aQ]
   rw [hlong];exact ih (i+1) _ (by omega) (by split<;>assumption)
theorem CRel.look (hz:∀x,z x=(f x).isEmpty) (h:CRel f n S T) (hL:S.long=(X.recs z T.lo).map f) (hw:X.Wk z n b T):∃lo,(S.look n).1=true/\CRel f n (S.look n).2 (T.wlo lo)/\(S.look n).2.long=(X.recs z lo).map f/\X.Wk z n b (T.wlo lo):=by
 obtain ⟨G,hG⟩:=hw;obtain ⟨h1,h2⟩:=zo hz h hG n 0 T.lo (by omega) hG.lo;rw [<-hL] at h1;refine ⟨X.lookF z T n 0 T.lo,?_,?_,?_,G,hG.gi,hG.ni,hG.ln,hG.mi,hG.up,hG.tb,h2⟩
 ·unfold Mn.look;rw [h1,h.bad];rfl
 ·exact ⟨h.q,h.bad,h.len,h.up,h.nd,h.dn⟩
 ·unfold Mn.look;rw [h1]
end
namespace X
section
variable {ρ:Type} {z:ρ->Bool} {e:ρ} {n l Λ:Nat} {T:Cs ρ} {b M:Int} {G:Gh ρ}
theorem C2 (hG:WkG z n b G T) (hl:Lead M T l) (hmaj:Maj n λj=>T.up j):T.lo <+: (T.nd l).log:=by
 obtain ⟨t,h1,h2⟩:=hG.lo;have hln:=hG.up l hl.up;obtain ⟨d1,d2⟩:=(hG.ni l hln).lds hl.leads;rw [hl.term] at d1 d2;rcases h2 with g | ⟨u,k,k1,k2,k3,k4⟩
 ·grind
 ·obtain ⟨p,p1,p2⟩:=k1.q;obtain ⟨j,j1,j2,j3⟩:=p1.meet hmaj;have hu:=((hG.ni j j1).ackF u k (p2 j j1 j2)).1;have hjM:(T.nd j).term=M:=by
   grind [hl.term,hl.oth]
  have h3:=hG.gi.later k1 (t':=M) (by omega) (by rw [d1];simp);rw [cM] at k4;rw [k4,d2];have h4:(G.L u).take T.lo.length=(G.L M).take T.lo.length:=(gt h3 k3).symm;rw [h4];exact iY _ _
theorem zp {B:Nat} (m:Nat):∀(i:Nat) (lg:Lg ρ),(recs z lg).length<=B->(∀j,T.up j=true->(recs z (tells (T.nd j))).length<=B)->(recs z (lookF z T m i lg)).length<=B:=by
 induction m with
 | zero=>exact λ_ _ h _=>h
 | succ m ih =>
  intro i lg h h2;refine ih (i+1) _ ?_ h2;split
  ·grind
  ·exact h
theorem zq (m:Nat):∀(i:Nat) (lg:Lg ρ),(recs z lg).length<=(recs z (lookF z T m i lg)).length/\∀j,i<=j->j<i+m->T.up j=true->(recs z (tells (T.nd j))).length<=(recs z (lookF z T m i lg)).length:=by
 induction m with
 | zero=>exact λi lg=>⟨ah _,λj h1 h2=>by omega⟩
 | succ m ih =>
  intro i lg;unfold lookF;obtain ⟨h1,h2⟩:=ih (i+1) (if T.up i then (if (recs z lg).length<(recs z (tells (T.nd i))).length then tells (T.nd i) else lg) else lg);refine ⟨aF ?_ h1,λj j1 j2 hj=>?_⟩
  ·grind
  ·grind
theorem Sd.told (h:Sd z n b M Λ l T) {j:Nat} (hj:T.up j=true):tells (T.nd j)=(T.nd l).log:=by
 have hl:=h.sb.lead;obtain ⟨G,hG⟩:=h.sb.wk;have hjM:(T.nd j).term<=(T.nd l).term:=by
  grind [hl.oth,hl.term]
 have h1:=(qL hG hl.up hj hl.leads hjM).2;unfold tells;rw [h1,h.ag j hj,cM]
theorem Sd.look_len (h:Sd z n b M Λ l T) (hmaj:Maj n λj=>T.up j):(recs z (lookF z T n 0 T.lo)).length=(recs z (T.nd l).log).length:=by
 have hl:=h.sb.lead;obtain ⟨G,hG⟩:=h.sb.wk;have hln:=hG.up l hl.up;have h1:=zp (z:=z) (T:=T) (B:=(recs z (T.nd l).log).length) n 0 T.lo (recs_pre (C2 hG hl hmaj)).length_le λj hj=>by rw [h.told hj];exact ah _
 have h2:=(zq (z:=z) (T:=T) n 0 T.lo).2 l (aA _) (by omega) hl.up;rw [h.told hl.up] at h2;omega
theorem Lead.one (h:Lead M T l) {j:Nat} (hj:T.up j=true) (hl:(T.nd j).leads=true):j=l:=by
 apply bz;intro hne;rw [(h.oth j hj hne).2.2] at hl;cases hl
end
end X
namespace X
section
variable {ρ:Type} {z:ρ->Bool} {e:ρ} {n:Nat}
def Gh.none_:Gh ρ:={ led:=λ_=>none,C:=λ_=>[],L:=λ_=>[],ack:=λ_ _ _=>False,V:=λ_ _=>none }
theorem Bw:GI n (Gh.none_:Gh ρ) :=
 ⟨λt i h=>(by cases h),λt i h=>(by cases h),λt i h=>(by cases h),λt h=>absurd rfl h,λ_=>.inr rfl,λ_ _=>rfl,λ_=>OkL.nil,λ_ _ _ _ _ h=>(by cases h),λ_ _ _ _ _ h=>(by cases h),λ_ _ _ _ _ _ h=>(by cases h),λ_ _ _ h=>h.elim,λ_ _ _ _ h=>h.elim,λ_ _ _ _ _ _ h=>h.elim⟩
theorem Cr {i:Nat} (hi:i<n):NI z n (Gh.none_:Gh ρ) i (X.new i n) :=
 ⟨hi,rfl,rfl,fF,fF,aM _,OkL.nil,aM _,λ_ _=>rfl,.inl ⟨rfl,rfl⟩,λ_ h=>(by cases h),λh=>(by cases h),λ_ _ h=>(by cases h),λh=>(by exfalso;have h:(-1:Int)=(i:Int):=h;omega),λh=>(by cases h),λh=>(by cases h),⟨aA _,.inl rfl⟩,λ_ _ h=>h.elim,rfl,rfl⟩
def Cs.new0 (n:Nat):Cs ρ:=⟨λi=>X.new i n,λi=>decide (i<n),[],[]⟩
theorem Cd:Wk z n 0 (Cs.new0 n:Cs ρ) :=
 ⟨Gh.none_,Bw,λ_ hi=>Cr hi,λi _=>LN.new i n,λ_ hm=>(by cases hm),λi hi=>(by simpa [Cs.new0] using hi),λ_ _=>aM _,0,aA _,.inl rfl⟩
theorem CL:AI z n 0 0 (Cs.new0 n:Cs ρ) :=
 ⟨Cd,ah _,ah _,λ_ _=>ah _,λ_ hm=>(by cases hm),λ_ hm=>(by cases hm),λ_ _=>aM _⟩
end
end X
abbrev Rec:={ l:List UInt8 // l.length<=300 }
def d9 (x:Rec):List UInt8:=x.1
def eV (x:Rec):Bool:=x.1.isEmpty
def jG:Rec:=⟨[],aA _⟩
theorem mx:∀x,eV x=(d9 x).isEmpty:=λ_=>rfl
theorem pN:∀x,(d9 x).length<=300:=λx=>x.2
theorem yN (l:List UInt8) (h:l≠[]) (hl:l.length<=300):∃x,d9 x=l/\eV x=false:=⟨⟨l,hl⟩,rfl,by
 cases l with
 | nil=>exact absurd rfl h
 | cons a l=>rfl⟩
theorem Bd (n:Nat):CRel d9 n (Mn.begun n) (X.Cs.new0 n):=by
 refine ⟨rfl,rfl,by simp [Mn.begun],λi hi=>?_,λi hi _=>?_,λi hi hu=>?_⟩
 ·rw [lD n i hi];show true=decide (i<n);rw [bV hi]
 ·rw [lD n i hi];exact ⟨⟨rfl,rfl,rfl,rfl,rfl,rfl,rfl,rfl,rfl,rfl,rfl,rfl,rfl,rfl,rfl,rfl,rfl,rfl,rfl,rfl,by show CQ.total<=_;rw [show CQ.total=0 from rfl];exact aA _⟩,λl q e=>by cases e⟩
 ·have hu:decide (i<n)=false:=hu;rw [bV hi] at hu;cases hu
structure Lo (n a:Nat) (S:Mn) (T:X.Cs Rec):Prop where
 rel:CRel d9 n S T
 long:S.long=(X.recs eV T.lo).map d9
 ai:∃c,X.AI eV n a c T
theorem X.AI.wlo {ρ:Type} {z:ρ->Bool} {n a c:Nat} {T:X.Cs ρ} {lo:X.Lg ρ} (h:X.AI z n a c T) (hw:X.Wk z n a (T.wlo lo)):X.AI z n a c (T.wlo lo) :=
 ⟨hw,h.ql,h.ca,h.lg,h.ms,h.b20,h.pl⟩
theorem Lo.step {n a cl lv:Nat} {S:Mn} {T:X.Cs Rec} (h:Lo n a S T) (hi:BInv n cl lv S) (ha:a<90) (hn:n<=5) (A:Ac) (hA:A.B.length<=300):((S.act n A).look n).1=true/\∃T',Lo n (a+1) ((S.act n A).look n).2 T':=by
 obtain ⟨c,hc⟩:=h.ai;obtain ⟨T',c',h1,h2,h3⟩:=h.rel.act (e:=jG) mx rfl pN hi hc ha hn yN A hA;obtain ⟨lo,g1,g2,g3,g4⟩:=h1.look mx (by rw [AE,h.long,h3]) h2.wk;exact ⟨g1,_,g2,g3,c',h2.wlo g4⟩
theorem Lo.start (n:Nat):Lo n 0 (Mn.begun n) (X.Cs.new0 n):=⟨Bd n,rfl,0,X.CL⟩
theorem Lo.ok {n a:Nat} {S:Mn} {T:X.Cs Rec} (h:Lo n a S T) (ha:a<=90) (hup:∃i,i<n/\T.up i=true):CRel d9 n { S with q:=[]} (T.wq [])/\X.Ok eV n 90 90 (T.wq [])/\∀i,i<n->X.pl (T.nd i)<=1420:=by
 obtain ⟨c,hc⟩:=h.ai;refine ⟨h.rel.wq [],⟨(hc.wk.q_sub (λx hx=>by cases hx)).mono (by omega),rfl,hup,λi hi=>?_⟩,λi hi=>?_⟩
 ·obtain ⟨G,hG⟩:=hc.wk;have:=hc.lg i (hG.up i hi);have:=hc.ca;show (T.nd i).log.length<=90;omega
 ·have:=hc.pl i hi;have:=X.room hc.ca ha;omega
end Go.Proofs.Ytnicaicjgaoolaa
