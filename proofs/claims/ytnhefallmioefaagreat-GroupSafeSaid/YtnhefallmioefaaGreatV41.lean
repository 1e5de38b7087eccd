/-
  What the proof of the law leans on: contracts of the program's functions, one behind another. No condition.
-/
import Derived.Test.YtnhefallmioefaaGreatV0
import Derived.Test.YtnhefallmioefaaGreatV40
import Derived.Test.YtnhefallmioefaaGreatV29
import Derived.Test.YtnhefallmioefaaGreatV14
set_option linter.unusedVariables false
set_option linter.unusedSimpArgs false
namespace Go.Proofs.YtnhefallmioefaaGreat
set_option maxRecDepth 20000
namespace X
structure GMo {ρ:Type} (T T':Sg ρ):Prop where
 len:T'.nodes.length=T.nodes.length
 mo:∀i,Mo (T.at i) (T'.at i)
def eN {ρ:Type} (T:Sg ρ):Prop:=∀i,i<T.nodes.length->(T.at i).bad=false/\(T.at i).cnt<=2500
section
variable {ρ:Type} {z:ρ->Bool} {e:ρ} {T T':Sg ρ}
theorem fG {α:Type} (l:List α) (i j:Nat) (x d:α) (h:i<l.length):(l.set i x).getD j d=if j=i then x else l.getD j d:=by
 simp only [aF,hC];by_cases e:j=i
 ·subst e;simp [h]
 ·rw [aw (Ne.symm e),aw e]
theorem GMo.refl (T:Sg ρ):GMo T T:=⟨rfl,λ_=>Mo.refl _⟩
theorem GMo.trans {A B C:Sg ρ} (h:GMo A B) (g:GMo B C):GMo A C:=⟨g.len.trans h.len,λi=>(h.mo i).trans (g.mo i)⟩
theorem GMo.fine (h:GMo T T') (g:eN T'):eN T:=λi hi =>
 have h1:=g i (by rw [h.len];exact hi)
 ⟨(h.mo i).bad h1.1,aD (h.mo i).cnt h1.2⟩
theorem nL (i:Nat) (r:List (Ms ρ)×Nd ρ) (h:Mo (T.at i) r.2):GMo T (T.turn z i r):=by
 refine ⟨by simp [Sg.turn],λj=>?_⟩;show Mo (T.at j) ((T.nodes.set i r.2).getD j (new 0 1));by_cases hi:i<T.nodes.length
 ·rw [fG _ _ _ _ _ hi];split
  ·rename_i e;subst e;exact h
  ·exact Mo.refl _
 ·rw [List.set_eq_of_length_le (by omega)];exact Mo.refl _
theorem nN (i:Nat):GMo T (T.tick z e i):=by
 unfold Sg.tick;split
 ·exact nL i _ Be
 ·exact GMo.refl _
theorem zK {α:Type} (g:Sg ρ->α->Sg ρ) (hg:∀T a,GMo T (g T a)) (l:List α):∀T,GMo T (l.foldl g T):=by
 induction l with
 | nil=>exact λT=>GMo.refl T
 | cons a l ih=>exact λT=>(hg T a).trans (ih _)
theorem wI (n:Nat):GMo T (T.ticks z e n):=zK _ (λ_ i=>nN i) _ T
theorem pm (m:Ms ρ):GMo T (T.bring z e m):=by
 unfold Sg.bring;split
 ·exact nL _ _ (Cu m)
 ·exact GMo.refl _
theorem iK (k:Nat):∀T:Sg ρ,GMo T (T.drain z e k):=by
 induction k with
 | zero=>exact λT=>GMo.refl T
 | succ k ih =>
  intro T;unfold Sg.drain;split
  ·exact GMo.refl T
  ·rename_i m q _;exact GMo.trans (B:=Sg.bring z e { T with q:=q } m) (GMo.trans (B:={ T with q:=q }) ⟨rfl,λ_=>Mo.refl _⟩ (pm m)) (ih _)
theorem fW (n r:Nat):∀T:Sg ρ,GMo T (T.calm z e n r):=by
 induction r with
 | zero=>exact λT=>GMo.refl T
 | succ r ih =>
  intro T;have h1:GMo T ((T.ticks z e n).drain z e 3000):=(wI n).trans (iK _ _);exact h1.trans (ih _)
theorem nP (i:Nat) (x:ρ):GMo T (T.subm z i x):=by
 unfold Sg.subm;split
 ·exact nL i _ (wt x)
 ·exact GMo.refl _
theorem pk (i:Nat):GMo T (T.crash i):=⟨rfl,λ_=>Mo.refl _⟩
theorem rS (i:Nat):GMo T (T.back i):=by
 unfold Sg.back;split
 ·exact GMo.refl _
 ·refine ⟨by simp,λj=>?_⟩;show Mo (T.at j) ((T.nodes.set i (X.back (T.at i))).getD j (new 0 1));by_cases hi:i<T.nodes.length
  ·rw [fG _ _ _ _ _ hi];split
   ·rename_i e;subst e;exact Bg
   ·exact Mo.refl _
  ·rw [List.set_eq_of_length_le (by omega)];exact Mo.refl _
end
end X
structure GRel {ρ:Type} (f:ρ->List UInt8) (S:Mn) (T:X.Sg ρ):Prop where
 q:S.q=T.q.map (dj f)
 long:S.long=T.long.map f
 bad:S.bad=false
 len:T.nodes.length=S.nodes.length
 ul:T.ups.length=S.nodes.length
 up:∀i,i<T.nodes.length->(S.at i).up=T.upAt i
 nd:∀i,i<T.nodes.length->T.upAt i=true->Rel f (S.at i).s (S.at i).k (T.at i)
 dn:∀i,i<T.nodes.length->T.upAt i=false->∃k keep,(S.at i).k=cS k keep/\Rel f (S.at i).s k (T.at i)/\UpI (S.at i).s k
section
variable {ρ:Type} {f:ρ->List UInt8} {z:ρ->Bool} {e:ρ} {n cl lv:Nat} {S:Mn} {T:X.Sg ρ}
theorem Ap (ms:List (X.Ms ρ)):∀q:List (X.Ms ρ),(ms.map (dj f)).foldl fK (q.map (dj f))=(ms.foldl X.Aq q).map (dj f):=by
 induction ms with
 | nil=>exact λq=>rfl
 | cons a l ih =>
  intro q;have h1:fK (q.map (dj f)) (dj f a)=(X.Aq q a).map (dj f):=by
   unfold fK X.Aq;rw [aP];split
   ·rw [bS];rfl
   ·rfl
  rw [dE,jJ,jJ,h1,ih]
theorem mw (hz:∀x,z x=(f x).isEmpty) {s:Rp} {k:Dk} {c:X.Nd ρ} (h:Rel f s k c):cU s=(X.lm z c).map f:=by
 unfold cU X.lm;rw [h.u.log,h.u.agreed,<-gW,ng hz]
theorem yh (hz:∀x,z x=(f x).isEmpty) (hl:T.nodes.length=n) (hul:T.ups.length=n) (hup:∀i,i<n->(S.at i).up=T.upAt i) (hnd:∀i,i<n->T.upAt i=true->Rel f (S.at i).s (S.at i).k (T.at i)) (m:Nat):∀(i:Nat) (lg:List ρ),i+m=n->fq S m i (lg.map f)=(X.uk z (T.nodes.drop i) (T.ups.drop i) lg).map f:=by
 induction m with
 | zero =>
  intro i lg hi;rw [Az (by omega)];rfl
 | succ m ih =>
  intro i lg hi;have h1:i<T.nodes.length:=by omega
  have h2:i<T.ups.length:=by omega
  have e1:T.at i=T.nodes[i]:=by unfold X.Sg.at;simp [aF,h1]
  have e2:T.upAt i=T.ups[i]:=by unfold X.Sg.upAt;simp [aF,h2]
  have hupi:=hup i (by omega);have hndi:=hnd i (by omega);rw [e2] at hupi hndi;rw [e1] at hndi;rw [dK h1,dK h2];unfold fq X.uk;rw [hupi];have e3:(if T.ups[i]=true then (if (lg.map f).length<(S.at i).s.many then cU (S.at i).s else lg.map f) else lg.map f)=(if T.ups[i]=true then (if lg.length<T.nodes[i].many then X.lm z T.nodes[i] else lg) else lg).map f:=by
   split
   ·rename_i hu;have hr:=hndi hu;rw [aP,hr.u.many,mw hz hr];split<;>rfl
   ·rfl
  rw [e3];exact ih (i+1) _ (by omega)
theorem GRel.turn (hz:∀x,z x=(f x).isEmpty) (h:GRel f S T) (hn:S.nodes.length=n) (i:Nat) (hi:i<n) (hu:T.upAt i=true) {p:List Msg×Rp×Dk} {q:List (X.Ms ρ)×X.Nd ρ} (hp:RelP f p q):GRel f (S.turnC n cY i p) (T.turn z i q):=by
 have hat:=λj=>Mn.at_set S i j ⟨p.2.1,p.2.2,true⟩ (by omega);have hlt:T.nodes.length=n:=h.len.trans hn;have hatT:∀j,(T.turn z i q).at j=if j=i then q.2 else T.at j:=λj=>X.fG _ _ _ _ _ (by omega)
 have hupT:∀j,(T.turn z i q).upAt j=T.upAt j:=λj=>rfl;have hup:∀j,j<n->((S.set i ⟨p.2.1,p.2.2,true⟩).at j).up=(T.turn z i q).upAt j:=λj hj=>by
  rw [hat,hupT];split
  ·rename_i e1;subst e1;exact hu.symm
  ·exact h.up j (by omega)
 have hnd:∀j,j<n->(T.turn z i q).upAt j=true->Rel f ((S.set i ⟨p.2.1,p.2.2,true⟩).at j).s ((S.set i ⟨p.2.1,p.2.2,true⟩).at j).k ((T.turn z i q).at j):=λj hj hju=>by
  rw [hat,hatT];split
  ·exact hp.rel
  ·exact h.nd j (by omega) hju
 have hl2:(T.turn z i q).nodes.length=n:=by simp [X.Sg.turn,hlt]
 have hu2:(T.turn z i q).ups.length=n:=h.ul.trans hn;have htell:=yh (S:=(S.set i ⟨p.2.1,p.2.2,true⟩).sendC cY p.1) (T:=T.turn z i q) hz hl2 hu2 hup hnd n 0 T.long (by omega);refine ⟨?_,?_,h.bad,?_,?_,λj hj=>hup j (by omega),λj hj hju=>hnd j (by omega) hju,λj hj hju=>?_⟩
 ·show p.1.foldl (fz cY) S.q=(q.1.foldl X.Aq T.q).map (dj f);have e1:fz cY=fK:=by funext q m;unfold fz cY;simp
  rw [e1,hp.ms,h.q,Ap]
 ·show fq ((S.set i ⟨p.2.1,p.2.2,true⟩).sendC cY p.1) n 0 S.long=_;rw [h.long];exact htell
 ·rw [hl2];simp [Mn.turnC,Mn.tell,Mn.sendC,Mn.set,hn]
 ·rw [hu2];simp [Mn.turnC,Mn.tell,Mn.sendC,Mn.set,hn]
 ·show ∃k keep,((S.set i ⟨p.2.1,p.2.2,true⟩).at j).k=cS k keep/\Rel f ((S.set i ⟨p.2.1,p.2.2,true⟩).at j).s k ((T.turn z i q).at j)/\UpI ((S.set i ⟨p.2.1,p.2.2,true⟩).at j).s k;rw [hat,hatT];rw [hupT] at hju;split
  ·rename_i e1;subst e1;rw [hu] at hju;cases hju
  ·exact h.dn j (by omega) hju
section
variable (hz:∀x,z x=(f x).isEmpty) (he:f e=[]) (hf:∀x,(f x).length<=300)
include hz he
theorem GRel.tick (h:GRel f S T) (hn:S.nodes.length=n) (hF:X.eN T) (i:Nat) (hi:i<n):GRel f (S.tickC n cY i) (T.tick z e i):=by
 have hl:T.nodes.length=n:=h.len.trans hn;unfold Mn.tickC X.Sg.tick;rw [h.up i (by omega)];cases hu:T.upAt i with
 | false=>exact h
 | true=>exact h.turn hz hn i hi hu (qJ hz he (h.nd i (by omega) hu) (by have:=(hF i (by omega)).2;omega))
omit hz he in
theorem vm (S:Mn) (i:Nat):(S.tickC n cY i).nodes.length=S.nodes.length:=by
 unfold Mn.tickC;split
 ·simp [Mn.turnC,Mn.tell,Mn.sendC,Mn.set]
 ·rfl
theorem GRel.ticks (k:Nat):∀{S:Mn} {T:X.Sg ρ},GRel f S T->S.nodes.length=n->X.eN (T.ticks z e k)->k<=n->GRel f (S.ticksC n cY k) (T.ticks z e k)/\(S.ticksC n cY k).nodes.length=n:=by
 induction k with
 | zero=>exact λh hn _ _=>⟨h,hn⟩
 | succ k ih =>
  intro S T h hn hF hk;have e0:T.ticks z e (k+1)=(T.ticks z e k).tick z e k:=by unfold X.Sg.ticks;rw [dT,fN];rfl
  have e1:S.ticksC n cY (k+1)=(S.ticksC n cY k).tickC n cY k:=by unfold Mn.ticksC;rw [dT,fN];rfl
  rw [e0] at hF ⊢;rw [e1];have hF1:=(X.nN (z:=z) (e:=e) k).fine hF;obtain ⟨h2,h3⟩:=ih h hn hF1 (by omega);exact ⟨h2.tick hz he h3 hF1 k (by omega),(vm _ _).trans h3⟩
include hf
theorem GRel.bring (h:GRel f S T) (hn:S.nodes.length=n) (m:X.Ms ρ) (hF:X.eN (T.bring z e m)) (hd:m.dst.toNat<n) (hb:m.B.length<=20):GRel f (S.bringC n cY (dj f m)) (T.bring z e m):=by
 have hl:T.nodes.length=n:=h.len.trans hn;have hF0:=(X.pm m).fine hF;have e1:(dj f m).dst=m.dst:=rfl;unfold Mn.bringC;unfold X.Sg.bring at hF ⊢;rw [e1,h.up _ (by omega)];cases hu:T.upAt m.dst.toNat with
 | false=>exact h
 | true =>
  rw [hu] at hF;refine h.turn hz hn _ hd hu (uN hz he hf (h.nd _ (by omega) hu) (by have:=(hF0 m.dst.toNat (by omega)).2;omega) m hb ?_);have h1:=hF m.dst.toNat (by simp [X.Sg.turn];omega);have h2:(T.turn z m.dst.toNat (X.get z e (T.at m.dst.toNat) m)).at m.dst.toNat=(X.get z e (T.at m.dst.toNat) m).2:=by
   have:=X.fG T.nodes m.dst.toNat m.dst.toNat (X.get z e (T.at m.dst.toNat) m).2 (X.new 0 1) (by omega);rw [aA rfl] at this;exact this
  simp only [if_true] at h1;rw [h2] at h1;exact h1.1
theorem GRel.drain (k:Nat):∀{S:Mn} {T:X.Sg ρ},GRel f S T->BInv n cl lv S->X.eN (T.drain z e k)->GRel f (S.drainC n cY k) (T.drain z e k):=by
 induction k with
 | zero=>exact λh _ _=>h
 | succ k ih =>
  intro S T h hi hF;obtain ⟨Sn,Sq,Sl,Sb,Sg⟩:=S;obtain ⟨Tn,Tu,Tq,Tl⟩:=T;have hq:=h.q;simp only at hq;subst hq;cases Tq with
  | nil=>exact h
  | cons m q =>
   have hF2:X.eN (X.Sg.drain z e k (X.Sg.bring z e ⟨Tn,Tu,q,Tl⟩ m)):=hF;have hF1:=(X.iK k _).fine hF2;obtain ⟨fr,hfr,hg⟩:=hi.sv.q (dj f m) cz;have h0:GRel f ⟨Sn,q.map (dj f),Sl,Sb,Sg⟩ (⟨Tn,Tu,q,Tl⟩:X.Sg ρ):=⟨rfl,h.long,h.bad,h.len,h.ul,h.up,h.nd,h.dn⟩
   have hb0:BInv n cl lv ⟨Sn,q.map (dj f),Sl,Sb,Sg⟩:=hi.ofq (q:=q.map (dj f)) (λx hx=>aU _ hx) (by have:=hi.sv.ql;simp only [dE,aY] at this;omega);have d0:=hg.d0;have dn:=hg.dn;have e1:(dj f m).dst=m.dst:=rfl;rw [e1] at d0 dn;have h1:=GRel.bring hz he hf h0 hb0.sv.nl m hF1 (by omega) (by have:=hg.bl;have e1:(dj f m).B.length=m.B.length:=aP _;omega);exact ih h1 (hb0.bringC cY _ hg.d0 hg.dn) hF2
theorem GRel.calm (r:Nat):∀{cl:Nat} {S:Mn} {T:X.Sg ρ},GRel f S T->BInv n cl lv S->X.eN (T.calm z e n r)->GRel f (Mn.calmC n cY r S) (T.calm z e n r):=by
 induction r with
 | zero=>exact λh _ _=>h
 | succ r ih =>
  intro cl S T h hi hF;have hF1:X.eN ((T.ticks z e n).drain z e 3000):=(X.fW n r _).fine hF;obtain ⟨h1,_⟩:=GRel.ticks hz he n h hi.sv.nl ((X.iK 3000 _).fine hF1) (ah _);have hb1:=hi.ticksC (ct:=cY) n (ah _);exact ih (GRel.drain hz he hf 3000 h1 hb1 hF1) (hb1.drainC 3000) hF
end
theorem GRel.crash (h:GRel f S T) (hi:BInv n cl lv S) (i:Nat) (hin:i<n) (hu:T.upAt i=true) (keep:Int):GRel f (S.crashC i keep) (T.crash i):=by
 have hn:=hi.sv.nl;have hl:T.nodes.length=n:=h.len.trans hn;have hupi:=h.up i (by omega);rw [hu] at hupi;unfold Mn.crashC;rw [aA hupi];have hat:=λj=>Mn.at_set S i j ⟨(S.at i).s,cS (S.at i).k keep,false⟩ (by omega);have hupT:∀j,(T.crash i).upAt j=if j=i then false else T.upAt j:=λj=>X.fG _ _ _ _ _ (by rw [h.ul];omega)
 refine ⟨h.q,h.long,h.bad,by simp [Mn.crash,Mn.set,X.Sg.crash,h.len],by simp [Mn.crash,Mn.set,X.Sg.crash,h.ul],λj hj=>?_,λj hj hju=>?_,λj hj hju=>?_⟩
 ·show ((S.set i _).at j).up=_;rw [hat,hupT];split
  ·rfl
  ·exact h.up j hj
 ·rw [hupT] at hju;split at hju
  ·cases hju
  ·rename_i e1;show Rel f ((S.set i _).at j).s ((S.set i _).at j).k (T.at j);rw [hat,aw e1];exact h.nd j hj hju
 ·rw [hupT] at hju;show ∃k kp,((S.set i _).at j).k=cS k kp/\Rel f ((S.set i _).at j).s k (T.at j)/\UpI ((S.set i _).at j).s k;rw [hat];by_cases e1:j=i
  ·subst e1;rw [aA rfl];exact ⟨(S.at j).k,keep,rfl,h.nd j hj hu,(hi.up j hin hupi).1⟩
  ·rw [aw e1] at hju ⊢;exact h.dn j hj hju
theorem GRel.back (h:GRel f S T) (hi:BInv n cl lv S) (i:Nat) (hin:i<n):GRel f (S.back n i) (T.back i):=by
 have hn:=hi.sv.nl;have hl:T.nodes.length=n:=h.len.trans hn;unfold Mn.back X.Sg.back;rw [h.up i (by omega)];cases hu:T.upAt i with
 | true=>exact h
 | false =>
  obtain ⟨k,kp,k1,k2,k3⟩:=h.dn i (by omega) hu;have hb:=sy k2 k3 kp;rw [<-k1,(hi.sv.id i hin).1,(hi.sv.id i hin).2] at hb;have hat:=λj=>Mn.at_set S i j ⟨eB i n (S.at i).s (S.at i).k,ep (S.at i).s (S.at i).k,true⟩ (by omega);have hupT:∀j,((T.ups.set i true).getD j false)=if j=i then true else T.upAt j:=λj=>X.fG _ _ _ _ _ (by rw [h.ul];omega)
  have hatT:∀j,((T.nodes.set i (X.back (T.at i))).getD j (X.new 0 1))=if j=i then X.back (T.at i) else T.at j:=λj=>X.fG _ _ _ _ _ (by omega)
  show GRel f (S.set i ⟨eB i n (S.at i).s (S.at i).k,ep (S.at i).s (S.at i).k,true⟩) ⟨T.nodes.set i (X.back (T.at i)),T.ups.set i true,T.q,T.long⟩;refine ⟨h.q,h.long,h.bad,by simp [Mn.set,h.len],by simp [Mn.set,h.ul],λj hj=>?_,λj hj hju=>?_,λj hj hju=>?_⟩
  ·have hj:j<T.nodes.length:=by simpa using hj
   show ((S.set i _).at j).up=((T.ups.set i true).getD j false)
   rw [hat,hupT];split
   ·rfl
   ·exact h.up j hj
  ·have hj:j<T.nodes.length:=by simpa using hj
   have hju:((T.ups.set i true).getD j false)=true:=hju;rw [hupT] at hju;show Rel f ((S.set i _).at j).s ((S.set i _).at j).k ((T.nodes.set i (X.back (T.at i))).getD j (X.new 0 1));rw [hat,hatT];split
   ·exact hb
   ·rename_i e1;rw [aw e1] at hju;exact h.nd j hj hju
  ·have hj:j<T.nodes.length:=by simpa using hj
   have hju:((T.ups.set i true).getD j false)=false:=hju;rw [hupT] at hju;split at hju
   ·cases hju
   ·rename_i e1;show ∃k kp,((S.set i _).at j).k=cS k kp/\Rel f ((S.set i _).at j).s k ((T.nodes.set i (X.back (T.at i))).getD j (X.new 0 1))/\UpI ((S.set i _).at j).s k;rw [hat,hatT,aw e1,aw e1];exact h.dn j hj hju
end
namespace X
theorem yb {ρ α:Type} (g:Sg ρ->α->Sg ρ) (hg:∀T a,(g T a).ups=T.ups) (l:List α):∀T,(l.foldl g T).ups=T.ups:=by
 induction l with
 | nil=>exact λT=>rfl
 | cons a l ih=>exact λT=>(ih _).trans (hg T a)
section
variable {ρ:Type} {z:ρ->Bool} {e:ρ}
theorem vi (k:Nat):∀T:Sg ρ,(T.drain z e k).ups=T.ups:=by
 induction k with
 | zero=>exact λT=>rfl
 | succ k ih =>
  intro T;unfold Sg.drain;split
  ·rfl
  ·rename_i m q _;rw [ih];unfold Sg.bring;split<;>rfl
theorem yc (n r:Nat):∀T:Sg ρ,(T.calm z e n r).ups=T.ups:=by
 induction r with
 | zero=>exact λT=>rfl
 | succ r ih =>
  intro T;show (Sg.calm z e n r _).ups=_;rw [ih,vi];exact yb _ (λT i=>by unfold Sg.tick;split<;>rfl) _ _
end
def ss (n j k:Nat) (S:Sg Nat):Sg Nat:=Sg.calm zG 0 n 10 (S.subm zG k (j+1))
def BL (n j k:Nat) (S:Sg Nat):Sg Nat:=Sg.calm zG 0 n 60 ((ss n j k S).crash k)
def Du (n j k:Nat) (S:Sg Nat):Sg Nat:=Sg.calm zG 0 n 60 ((BL n j k S).back k)
structure ChgOk (n j:Nat) (S S6:Sg Nat) (k m:Nat):Prop where
 lead:S.lead=some k
 sub:(X.submit zG (S.at k) (j+1)).2.1=true
 up:(ss n j k S).upAt k=true
 lead2:(BL n j k S).lead=some m
 ne:m≠k
 six:S6=Du n j k S
 fine:eN S6
 told:S6.told (j+1)=true
theorem qh {T:Sg Nat} (h:T.fine=true):eN T:=by
 intro i hi;unfold Sg.fine at h;rw [dI] at h;have h1:=h (T.at i) (by
  unfold Sg.at;rw [aF,bK hi];exact bO hi)
 simpa using h1
theorem BM {n j:Nat} {S:Sg Nat} (h:(z6 n j S).1=true):∃k m,ChgOk n j S (z6 n j S).2 k m:=by
 unfold z6 at h ⊢;cases h1:S.lead with
 | none=>rw [h1] at h;cases h
 | some k =>
  rw [h1] at h;simp only at h ⊢;cases h2:Sg.lead (Sg.calm zG 0 n 60 (Sg.crash (Sg.calm zG 0 n 10 (S.subm zG k (j+1))) k)) with
  | none=>rw [h2] at h;cases h
  | some m =>
   rw [h2] at h;simp only [bA] at h ⊢;obtain ⟨a1,a2,a3,a4,a5⟩:=h;exact ⟨k,m,h1,a1,a2,h2,by simpa using a3,rfl,qh a4,a5⟩
def fY (n j:Nat):Sg Nat:=(oD n j).2
theorem lk (n:Nat):∀J,(oD n J).1=true->eN (fY n 0)/\(fY n 0).told 0=true/\∀j,j<J->∃k m,ChgOk n j (fY n j) (fY n (j+1)) k m:=by
 intro J;induction J with
 | zero =>
  intro h;have e:(oD n 0).1=((fY n 0).fine&&(fY n 0).told 0):=rfl;rw [e,bA] at h;exact ⟨qh h.1,h.2,λj hj=>by omega⟩
 | succ J ih =>
  intro h;have e:(oD n (J+1)).1=((oD n J).1&&(z6 n J (fY n J)).1):=rfl;rw [e,bA] at h;obtain ⟨i1,i2,i3⟩:=ih h.1;refine ⟨i1,i2,λj hj=>?_⟩;by_cases e1:j=J
  ·subst e1;exact BM h.2
  ·exact i3 j (by omega)
theorem sr (n:Nat) (h3:3<=n) (h5:n<=5):(oD n 6).1=true:=by
 have:n=3\/n=4\/n=5:=by omega
 rcases this with rfl | rfl | rfl
 ·exact Dx
 ·exact Dw
 ·exact Dv
end X
section
variable {ρ:Type} {f:ρ->List UInt8} {z:ρ->Bool} {e:ρ} {n cl lv:Nat} {S:Mn} {T:X.Sg ρ}
theorem ww (h:GRel f S T) (hn:S.nodes.length=n) (m:Nat):∀i,i+m=n->fU S m i=X.pf (T.nodes.drop i) (T.ups.drop i) i:=by
 induction m with
 | zero =>
  intro i hi;rw [Az (by rw [h.len];omega)];rfl
 | succ m ih =>
  intro i hi;have h1:i<T.nodes.length:=by rw [h.len];omega
  have h2:i<T.ups.length:=by rw [h.ul];omega
  have e1:T.at i=T.nodes[i]:=by unfold X.Sg.at;simp [aF,h1]
  have e2:T.upAt i=T.ups[i]:=by unfold X.Sg.upAt;simp [aF,h2]
  have hu:=h.up i h1;have hnd:=h.nd i h1;rw [e2] at hu hnd;rw [e1] at hnd;rw [dK h1,dK h2];unfold fU X.pf;rw [hu];cases hui:T.ups[i] with
  | false=>simp only [C0,fo,if_false];exact ih (i+1) (by omega)
  | true =>
   rw [(hnd hui).u.leads];simp only [mC];split
   ·rfl
   ·exact ih (i+1) (by omega)
theorem zc {ns:List (X.Nd ρ)}:∀{us:List Bool} {i k:Nat},X.pf ns us i=some k->i<=k/\k<i+ns.length/\us.getD (k - i) false=true:=by
 induction ns with
 | nil=>intro us i k h;cases us<;>cases h
 | cons s l ih =>
  intro us i k h;cases us with
  | nil=>cases h
  | cons u us =>
   unfold X.pf at h;split at h
   ·rename_i hc;cases h;refine ⟨ah _,by simp,?_⟩;rw [pA];simp only [bA] at hc;exact hc.1
   ·obtain ⟨h1,h2,h3⟩:=ih h;refine ⟨by omega,by rw [aY];omega,?_⟩;rw [show k - i=(k - (i+1))+1 by omega];exact h3
theorem GRel.lead (h:GRel f S T) (hn:S.nodes.length=n):fU S n 0=T.lead:=by
 have:=ww h hn n 0 (by omega);exact this
theorem GRel.lead_up (h:GRel f S T) (hn:S.nodes.length=n) {k:Nat} (hk:T.lead=some k):k<n/\T.upAt k=true:=by
 obtain ⟨h1,h2,h3⟩:=zc hk;exact ⟨by rw [h.len,hn] at h2;omega,h3⟩
theorem GRel.subm (hz:∀x,z x=(f x).isEmpty) (h:GRel f S T) (hn:S.nodes.length=n) (hF:X.eN T) (i:Nat) (hi:i<n) (hu:T.upAt i=true) (x:ρ) (hx:(f x).length<=300) (hne:z x=false):GRel f (S.submC n cY i (f x)) (T.subm z i x)/\((X.submit z (T.at i) x).2.1=true->(bw (S.at i).s (S.at i).k (f x)).2.1=0):=by
 have hl:T.nodes.length=n:=h.len.trans hn;obtain ⟨er,e1,e2,e3⟩:=mV hz (h.nd i (by omega) hu) (by have:=(hF i (by omega)).2;omega) x hx hne;unfold Mn.submC X.Sg.subm;rw [h.up i (by omega),hu];refine ⟨h.turn hz hn i hi hu (p:=((bw (S.at i).s (S.at i).k (f x)).1,(bw (S.at i).s (S.at i).k (f x)).2.2.1,(bw (S.at i).s (S.at i).k (f x)).2.2.2)) (q:=((X.submit z (T.at i) x).1,(X.submit z (T.at i) x).2.2)) ⟨by simp only;rw [e1],e3⟩,λg=>?_⟩;rw [e1];exact e2.2 g
end
structure ChgM (n j cl lv:Nat) (f:Nat->List UInt8) (keep:Int) (S:Mn) (k m:Nat):Prop where
 kn:k<n
 mn:m<n
 lead:fU S n 0=some k
 up:(S.at k).up=true
 ok:(bw (S.at k).s (S.at k).k (f (j+1))).2.1=0
 up2:((Mn.calmC n cY 10 (S.submC n cY k (f (j+1)))).at k).up=true
 lead2:fU (Mn.calmC n cY 60 ((Mn.calmC n cY 10 (S.submC n cY k (f (j+1)))).crashC k keep)) n 0=some m
 ne:m≠k
 dn:((Mn.calmC n cY 60 ((Mn.calmC n cY 10 (S.submC n cY k (f (j+1)))).crashC k keep)).at k).up=false
 rel:GRel f (Mn.calmC n cY 60 ((Mn.calmC n cY 60 ((Mn.calmC n cY 10 (S.submC n cY k (f (j+1)))).crashC k keep)).back n k)) (X.fY n (j+1))
theorem Dd {n cl lv:Nat} (h3:3<=n) (h5:n<=5) (f:Nat->List UInt8) (hz:∀x,X.zG x=(f x).isEmpty) (hf:∀x,(f x).length<=300) (keep:Int) {j:Nat} (hj:j<6) {S:Mn} (h:GRel f S (X.fY n j)) (hb:BInv n cl lv S):∃k m,ChgM n j cl lv f keep S k m:=by
 obtain ⟨_,_,hall⟩:=X.lk n 6 (X.sr n h3 h5);obtain ⟨k,m,o⟩:=hall j hj;have he:f 0=[]:=by have:=hz 0;simpa [X.zG] using this.symm
 have hne:X.zG (j+1)=false:=by simp [X.zG]
 have hF6:=o.fine;rw [o.six] at hF6;have hFb:X.eN ((X.BL n j k (X.fY n j)).back k):=(X.fW n 60 _).fine hF6;have hFB:=(X.rS k).fine hFb;have hFa:X.eN ((X.ss n j k (X.fY n j)).crash k):=(X.fW n 60 _).fine hFB;have hFA:X.eN (X.ss n j k (X.fY n j)):=(X.pk k).fine hFa;have hFs:X.eN ((X.fY n j).subm X.zG k (j+1)):=(X.fW n 10 _).fine hFA;have hF0:=(X.nP (z:=X.zG) k (j+1)).fine hFs;obtain ⟨hkn,hku⟩:=h.lead_up hb.sv.nl o.lead;obtain ⟨r1,r2⟩:=h.subm hz hb.sv.nl hF0 k hkn hku (j+1) (hf _) hne;have b1:=hb.submC cY k hkn (f (j+1));have r3:=r1.calm hz he hf 10 b1 hFA;have b3:=b1.calmC (ct:=cY) 10;have r4:=r3.crash b3 k hkn o.up keep;have b4:=b3.crashC k hkn keep;have r5:=r4.calm hz he hf 60 b4 hFB;have b5:=b4.calmC (ct:=cY) 60;have r6:=r5.back b5 k hkn;have b6:=b5.back k hkn;have r7:=r6.calm hz he hf 60 b6 hF6;have hlen:∀{S':Mn} {T':X.Sg Nat},GRel f S' T'->S'.nodes.length=n->k<T'.nodes.length:=λg hg=>by rw [g.len,hg];exact hkn
 refine ⟨k,m,hkn,(r5.lead_up b5.sv.nl o.lead2).1,(h.lead hb.sv.nl).trans o.lead,(h.up k (hlen h hb.sv.nl)).trans hku,r2 o.sub,(r3.up k (hlen r3 b3.sv.nl)).trans o.up,(r5.lead b5.sv.nl).trans o.lead2,o.ne,?_,?_⟩
 ·rw [r5.up k (hlen r5 b5.sv.nl)];show (X.Sg.calm X.zG 0 n 60 ((X.ss n j k (X.fY n j)).crash k)).ups.getD k false=false;rw [X.yc];show ((X.ss n j k (X.fY n j)).ups.set k false).getD k false=false;rw [X.fG _ _ _ _ _ (by have:=r3.ul;rw [b3.sv.nl] at this;show k<(X.Sg.calm X.zG 0 n 10 (X.Sg.subm X.zG (X.fY n j) k (j+1))).ups.length;omega),aA rfl]
 ·rw [o.six];exact r7
theorem sq {n:Nat} {f:Nat->List UInt8} (hz:∀x,X.zG x=(f x).isEmpty) {S:Mn} {T:X.Sg Nat} (h:GRel f S T) (hn:S.nodes.length=n) {j:Nat} (ht:T.told j=true) {i:Nat} (hi:i<n):(S.at i).up=true/\cU (S.at i).s=(List.range j).map λx=>f (x+1):=by
 have hl:T.nodes.length=n:=h.len.trans hn;unfold X.Sg.told at ht;rw [bA,dI,dI] at ht;have hu:T.upAt i=true:=by
  have:=ht.1 (T.upAt i) (by
   unfold X.Sg.upAt;rw [aF,bK (by rw [h.ul];omega)];exact bO _)
  exact this
 have ha:=ht.2 (T.at i) (by
  unfold X.Sg.at;rw [aF,bK (by omega)];exact bO _)
 refine ⟨(h.up i (by omega)).trans hu,?_⟩;rw [mw hz (h.nd i (by omega) hu),ez.1 ha,pB];rfl
theorem lh {ρ:Type} (f:ρ->List UInt8) (n:Nat):GRel f (Mn.begun n) (X.Sg.begun n):=by
 have hl:(X.Sg.begun n:X.Sg ρ).nodes.length=n:=by simp [X.Sg.begun]
 have hat:∀i,i<n->(X.Sg.begun n:X.Sg ρ).at i=X.new i n:=λi hi=>by
  unfold X.Sg.at X.Sg.begun;simp [aF,hi]
 have hup:∀i,i<n->(X.Sg.begun n:X.Sg ρ).upAt i=true:=λi hi=>by
  unfold X.Sg.upAt X.Sg.begun;simp [aF,hi]
 refine ⟨rfl,rfl,rfl,by rw [hl];simp [Mn.begun],by simp [Mn.begun,X.Sg.begun],λi hi=>?_,λi hi _=>?_,λi hi hu=>?_⟩
 ·rw [hl] at hi;rw [gD n i hi,hup i hi];rfl
 ·rw [hl] at hi;rw [gD n i hi,hat i hi];exact ⟨⟨rfl,rfl,rfl,rfl,rfl,rfl,rfl,rfl,rfl,rfl,rfl,rfl,rfl,rfl,rfl,rfl,rfl,rfl,rfl,rfl,by show B2.total<=_;rw [show B2.total=0 from rfl];exact aH _⟩,λl q e=>by cases e⟩
 ·rw [hl] at hi;rw [hup i hi] at hu;cases hu
theorem wY {n:Nat} (h3:3<=n) (h5:n<=5) (f:Nat->List UInt8) (hz:∀x,X.zG x=(f x).isEmpty) (hf:∀x,(f x).length<=300):GRel f (Mn.calmC n cY 60 (Mn.begun n)) (X.fY n 0)/\(X.fY n 0).told 0=true:=by
 obtain ⟨h1,h2,_⟩:=X.lk n 6 (X.sr n h3 h5);have he:f 0=[]:=by have:=hz 0;simpa [X.zG] using this.symm
 exact ⟨(lh f n).calm hz he hf 60 (fx n (by omega) h5) h1,h2⟩
namespace X
structure AwkOk (k:Nat) (S S2:Sg Nat):Prop where
 s:S=Sg.calm zG 0 3 60 (Sg.begun 3)
 lead:S.lead=some k
 sub:(X.submit zG (S.at k) 1).2.1=true
 s2:S2=Sg.calm zG 0 3 10 (S.subm zG k 1)
 fine:eN S2
 told:S2.told 1=true
 long:S2.long=[1]
theorem BT:∃k S S2,AwkOk k S S2:=by
 have h:=CS;unfold Dh at h;simp only at h;cases h1:Sg.lead (Sg.calm zG 0 3 60 (Sg.begun 3)) with
 | none=>rw [h1] at h;cases h
 | some k =>
  rw [h1] at h;simp only [bA] at h;obtain ⟨a1,a2,a3,a4⟩:=h;exact ⟨k,_,_,rfl,h1,a1,rfl,qh a2,a3,ez.1 a4⟩
end X
def oz (x:Nat):List UInt8:=if x=0 then [] else [120]
theorem lH (x:Nat):X.zG x=(oz x).isEmpty:=by
 unfold X.zG oz;by_cases h:x=0
 ·subst h;rfl
 ·rw [aw h];simp [h]
theorem kP (x:Nat):(oz x).length<=300:=by
 unfold oz;split<;>simp
structure AwkM (k:Nat) (S S2:Mn):Prop where
 s:S=Mn.calmC 3 cY 60 (Mn.begun 3)
 kn:k<3
 lead:fU S 3 0=some k
 up:(S.at k).up=true
 ok:(bw (S.at k).s (S.at k).k [120]).2.1=0
 s2:S2=Mn.calmC 3 cY 10 (S.submC 3 cY k [120])
 told:∀i,i<3->(S2.at i).up=true/\cU (S2.at i).s=[[120]]
 long:S2.long=[[120]]
open Go.RowKit Go.ChangeMaps Go.WideMaps Go.Maps
theorem jD:dG ([]:Cuts)=cY:=by funext m;rfl
theorem wZ (n:Nat) (ct:Msg->Bool) (t:Nat):∀S:Mn,Mn.calmC n ct (t+1) S=((Mn.calmC n ct t S).ticksC n ct n).drainC n ct 3000:=by
 induction t with
 | zero=>intro S;rfl
 | succ t ih=>intro S;exact ih ((S.ticksC n ct n).drainC n ct 3000)
def Mn.firstC (n:Nat) (ct:Msg->Bool) (S:Mn):Mn:=match S.q with
 | []=>S
 | m::q=>({ S with q:=q }:Mn).bringC n ct m
theorem wR {n:Nat} {ct:Msg->Bool} {S:Mn} (h:S.q=[]):S.firstC n ct=S:=by unfold Mn.firstC;rw [h]
theorem jC (n:Nat) (ct:Msg->Bool) (f:Nat) (S:Mn):Mn.drainC n ct (f+1) S=Mn.drainC n ct f (S.firstC n ct):=by
 unfold Mn.firstC;show (match S.q with | []=>S | m::q=>Mn.drainC n ct f (({ S with q:=q }:Mn).bringC n ct m))=_;cases hq:S.q with
 | nil =>
  simp only;cases f with
  | zero=>rfl
  | succ f=>show S=(match S.q with | []=>S | m::q=>Mn.drainC n ct f (({ S with q:=q }:Mn).bringC n ct m));rw [hq]
 | cons m q=>rfl
theorem nZ (n:Nat) (ct:Msg->Bool) (f:Nat):∀S:Mn,Mn.drainC n ct (f+1) S=(Mn.drainC n ct f S).firstC n ct:=by
 induction f with
 | zero=>intro S;rw [jC];rfl
 | succ f ih=>intro S;rw [jC,ih,jC]
theorem t4 (n:Nat) (ct:Msg->Bool) (f:Nat) (S:Mn) (h:(Mn.drainC n ct f S).q=[]):∀d,Mn.drainC n ct (f+d) S=Mn.drainC n ct f S:=by
 intro d;induction d with
 | zero=>rfl
 | succ d ih=>rw [show f+(d+1)=(f+d)+1 by omega,nZ,ih,wR h]
theorem qI (n:Nat) (ct:Msg->Bool) (S:Mn) (k:Nat):S.ticksC n ct (k+1)=(S.ticksC n ct k).tickC n ct k:=by
 unfold Mn.ticksC;rw [dT,fN];rfl
structure CalmOk (n r:Nat) (S:Mn):Prop where
 tk:∀t,t<r->∀k,k<=n->dt n ((Mn.calmC n cY t S).ticksC n cY k)
 dr:∀t,t<r->∀d,d<=3000->dt n (((Mn.calmC n cY t S).ticksC n cY n).drainC n cY d)
section
variable {w w' w2:World} {A A' X Y Y' Z Z':List Nat} {g n cl lvv:Nat} {S:Mn} {es es':Cuts} {os rs ds ls:Nat->Nat} {Xs:Nat->List Nat} {vl:Value} {nb mb mb':Nat} {qv lv qv' pn:Value} {q':List Msg} {r d l:Nat} {s:Rp} {k:Dk}
theorem BC (h:Gy w A Z g n S []) (hb:BInv n cl lvv S) (hd:dt n S) (hq:S.q≠[]) (hd2:dt n (S.firstC n cY)) :
  Calls Tryz.prog 20 #[.pointer (some ⟨g,0,none⟩),.int .i64 0] w λe w'=>e = .returned (.bool true)/\GyP w w' A Z g n (S.firstC n cY) []:=by
 cases hS:S.q with
 | nil=>exact absurd hS hq
 | cons m q =>
  have e1:S.firstC n cY=(S.loseC 0).bringC n (dG []) m:=by
   unfold Mn.firstC Mn.loseC;rw [hS,jD];rfl
  rw [e1] at hd2 ⊢;exact uQ h hb hd 0 m (by rw [hS];rfl) hd2
theorem Dt (h:Gy w A Z g n S es):∃nb,w.cell? ⟨g,1,none⟩=some (.pointer (some ⟨nb,0,none⟩))/\Calls Tryz.prog 32 #[.pointer (some ⟨nb,0,none⟩)] w λe w'=>e = .returned (.int .i64 (S.q.length:Int))/\w=w':=by
 obtain ⟨Y,os,rs,ds,ls,Xs,vl,nb,mb,qv,lv,h,hz⟩:=h;obtain ⟨ao,c,e1,hnet⟩:=h.nt.shape;exact ⟨nb,by rw [af h.cell];rfl,yQ hnet⟩
theorem Gy.lcell (h:Gy w A Z g n S es):∃ao cr,w.cell? ⟨g,0,none⟩=some (.slice ao n cr):=by
 obtain ⟨Y,os,rs,ds,ls,Xs,vl,nb,mb,qv,lv,h,hz⟩:=h;obtain ⟨ar,cr,e1,_,_⟩:=du h.lr;subst e1;exact ⟨ar,cr,by rw [af h.cell];rfl⟩
theorem CG (h:Gy w A Z g n S es) (nb:Nat) (hn:w.cell? ⟨g,1,none⟩=some (.pointer (some ⟨nb,0,none⟩))):Calls Tryz.prog 31 #[.pointer (some ⟨nb,0,none⟩)] w λe w'=>e = .returned (.tuple #[])/\GyP w w' A Z g n S []:=by
 obtain ⟨Y,os,rs,ds,ls,Xs,vl,nb',mb,qv,lv,h,hz⟩:=h;have e1:w.cell? ⟨g,1,none⟩=some (eg nb'):=by rw [af h.cell];rfl
 rw [hn] at e1;have:nb'=nb:=by unfold eg at e1;simpa using e1.symm
 subst this;refine (wo h.nt).mono ?_;rintro e w1 ⟨rfl,hp⟩;exact ⟨rfl,Gy.netp h hz hp⟩
set_option maxHeartbeats 8000000 in
theorem lU (h:Gy w A Z g n S es) (hb:BInv n cl lvv S) (r:Nat) (hr:r<=10000) (hcl:cl+r*n<=999999) (hok:CalmOk n r S) :
  Calls Tryz.prog 14 #[.pointer (some ⟨g,0,none⟩),.int .i64 (r:Int)] w λe w'=>e = .returned (.tuple #[])/\GyP w w' A Z g n (Mn.calmC n cY r S) []:=by
 have hn5:=hb.n5;obtain ⟨nb,c1⟩:=h.nb;have HH:=ab (CG h nb c1);have HTN:Hid (∀t,t<r->cl+t*n+n<=999999):=ab λt ht=>by
  have:=CZ n (show t+1<=r by omega);rw [Nat.succ_mul] at this;omega
 have HTICK:Hid (∀t,t<r->∀j,j<n->∀w2,GyP w w2 A Z g n ((Mn.calmC n cY t S).ticksC n cY j) []->Calls Tryz.prog 19 #[.pointer (some ⟨g,0,none⟩),.int .i64 (j:Int)] w2 λe w'=>(∃b,e = .returned (.bool b))/\GyP w w' A Z g n ((Mn.calmC n cY t S).ticksC n cY (j+1)) []):=ab λt ht j hj w2 h2=>by
  obtain ⟨A2,Z2,h2,m2⟩:=h2;have hbt:=(hb.calmC (ct:=cY) t).ticksC (ct:=cY) j (by omega);have hd2:=hok.tk t ht (j+1) (by omega);rw [qI] at hd2 ⊢;rw [<-jD] at hd2 ⊢;have:=HTN.out t ht;exact (zF h2 hbt (hok.tk t ht j (by omega)) (by omega) j hj (by rw [jD] at hd2 ⊢;exact hd2)).mono λe w3 ⟨e1,e2⟩=>⟨⟨_,e1⟩,GyP.trans m2 (by rw [jD] at e2 ⊢;exact e2)⟩
 have HBR:Hid (∀t,t<r->∀f,f<3000->∀w2,GyP w w2 A Z g n (((Mn.calmC n cY t S).ticksC n cY n).drainC n cY f) []->(((Mn.calmC n cY t S).ticksC n cY n).drainC n cY f).q≠[]->Calls Tryz.prog 20 #[.pointer (some ⟨g,0,none⟩),.int .i64 0] w2 λe w'=>e = .returned (.bool true)/\GyP w w' A Z g n (((Mn.calmC n cY t S).ticksC n cY n).drainC n cY (f+1)) []):=ab λt ht f hf w2 h2 hq=>by
  obtain ⟨A2,Z2,h2,m2⟩:=h2;have hbt:=((hb.calmC (ct:=cY) t).ticksC (ct:=cY) n (ah _)).drainC (ct:=cY) f;have hd2:=hok.dr t ht (f+1) (by omega);rw [nZ] at hd2 ⊢;exact (BC h2 hbt (hok.dr t ht f (by omega)) hq hd2).mono λe w3 ⟨e1,e2⟩=>⟨e1,GyP.trans m2 e2⟩
 have HLEN:Hid (∀(D:Mn) w2,GyP w w2 A Z g n D []->∃nb,w2.cell? ⟨g,1,none⟩=some (.pointer (some ⟨nb,0,none⟩))/\Calls Tryz.prog 32 #[.pointer (some ⟨nb,0,none⟩)] w2 λe w'=>e = .returned (.int .i64 (D.q.length:Int))/\w2=w'):=ab λD w2 h2=>by
  obtain ⟨A2,Z2,h2,m2⟩:=h2;exact Dt h2
 have HGL:Hid (∀(D:Mn) w2,GyP w w2 A Z g n D []->∃ao cr,w2.cell? ⟨g,0,none⟩=some (.slice ao n cr)):=ab λD w2 h2=>by
  obtain ⟨A2,Z2,h2,m2⟩:=h2;exact h2.lcell
 have HQL:Hid (∀t,t<r->∀f,(((Mn.calmC n cY t S).ticksC n cY n).drainC n cY f).q.length<=2000):=ab λt ht f=>(((hb.calmC (ct:=cY) t).ticksC (ct:=cY) n (ah _)).drainC (ct:=cY) f).sv.ql;have q1:min (r:Int) 10000=(r:Int):=by omega
 clear h hb hcl hok;go_enter Tryz.func14,Tryz.ntmps14
 go_wp2_with fail
 refine HH.out.mono ?_;rintro e w1 ⟨rfl,h1⟩;have H1:=ab h1;clear h1 c1;go_wp2_with fail
 go_loopw [13] (λi wr=>∃(t:Nat),t<=r/\i = .int .i64 (t:Int)/\GyP w wr A Z g n (Mn.calmC n cY t S) []) (λi _=>r - (intOf i).toNat)
 case atStart=>exact ⟨0,aH _,rfl,H1.out⟩
 case round =>
  obtain ⟨t,ht,rfl,hsy⟩:=hrel;have HSY:=ab hsy;clear hsy;have q6:IntKind.i64.wrap ((t:Int)+1)=(t:Int)+1:=IntWalk.i64_in _ (by omega);by_cases hlt:t<r
  ·have hlt2:(t:Int)<(r:Int):=by omega
   have HTK:=ab (HTICK.out t hlt);have HBT:=ab (HBR.out t hlt);have HQT:=ab (HQL.out t hlt);have HNX:=ab (wZ n cY t S);generalize Mn.calmC n cY t S=T at *;obtain ⟨ao,cr,c0⟩:=HGL.out _ _ HSY.out;go_wp2_with fail
   go_loopw [20] (λi w2=>∃j:Nat,j<=n/\i = .int .i64 (j:Int)/\GyP w w2 A Z g n (T.ticksC n cY j) []) (λi _=>n - (intOf i).toNat)
   case atStart=>exact ⟨0,aH _,rfl,HSY.out⟩
   case round =>
    obtain ⟨j,hj,rfl,h2⟩:=hrel;have q7:IntKind.i64.wrap ((j:Int)+1)=(j:Int)+1:=IntWalk.i64_in _ (by omega);by_cases hjn:j<n
    ·have hjn2:(j:Int)<(n:Int):=by omega
     rename World=>w2;have HC:=ab (HTK.out j hjn _ h2);clear h2 c0;go_wp2_with fail
     refine HC.out.mono ?_;rintro e w3 ⟨⟨b,rfl⟩,h3⟩;have H3:=ab h3;clear h3;go_wp2_with fail
     go_roundw
     case rel=>exact ⟨j+1,by omega,by simp,H3.out⟩
     case measure=>simp [intOf];omega
    ·obtain rfl:j=n:=by omega
     have H2:=ab h2;clear h2 c0;go_wp2_with fail
     go_loopw [5] (λi w2=>∃f:Nat,f<=3000/\i = .int .i64 (f:Int)/\GyP w w2 A Z g j ((T.ticksC j cY j).drainC j cY f) []) (λi _=>3000 - (intOf i).toNat)
     case atStart=>exact ⟨0,by omega,rfl,H2.out⟩
     case round =>
      obtain ⟨f,hf,rfl,h4⟩:=hrel;have q8:IntKind.i64.wrap ((f:Int)+1)=(f:Int)+1:=IntWalk.i64_in _ (by omega);by_cases hf4:f<3000
      ·have hf5:(f:Int)<3000:=by omega
       obtain ⟨nb2,c1,hlen⟩:=HLEN.out _ _ h4;have HL:=ab hlen;have H4:=ab h4;have HBF:=ab (HBT.out f hf4 _ h4);have HQF:=ab (HQT.out f);have HST:=ab (t4 j cY f (T.ticksC j cY j));have HD1:Hid ((T.ticksC j cY j).drainC j cY (f+1)=(T.ticksC j cY j).drainC j cY (f+1)):=ab rfl;clear h4 hlen;generalize hD:(T.ticksC j cY j).drainC j cY f=D at *;by_cases hq0:D.q.length=0
       ·have HE:=ab (HST.out (br.1 hq0) (3000 - f));rw [hq0] at HL;have HF:Hid (GyP w wr A Z g j (Mn.calmC j cY (t+1) S) []):=ab (by
         have e9:=HE.out;rw [show f+(3000 - f)=3000 by omega] at e9;rw [HNX.out,e9];exact H4.out)
        clear hq0 hD;go_wp2_with fail
        refine HL.out.mono ?_;rintro e w5 ⟨rfl,rfl⟩;go_wp2_with fail
        go_roundw
        case rel=>exact ⟨t+1,by omega,by simp,HF.out⟩
        case measure=>simp [intOf];omega
       ·have HBC:=ab (HBF.out (λe=>hq0 (by rw [e];rfl)));have hql:(0:Int)<(D.q.length:Int):=by omega
        clear hq0 hD;generalize D.q.length=ql at *;go_wp2_with fail
        refine HL.out.mono ?_;rintro e w5 ⟨rfl,rfl⟩;go_wp2_with fail
        refine HBC.out.mono ?_;rintro e w6 ⟨rfl,h6⟩;have H6:=ab h6;clear h6;go_wp2_with fail
        go_roundw
        case rel=>exact ⟨f+1,by omega,by simp,H6.out⟩
        case measure=>simp [intOf];omega
      ·obtain rfl:f=3000:=by omega
       have HF:Hid (GyP w wr A Z g j (Mn.calmC j cY (t+1) S) []):=ab (by
        rw [HNX.out];exact h4)
       clear h4;go_wp2_with fail
       go_roundw
       case rel=>exact ⟨t+1,by omega,by simp,HF.out⟩
       case measure=>simp [intOf];omega
  ·obtain rfl:t=r:=by omega
   go_wp2_with fail
   go_end0
   exact ⟨rfl,HSY.out⟩
end
namespace X
section
variable {ρ:Type} {z:ρ->Bool} {e:ρ} {T:Sg ρ}
theorem ye (n:Nat):∀d k,k+d=n->GMo (T.ticks z e k) (T.ticks z e n):=by
 intro d;induction d generalizing n with
 | zero=>intro k h;rw [show k=n by omega];exact GMo.refl _
 | succ d ih =>
  intro k h;have h1:=ih (n - 1) k (by omega);have h2:T.ticks z e n=(T.ticks z e (n - 1)).tick z e (n - 1):=by
   rw [show n=(n - 1)+1 by omega];unfold Sg.ticks;rw [dT,fN];rfl
  rw [h2];exact h1.trans (nN _)
theorem kf (k:Nat) (T:Sg ρ) (h:T.q=[]):T.drain z e k=T:=by
 cases k with
 | zero=>rfl
 | succ k=>unfold Sg.drain;rw [h]
theorem te (x:Nat):∀(d:Nat) (T:Sg ρ),T.drain z e (d+x)=(T.drain z e d).drain z e x:=by
 intro d;induction d with
 | zero=>intro T;rw [cy];rfl
 | succ d ih =>
  intro T;rw [show d+1+x=(d+x)+1 by omega];cases hq:T.q with
  | nil=>rw [kf _ T hq,kf _ T hq,kf _ T hq]
  | cons m q =>
   have e1:∀y,T.drain z e (y+1)=(Sg.bring z e { T with q:=q } m).drain z e y:=λy=>by
    show (match T.q with | []=>T | m::q=>Sg.drain z e y (Sg.bring z e { T with q:=q } m))=_;rw [hq]
   rw [e1,e1];exact ih _
theorem zZ (d k:Nat) (h:d<=k):GMo (T.drain z e d) (T.drain z e k):=by
 rw [show k=d+(k - d) by omega,te];exact iK _ _
end
end X
section
variable {ρ:Type} {f:ρ->List UInt8} {z:ρ->Bool} {e:ρ} {n cl lv:Nat} {S:Mn} {T:X.Sg ρ}
theorem GRel.nodone (h:GRel f S T) (hn:S.nodes.length=n):dt n S:=λi hi hu =>
 have hl:i<T.nodes.length:=by rw [h.len,hn];exact hi
 (h.nd i hl ((h.up i hl).symm.trans hu)).u.done
theorem GRel.calmok (hz:∀x,z x=(f x).isEmpty) (he:f e=[]) (hf:∀x,(f x).length<=300) (r:Nat):∀{cl:Nat} {S:Mn} {T:X.Sg ρ},GRel f S T->BInv n cl lv S->X.eN (T.calm z e n r)->CalmOk n r S:=by
 induction r with
 | zero=>intro cl S T _ _ _;exact ⟨λt ht=>by omega,λt ht=>by omega⟩
 | succ r ih =>
  intro cl S T h hb hF;have hF0:X.eN ((T.ticks z e n).drain z e 3000):=(X.fW n r _).fine hF;have hFt:X.eN (T.ticks z e n):=(X.iK 3000 _).fine hF0;obtain ⟨h1,h2⟩:=GRel.ticks hz he n h hb.sv.nl hFt (ah _);have b1:=hb.ticksC (ct:=cY) n (ah _);have h3:=GRel.drain hz he hf 3000 h1 b1 hF0;have b3:=b1.drainC (ct:=cY) 3000;have hi:=ih h3 b3 hF;refine ⟨λt ht k hk=>?_,λt ht d hd=>?_⟩
  ·cases t with
   | zero =>
    obtain ⟨g1,g2⟩:=GRel.ticks hz he k h hb.sv.nl ((X.ye n (n - k) k (by omega)).fine hFt) hk;exact g1.nodone g2
   | succ t=>exact hi.tk t (by omega) k hk
  ·cases t with
   | zero =>
    have g1:=GRel.drain hz he hf d h1 b1 ((X.zZ d 3000 hd).fine hF0);exact g1.nodone (b1.drainC (ct:=cY) d).sv.nl
   | succ t=>exact hi.dr t (by omega) d hd
end
structure AwkD (k:Nat) (S S2:Mn):Prop where
 c1:CalmOk 3 60 (Mn.begun 3)
 d0:dt 3 (Mn.begun 3)
 d1:dt 3 S
 d2:dt 3 (S.submC 3 cY k [120])
 c2:CalmOk 3 10 (S.submC 3 cY k [120])
 d3:dt 3 S2
theorem Dg:∃k S S2,AwkM k S S2/\AwkD k S S2:=by
 obtain ⟨k,T,T2,o⟩:=X.BT;have he:oz 0=[]:=rfl;have hF2:=o.fine;rw [o.s2] at hF2;have hFs:=(X.fW 3 10 _).fine hF2;have hF0:=(X.nP (z:=X.zG) k 1).fine hFs;have hF00:=hF0;rw [o.s] at hF00;have b0:=fx 3 (by omega) (by omega);have r0:GRel oz (Mn.calmC 3 cY 60 (Mn.begun 3)) T:=by
  rw [o.s] at hF0 ⊢;exact (lh oz 3).calm lH he kP 60 b0 hF0
 have b1:=b0.calmC (ct:=cY) 60;obtain ⟨hkn,hku⟩:=r0.lead_up b1.sv.nl o.lead;obtain ⟨r1,r2⟩:=r0.subm lH b1.sv.nl hF0 k hkn hku 1 (kP _) rfl;have b2:=b1.submC cY k hkn (oz 1);have r3:=r1.calm lH he kP 10 b2 hF2;have k3:=GRel.calmok lH he kP 10 r1 b2 hF2;rw [<-o.s2] at r3;have b3:=b2.calmC (ct:=cY) 10;refine ⟨k,_,_,⟨rfl,hkn,(r0.lead b1.sv.nl).trans o.lead,(r0.up k (by rw [r0.len,b1.sv.nl];exact hkn)).trans hku,r2 o.sub,rfl,λi hi=>?_,?_⟩,⟨GRel.calmok lH he kP 60 (lh oz 3) b0 hF00,(lh oz 3).nodone b0.sv.nl,r0.nodone b1.sv.nl,r1.nodone b2.sv.nl,k3,r3.nodone b3.sv.nl⟩⟩
 ·exact sq lH r3 b3.sv.nl o.told hi
 ·have:=r3.long;rw [o.long] at this;exact this
structure ChgD (n:Nat) (rec:List UInt8) (keep:Int) (S:Mn) (k:Nat):Prop where
 d0:dt n S
 d1:dt n (S.submC n cY k rec)
 c1:CalmOk n 10 (S.submC n cY k rec)
 d2:dt n (Mn.calmC n cY 10 (S.submC n cY k rec))
 d3:dt n ((Mn.calmC n cY 10 (S.submC n cY k rec)).crashC k keep)
 c3:CalmOk n 60 ((Mn.calmC n cY 10 (S.submC n cY k rec)).crashC k keep)
 d4:dt n (Mn.calmC n cY 60 ((Mn.calmC n cY 10 (S.submC n cY k rec)).crashC k keep))
 d5:dt n ((Mn.calmC n cY 60 ((Mn.calmC n cY 10 (S.submC n cY k rec)).crashC k keep)).back n k)
 c5:CalmOk n 60 ((Mn.calmC n cY 60 ((Mn.calmC n cY 10 (S.submC n cY k rec)).crashC k keep)).back n k)
theorem De {n cl lv:Nat} (h3:3<=n) (h5:n<=5) (f:Nat->List UInt8) (hz:∀x,X.zG x=(f x).isEmpty) (hf:∀x,(f x).length<=300) (keep:Int) {j:Nat} (hj:j<6) {S:Mn} (h:GRel f S (X.fY n j)) (hb:BInv n cl lv S):∃k m,ChgM n j cl lv f keep S k m/\ChgD n (f (j+1)) keep S k:=by
 obtain ⟨_,_,hall⟩:=X.lk n 6 (X.sr n h3 h5);obtain ⟨k,m,o⟩:=hall j hj;obtain ⟨k',m',hM⟩:=Dd h3 h5 f hz hf keep hj h hb;have hk:k'=k:=by have h1:=hM.lead;rw [(h.lead hb.sv.nl).trans o.lead] at h1;exact (Option.some.inj h1).symm
 subst hk;have he:f 0=[]:=by have:=hz 0;simpa [X.zG] using this.symm
 have hne:X.zG (j+1)=false:=by simp [X.zG]
 have hF6:=o.fine;rw [o.six] at hF6;have hFb:X.eN ((X.BL n j k' (X.fY n j)).back k'):=(X.fW n 60 _).fine hF6;have hFB:=(X.rS k').fine hFb;have hFa:X.eN ((X.ss n j k' (X.fY n j)).crash k'):=(X.fW n 60 _).fine hFB;have hFA:X.eN (X.ss n j k' (X.fY n j)):=(X.pk k').fine hFa;have hFs:X.eN ((X.fY n j).subm X.zG k' (j+1)):=(X.fW n 10 _).fine hFA;have hF0:=(X.nP (z:=X.zG) k' (j+1)).fine hFs;obtain ⟨hkn,hku⟩:=h.lead_up hb.sv.nl o.lead;obtain ⟨r1,r2⟩:=h.subm hz hb.sv.nl hF0 k' hkn hku (j+1) (hf _) hne;have b1:=hb.submC cY k' hkn (f (j+1));have r3:=r1.calm hz he hf 10 b1 hFA;have b3:=b1.calmC (ct:=cY) 10;have r4:=r3.crash b3 k' hkn o.up keep;have b4:=b3.crashC k' hkn keep;have r5:=r4.calm hz he hf 60 b4 hFB;have b5:=b4.calmC (ct:=cY) 60;have r6:=r5.back b5 k' hkn;have b6:=b5.back k' hkn;exact ⟨k',m',hM,⟨h.nodone hb.sv.nl,r1.nodone b1.sv.nl,GRel.calmok hz he hf 10 r1 b1 hFA,r3.nodone b3.sv.nl,r4.nodone b4.sv.nl,GRel.calmok hz he hf 60 r4 b4 hFB,r5.nodone b5.sv.nl,r6.nodone b6.sv.nl,GRel.calmok hz he hf 60 r6 b6 hF6⟩⟩
theorem AM {n:Nat} (h3:3<=n) (h5:n<=5) (f:Nat->List UInt8) (hz:∀x,X.zG x=(f x).isEmpty) (hf:∀x,(f x).length<=300):CalmOk n 60 (Mn.begun n):=by
 obtain ⟨h1,h2,_⟩:=X.lk n 6 (X.sr n h3 h5);have he:f 0=[]:=by have:=hz 0;simpa [X.zG] using this.symm
 exact GRel.calmok hz he hf 60 (lh f n) (fx n (by omega) h5) h1
end Go.Proofs.YtnhefallmioefaaGreat
