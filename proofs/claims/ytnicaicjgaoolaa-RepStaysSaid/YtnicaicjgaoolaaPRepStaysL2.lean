/-
  What the proof of the law leans on: contracts of the program's functions, one behind another. No condition.
-/
import Derived.Test.YtnicaicjgaoolaaPRepStaysL1
import Derived.Test.YtnicaicjgaoolaaT32
set_option linter.unusedVariables false
set_option linter.unusedSimpArgs false
namespace Go.Proofs.Ytnicaicjgaoolaa.X
set_option maxRecDepth 20000
structure Sys (ρ:Type) where
 nodes:List (Nd ρ)
 q:List (Ms ρ)
 long:List ρ
section
variable {ρ:Type} (z:ρ→Bool) (e:ρ)
def nd0:Nd ρ:=new 0 1
def Sys.at (S:Sys ρ) (i:Nat):Nd ρ:=S.nodes.getD i nd0
def addQ (q:List (Ms ρ)) (m:Ms ρ):List (Ms ρ):=if q.length<2000 then q++[m] else q
def Sys.send (S:Sys ρ) (ms:List (Ms ρ)):Sys ρ:={ S with q:=ms.foldl addQ S.q }
def Sys.set (S:Sys ρ) (i:Nat) (s:Nd ρ):Sys ρ:={ S with nodes:=S.nodes.set i s }
def Sys.tick (S:Sys ρ) (i:Nat):Sys ρ:=(S.set i (X.tick z e (S.at i)).2).send (X.tick z e (S.at i)).1
def Sys.ticks (S:Sys ρ) (n:Nat):Sys ρ:=(List.range n).foldl (Sys.tick z e) S
def Sys.bring (S:Sys ρ) (m:Ms ρ):Sys ρ:=(S.set m.dst.toNat (X.get z e (S.at m.dst.toNat) m).2).send (X.get z e (S.at m.dst.toNat) m).1
def Sys.drain:Nat→Sys ρ→Sys ρ
 | 0,S=>S
 | f+1,S=>match S.q with
  | []=>S
  | m::q=>Sys.drain f (Sys.bring z e { S with q:=q } m)
def Sys.calm (n:Nat):Nat→Sys ρ→Bool×Sys ρ
 | 0,S=>(true,S)
 | r+1,S=>match Sys.drain z e 4000 (Sys.ticks z e S n) with
  | S1=>match S1.q with
   | []=>Sys.calm n r S1
   | _::_=>(false,S1)
def Sys.give (rec:ρ) (S:Sys ρ) (i:Nat):Sys ρ :=
 if (S.at i).leads then (S.set i (X.submit z (S.at i) rec).2.2).send (X.submit z (S.at i) rec).1 else S
def Sys.gives (n:Nat) (rec:ρ) (S:Sys ρ):Sys ρ:=(List.range n).foldl (Sys.give z rec) S
def Sys.begun (n:Nat):Sys ρ:=⟨(List.range n).map fun i=>new i n,[],[]⟩
def Sys.fine (S:Sys ρ):Bool:=S.nodes.all fun s => !s.bad&&decide (s.cnt≤2500)
end
def zN (i:Nat):Bool:=i==0
def fitsN (l lg:List Nat):Bool:=(l.zip lg).all fun p=>p.1==p.2
def longer (l lg:List Nat):List Nat:=if lg.length<l.length then l else lg
def lookN:List (Nd Nat)→List Nat→Bool×List Nat
 | [],lg=>(true,lg)
 | s::l,lg=>if fitsN (agreedL zN s) lg then lookN l (longer (agreedL zN s) lg) else (false,lg)
def Sys.look (S:Sys Nat):Bool×Sys Nat:=((lookN S.nodes S.long).1,{ S with long:=(lookN S.nodes S.long).2 })
/-- a record is given, all is calm: then so many are told -/
def oneN (n i:Nat) (S:Sys Nat):Bool×Sys Nat :=
 match Sys.calm zN 0 n 10 (Sys.gives zN n (i+1) S) with
 | (ok,S1)=>match S1.look with
  | (fit,S2)=>(ok&&(fit&&S2.long==(List.range (i+1)).map (· + 1)),S2)
def manyN (n:Nat):Nat→Bool×Sys Nat
 | 0=>Sys.calm zN 0 n 60 (Sys.begun n)
 | i+1=>match manyN n i with
  | (ok,S)=>match oneN n i S with
   | (ok2,S2)=>(ok&&ok2,S2)
/-- the whole run with so many records -/
def endN (n R:Nat) (S:Sys Nat):Bool :=
 match Sys.calm zN 0 n 60 { S with nodes:=S.nodes.map back,q:=[]} with
 | (ok,S1)=>match S1.look with
  | (fit,S2)=>ok&&(fit&&match oneN n R S2 with | (ok2,S3)=>ok2&&S3.fine)
/-- all lengths at once: the run goes on, and at each length it ends as well -/
def allN (n:Nat):Nat→Bool×Sys Nat
 | 0=>match manyN n 0 with | (ok,S)=>(ok&&endN n 0 S,S)
 | i+1=>match allN n i with
  | (ok,S)=>match oneN n i S with
   | (ok2,S2)=>(ok&&(ok2&&endN n (i+1) S2),S2)
theorem run1:(allN 1 10).1=true:=by decide +kernel
theorem run2:(allN 2 10).1=true:=by decide +kernel
theorem run3:(allN 3 10).1=true:=by decide +kernel
theorem run4:(allN 4 10).1=true:=by decide +kernel
theorem run5:(allN 5 10).1=true:=by decide +kernel
end Go.Proofs.Ytnicaicjgaoolaa.X
namespace Go.Proofs.Ytnicaicjgaoolaa
set_option maxRecDepth 20000
namespace X
structure SMo {ρ:Type} (T T':Sys ρ):Prop where
 len:T'.nodes.length=T.nodes.length
 mo:∀i,Mo (T.at i) (T'.at i)
def Fine {ρ:Type} (T:Sys ρ):Prop:=∀i,i<T.nodes.length→(T.at i).bad=false∧(T.at i).cnt≤2500
section
variable {ρ:Type} {z:ρ→Bool} {e:ρ} {T T':Sys ρ}
theorem Sys.at_set (T:Sys ρ) (i j:Nat) (s:Nd ρ) (h:i<T.nodes.length):(T.set i s).at j=if j=i then s else T.at j:=by
 unfold Sys.set Sys.at
 simp only [List.getD_eq_getElem?_getD,List.getElem?_set]
 by_cases e:j=i
 ·subst e;simp [h]
 ·rw [if_neg (Ne.symm e),if_neg e]
theorem SMo.refl (T:Sys ρ):SMo T T:=⟨rfl,fun _=>Mo.refl _⟩
theorem SMo.trans {A B C:Sys ρ} (h:SMo A B) (g:SMo B C):SMo A C:=⟨g.len.trans h.len,fun i=>(h.mo i).trans (g.mo i)⟩
theorem SMo.fine (h:SMo T T') (g:Fine T'):Fine T:=fun i hi =>
 have h1:=g i (by rw [h.len];exact hi)
 ⟨(h.mo i).bad h1.1,Nat.le_trans (h.mo i).cnt h1.2⟩
theorem smo_set (i:Nat) (s:Nd ρ) (h:Mo (T.at i) s):SMo T (T.set i s):=by
 refine ⟨by simp [Sys.set],fun j=>?_⟩
 by_cases hi:i<T.nodes.length
 ·rw [Sys.at_set T i j s hi]
  split
  ·rename_i e;subst e;exact h
  ·exact Mo.refl _
 ·have:T.set i s=T:=by
   unfold Sys.set
   rw [List.set_eq_of_length_le (by omega)]
  rw [this];exact Mo.refl _
theorem smo_send (ms:List (Ms ρ)) (h:SMo T T'):SMo T (T'.send ms):=⟨h.len,h.mo⟩
theorem smo_tick (i:Nat):SMo T (T.tick z e i):=smo_send _ (smo_set i _ mo_tick)
theorem smo_fold {α:Type} (g:Sys ρ→α→Sys ρ) (hg:∀T a,SMo T (g T a)) (l:List α):∀T,SMo T (l.foldl g T):=by
 induction l with
 | nil=>exact fun T=>SMo.refl T
 | cons a l ih=>exact fun T=>(hg T a).trans (ih _)
theorem smo_ticks (n:Nat):SMo T (T.ticks z e n):=smo_fold _ (fun _ i=>smo_tick i) _ T
theorem smo_bring (m:Ms ρ):SMo T (T.bring z e m):=smo_send _ (smo_set _ _ (mo_get m))
theorem smo_drain (k:Nat):∀T:Sys ρ,SMo T (T.drain z e k):=by
 induction k with
 | zero=>exact fun T=>SMo.refl T
 | succ k ih =>
  intro T
  unfold Sys.drain
  split
  ·exact SMo.refl T
  ·rename_i m q _
   exact SMo.trans (B:=Sys.bring z e { T with q:=q } m) (SMo.trans (B:={ T with q:=q }) ⟨rfl,fun _=>Mo.refl _⟩ (smo_bring m)) (ih _)
theorem smo_calm (n r:Nat):∀T:Sys ρ,SMo T (T.calm z e n r).2:=by
 induction r with
 | zero=>exact fun T=>SMo.refl T
 | succ r ih =>
  intro T
  have h1:SMo T ((T.ticks z e n).drain z e 4000):=(smo_ticks n).trans (smo_drain _ _)
  unfold Sys.calm
  simp only
  split
  ·exact h1.trans (ih _)
  ·exact h1
theorem smo_give (rec:ρ) (i:Nat):SMo T (T.give z rec i):=by
 unfold Sys.give
 split
 ·exact smo_send _ (smo_set i _ (mo_submit rec))
 ·exact SMo.refl T
theorem smo_gives (n:Nat) (rec:ρ):SMo T (T.gives z n rec):=smo_fold _ (fun _ i=>smo_give rec i) _ T
end
end X
/-- as many, one for one; all of them are up -/
structure SRel {ρ:Type} (f:ρ→List UInt8) (S:Mn) (T:X.Sys ρ):Prop where
 q:S.q=T.q.map (mgX f)
 long:S.long=T.long.map f
 bad:S.bad=false
 len:T.nodes.length=S.nodes.length
 nd:∀i,i<T.nodes.length→(S.at i).up=true∧Rel f (S.at i).s (S.at i).k (T.at i)
section
variable {ρ:Type} {f:ρ→List UInt8} {z:ρ→Bool} {e:ρ} {n cl lv:Nat} {S:Mn} {T:X.Sys ρ}
theorem addQ_rel (q:List (X.Ms ρ)) (m:X.Ms ρ):addQ (q.map (mgX f)) (mgX f m)=(X.addQ q m).map (mgX f):=by
 unfold addQ X.addQ
 rw [List.length_map]
 split
 ·rw [List.map_append];rfl
 ·rfl
theorem addQs_rel (ms:List (X.Ms ρ)):∀q:List (X.Ms ρ),(ms.map (mgX f)).foldl addQ (q.map (mgX f))=(ms.foldl X.addQ q).map (mgX f):=by
 induction ms with
 | nil=>exact fun q=>rfl
 | cons a l ih=>intro q;rw [List.map_cons,List.foldl_cons,List.foldl_cons,addQ_rel,ih]
/-- a node turns, and says something -/
theorem SRel.turn (h:SRel f S T) (i:Nat) (hi:i<T.nodes.length) {p:List Msg×Rp×Dk} {q:List (X.Ms ρ)×X.Nd ρ} (hp:RelP f p q):SRel f ((S.set i ⟨p.2.1,p.2.2,true⟩).send p.1) ((T.set i q.2).send q.1):=by
 refine ⟨?_,h.long,h.bad,by simp [Mn.send,Mn.set,X.Sys.send,X.Sys.set,h.len],fun j hj=>?_⟩
 ·show p.1.foldl addQ S.q=(q.1.foldl X.addQ T.q).map (mgX f)
  rw [hp.ms,h.q,addQs_rel]
 ·have hj2:j<T.nodes.length:=by simpa [X.Sys.send,X.Sys.set] using hj
  show ((S.set i ⟨p.2.1,p.2.2,true⟩).at j).up=true∧Rel f ((S.set i ⟨p.2.1,p.2.2,true⟩).at j).s ((S.set i ⟨p.2.1,p.2.2,true⟩).at j).k ((T.set i q.2).at j)
  rw [Mn.at_set S i j _ (by rw [←h.len];exact hi),X.Sys.at_set T i j _ hi]
  split
  ·exact ⟨rfl,hp.rel⟩
  ·exact h.nd j hj2
section
variable (hz:∀x,z x=(f x).isEmpty) (he:f e=[]) (hf:∀x,(f x).length≤300)
include hz he
theorem SRel.tick (h:SRel f S T) (hF:X.Fine T) (i:Nat) (hi:i<T.nodes.length):SRel f (S.tick i) (T.tick z e i):=by
 unfold Mn.tick X.Sys.tick
 rw [if_pos (h.nd i hi).1]
 exact h.turn i hi (tick_rel hz he (h.nd i hi).2 (by have:=(hF i hi).2;omega))
theorem SRel.ticks (k:Nat):∀{S:Mn} {T:X.Sys ρ},SRel f S T→X.Fine (T.ticks z e k)→k≤T.nodes.length→SRel f (S.ticks k) (T.ticks z e k):=by
 induction k with
 | zero=>exact fun h _ _=>h
 | succ k ih =>
  intro S T h hF hk
  unfold Mn.ticks X.Sys.ticks at *
  rw [List.range_succ,List.foldl_append] at hF ⊢
  rw [List.foldl_append]
  have h1:X.SMo ((List.range k).foldl (X.Sys.tick z e) T) ([k].foldl (X.Sys.tick z e) ((List.range k).foldl (X.Sys.tick z e) T)):=X.smo_tick k
  have h2:=ih h (h1.fine hF) (by omega)
  exact SRel.tick hz he h2 (h1.fine hF) k (by rw [(X.smo_fold (X.Sys.tick z e) (fun _ i=>X.smo_tick i) (List.range k) T).len];omega)
include hf
theorem SRel.bring (h:SRel f S T) (m:X.Ms ρ) (hF:X.Fine (T.bring z e m)) (hd:m.dst.toNat<T.nodes.length) (hb:m.B.length≤20):SRel f (S.bring (mgX f m)) (T.bring z e m):=by
 have hF0:=(X.smo_bring m).fine hF
 unfold Mn.bring
 rw [if_pos (show (S.at (mgX f m).dst.toNat).up=true from (h.nd _ hd).1)]
 refine h.turn m.dst.toNat hd (get_rel hz he hf (h.nd _ hd).2 (by have:=(hF0 _ hd).2;omega) m hb ?_)
 have h1:=hF m.dst.toNat (by rw [(X.smo_bring m).len];exact hd)
 have h2:(T.bring z e m).at m.dst.toNat=(X.get z e (T.at m.dst.toNat) m).2:=by
  show (T.set m.dst.toNat (X.get z e (T.at m.dst.toNat) m).2).at m.dst.toNat=_
  rw [X.Sys.at_set T _ _ _ hd,if_pos rfl]
 rw [h2] at h1
 exact h1.1
theorem SRel.drain (k:Nat):∀{S:Mn} {T:X.Sys ρ},SRel f S T→BInv n cl lv S→X.Fine (T.drain z e k)→SRel f (S.drain k) (T.drain z e k):=by
 induction k with
 | zero=>exact fun h _ _=>h
 | succ k ih =>
  intro S T h hi hF
  obtain ⟨Sn,Sq,Sl,Sb,Sg⟩:=S
  obtain ⟨Tn,Tq,Tl⟩:=T
  have hq:=h.q
  simp only at hq
  subst hq
  cases Tq with
  | nil=>exact h
  | cons m q =>
   have hF2:X.Fine (X.Sys.drain z e k (X.Sys.bring z e ⟨Tn,q,Tl⟩ m)):=hF
   have hF1:=(X.smo_drain k _).fine hF2
   obtain ⟨fr,hfr,hg⟩:=hi.sv.q (mgX f m) List.mem_cons_self
   have h0:SRel f ⟨Sn,q.map (mgX f),Sl,Sb,Sg⟩ (⟨Tn,q,Tl⟩:X.Sys ρ):=⟨rfl,h.long,h.bad,h.len,h.nd⟩
   have hnl:Tn.length=n:=h.len.trans hi.sv.nl
   have hb0:BInv n cl lv ⟨Sn,q.map (mgX f),Sl,Sb,Sg⟩:=hi.ofq (q:=q.map (mgX f)) (fun x hx=>List.mem_cons_of_mem _ hx) (by have:=hi.sv.ql;simp only [List.map_cons,List.length_cons] at this;omega)
   have d0:=hg.d0;have dn:=hg.dn
   have hd:m.dst.toNat<Tn.length:=by
    have e1:(mgX f m).dst=m.dst:=rfl
    rw [e1] at d0 dn;omega
   have h1:=SRel.bring hz he hf h0 m hF1 hd (by have:=hg.bl;have e1:(mgX f m).B.length=m.B.length:=List.length_map _;omega)
   exact ih h1 (hb0.bring _ hg.d0 hg.dn) hF2
theorem SRel.calm (r:Nat):∀{cl:Nat} {S:Mn} {T:X.Sys ρ},SRel f S T→BInv n cl lv S→X.Fine (T.calm z e n r).2→(Mn.calm n r S).1=(T.calm z e n r).1∧SRel f (Mn.calm n r S).2 (T.calm z e n r).2:=by
 induction r with
 | zero=>exact fun h _ _=>⟨rfl,h⟩
 | succ r ih =>
  intro cl S T h hi hF
  have hF1:X.Fine ((T.ticks z e n).drain z e 4000):=by
   unfold X.Sys.calm at hF
   simp only at hF
   split at hF
   ·exact (X.smo_calm n r _).fine hF
   ·exact hF
  have hnl:T.nodes.length=n:=h.len.trans hi.sv.nl
  have h1:=SRel.ticks hz he n h ((X.smo_drain 4000 _).fine hF1) (by omega)
  have hb1:=hi.ticks n (Nat.le_refl _)
  have h2:=SRel.drain hz he hf 4000 h1 hb1 hF1
  have hb2:=hb1.drain 4000
  unfold X.Sys.calm at hF ⊢
  unfold Mn.calm
  simp only at hF ⊢
  have hq:=h2.q
  cases hT:((T.ticks z e n).drain z e 4000).q with
  | nil =>
   rw [hT] at hq hF
   rw [if_pos (by rw [hq];rfl)]
   exact ih h2 hb2 hF
  | cons a l =>
   rw [hT] at hq
   rw [if_neg (by rw [hq];simp)]
   exact ⟨rfl,h2⟩
end
end
end Go.Proofs.Ytnicaicjgaoolaa
namespace Go.Proofs.Ytnicaicjgaoolaa
set_option maxRecDepth 20000
def giveM (rec:List UInt8) (S:Mn) (i:Nat):Mn:=if S.leads i then S.submit i rec else S
def givesM (n:Nat) (rec:List UInt8) (S:Mn):Mn:=(List.range n).foldl (giveM rec) S
def oneM (n:Nat) (rec:List UInt8) (S:Mn):Mn:=((Mn.calm n 10 (givesM n rec S)).2.look n).2
def crashM (keep:List Int) (n:Nat) (S:Mn):Mn:=(List.range n).foldl (fun S i=>S.crash i (keep.getD i 0)) S
def backM (n:Nat) (S:Mn):Mn:=(List.range n).foldl (fun S i=>S.back n i) S
section
variable {ρ:Type} {f:ρ→List UInt8} {z:ρ→Bool} {e:ρ} {n cl lv:Nat} {S:Mn} {T:X.Sys ρ}
theorem BInv.give (h:BInv n cl lv S) (rec:List UInt8) (i:Nat) (hi:i<n):BInv n cl (lv+1) (giveM rec S i):=by
 unfold giveM
 split
 ·exact h.submit i hi rec
 ·exact h.mono (Nat.le_refl _) (Nat.le_succ _)
theorem BInv.gives (h:BInv n cl lv S) (rec:List UInt8) (k:Nat) (hk:k≤n):BInv n cl (lv+k) ((List.range k).foldl (giveM rec) S):=by
 induction k with
 | zero=>exact h
 | succ k ih =>
  rw [List.range_succ,List.foldl_append]
  exact (ih (by omega)).give rec k (by omega)
theorem BInv.crashes (h:BInv n cl lv S) (keep:List Int) (k:Nat) (hk:k≤n):BInv n cl lv ((List.range k).foldl (fun S i=>S.crash i (keep.getD i 0)) S):=by
 induction k with
 | zero=>exact h
 | succ k ih =>
  rw [List.range_succ,List.foldl_append]
  exact (ih (by omega)).crash k (by omega) _
theorem BInv.backs (h:BInv n cl lv S) (k:Nat) (hk:k≤n):BInv n cl (lv+k) ((List.range k).foldl (fun S i=>S.back n i) S):=by
 induction k with
 | zero=>exact h
 | succ k ih =>
  rw [List.range_succ,List.foldl_append]
  exact (ih (by omega)).back k (by omega)
theorem BInv.one (h:BInv n cl lv S) (rec:List UInt8):BInv n (cl+10*n) (lv+n) (oneM n rec S):=by
 have h1:=(h.gives rec n (Nat.le_refl _)).calm 10
 exact ⟨⟨h1.sv.nl,h1.sv.id,h1.sv.wf,h1.sv.q,h1.sv.ql⟩,h1.n1,h1.n5,h1.up,h1.dn,h1.liv,h1.gn⟩
theorem SRel.leads (h:SRel f S T) (i:Nat) (hi:i<T.nodes.length):S.leads i=(T.at i).leads:=by
 have h1:=(h.nd i hi).2.u
 unfold Mn.leads
 rw [(leads_same h1.off h1.liv).1,h1.leads,h1.done];simp
section
variable (hz:∀x,z x=(f x).isEmpty) (he:f e=[]) (hf:∀x,(f x).length≤300)
include hz
theorem SRel.give (h:SRel f S T) (hF:X.Fine T) (x:ρ) (hx:(f x).length≤300) (hne:z x=false) (i:Nat) (hi:i<T.nodes.length):SRel f (giveM (f x) S i) (T.give z x i):=by
 unfold giveM X.Sys.give
 rw [h.leads i hi]
 split
 ·obtain ⟨er,e1,e2,e3⟩:=submit_rel hz (h.nd i hi).2 (by have:=(hF i hi).2;omega) x hx hne
  unfold Mn.submit
  rw [if_pos (h.nd i hi).1]
  have ht:=h.turn i hi (p:=((submitM (S.at i).s (S.at i).k (f x)).1,(submitM (S.at i).s (S.at i).k (f x)).2.2.1,(submitM (S.at i).s (S.at i).k (f x)).2.2.2)) (q:=((X.submit z (T.at i) x).1,(X.submit z (T.at i) x).2.2)) ⟨by simp only;rw [e1],e3⟩
  simp only
  split
  ·exact ⟨ht.q,ht.long,ht.bad,ht.len,ht.nd⟩
  ·exact ht
 ·exact h
theorem SRel.gives (x:ρ) (hx:(f x).length≤300) (hne:z x=false) (k:Nat):∀{S:Mn} {T:X.Sys ρ},SRel f S T→X.Fine ((List.range k).foldl (X.Sys.give z x) T)→k≤T.nodes.length→SRel f ((List.range k).foldl (giveM (f x)) S) ((List.range k).foldl (X.Sys.give z x) T):=by
 induction k with
 | zero=>exact fun h _ _=>h
 | succ k ih =>
  intro S T h hF hk
  rw [List.range_succ,List.foldl_append] at hF ⊢
  rw [List.foldl_append]
  have h1:X.SMo ((List.range k).foldl (X.Sys.give z x) T) ([k].foldl (X.Sys.give z x) ((List.range k).foldl (X.Sys.give z x) T)):=X.smo_give x k
  exact SRel.give hz (ih h (h1.fine hF) (by omega)) (h1.fine hF) x hx hne k (by rw [(X.smo_fold (X.Sys.give z x) (fun _ i=>X.smo_give x i) (List.range k) T).len];omega)
end
theorem fits_rel (f:Nat→List UInt8) (l lg:List Nat) (h:X.fitsN l lg=true):fitsL (l.map f) (lg.map f)=true:=by
 induction l generalizing lg with
 | nil=>simp [fitsL]
 | cons a l ih =>
  cases lg with
  | nil=>simp [fitsL]
  | cons b lg =>
   have e1:X.fitsN (a::l) (b::lg)=((a==b)&&X.fitsN l lg):=rfl
   have e2:fitsL ((a::l).map f) ((b::lg).map f)=((f a==f b)&&fitsL (l.map f) (lg.map f)):=rfl
   rw [e1,Bool.and_eq_true,beq_iff_eq] at h
   rw [e2,h.1,ih _ h.2];simp
theorem longer_rel (f:Nat→List UInt8) (l lg:List Nat):longer (l.map f) (lg.map f)=(X.longer l lg).map f:=by
 unfold longer X.longer
 rw [List.length_map,List.length_map]
 split<;>rfl
section
variable {f:Nat→List UInt8} {T:X.Sys Nat} (hz:∀x,X.zN x=(f x).isEmpty)
include hz
theorem agreed_rel {s:Rp} {k:Dk} {c:X.Nd Nat} (h:Rel f s k c):agreedM s=(X.agreedL X.zN c).map f:=by
 unfold agreedM X.agreedL
 rw [h.u.log,h.u.agreed,←List.map_take,recs_rel hz]
theorem lookI_rel (h:SRel f S T) (m:Nat):∀(i:Nat) (lg:List Nat),i+m=T.nodes.length→(X.lookN (T.nodes.drop i) lg).1=true→lookI S m i (lg.map f)=(true,(X.lookN (T.nodes.drop i) lg).2.map f):=by
 induction m with
 | zero =>
  intro i lg hi _
  rw [List.drop_of_length_le (by omega)];rfl
 | succ m ih =>
  intro i lg hi hl
  have hlt:i<T.nodes.length:=by omega
  have e1:T.nodes.drop i=T.at i::T.nodes.drop (i+1):=by
   rw [List.drop_eq_getElem_cons hlt]
   congr 1
   unfold X.Sys.at
   rw [List.getD_eq_getElem?_getD,List.getElem?_eq_getElem hlt];rfl
  rw [e1] at hl ⊢
  obtain ⟨hu,hr⟩:=h.nd i hlt
  unfold X.lookN at hl ⊢
  unfold lookI
  rw [if_pos hu,agreed_rel hz hr]
  by_cases hfit:X.fitsN (X.agreedL X.zN (T.at i)) lg=true
  ·rw [if_pos hfit] at hl ⊢
   rw [if_pos (fits_rel f _ _ hfit),longer_rel]
   exact ih (i+1) _ (by omega) hl
  ·rw [if_neg hfit] at hl
   cases hl
theorem SRel.look (h:SRel f S T) (hn:T.nodes.length=n) (hl:T.look.1=true):(S.look n).1=true∧SRel f (S.look n).2 T.look.2:=by
 have h1:=lookI_rel hz h n 0 T.long (by omega) hl
 have e1:lookI S n 0 S.long=(true,(X.lookN T.nodes T.long).2.map f):=by rw [h.long];exact h1
 unfold Mn.look
 rw [e1]
 exact ⟨by rw [h.bad];rfl,⟨h.q,rfl,h.bad,h.len,h.nd⟩⟩
end
theorem crashes_at (keep:List Int) (k:Nat):∀(S:Mn),k≤S.nodes.length→∀j,((List.range k).foldl (fun S i=>S.crash i (keep.getD i 0)) S).at j=if j<k then ⟨(S.at j).s,crashD (S.at j).k (keep.getD j 0),false⟩ else S.at j:=by
 induction k with
 | zero=>intro S _ j;rw [if_neg (by omega)];rfl
 | succ k ih =>
  intro S hk j
  have hl:((List.range k).foldl (fun S i=>S.crash i (keep.getD i 0)) S).nodes.length=S.nodes.length:=by
   generalize List.range k=l
   clear ih hk
   induction l generalizing S with
   | nil=>rfl
   | cons a l ih=>rw [List.foldl_cons,ih];simp [Mn.crash,Mn.set]
  rw [List.range_succ,List.foldl_append]
  show (Mn.set _ k _).at j=_
  rw [Mn.at_set _ k j _ (by rw [hl];omega),ih S (by omega) j,ih S (by omega) k,if_neg (Nat.lt_irrefl k)]
  by_cases e:j=k
  ·subst e;rw [if_pos rfl,if_pos (by omega)]
  ·rw [if_neg e]
   by_cases e2:j<k
   ·rw [if_pos e2,if_pos (by omega)]
   ·rw [if_neg e2,if_neg (by omega)]
theorem crashes_same (keep:List Int) (k:Nat) (S:Mn):((List.range k).foldl (fun S i=>S.crash i (keep.getD i 0)) S).nodes.length=S.nodes.length∧((List.range k).foldl (fun S i=>S.crash i (keep.getD i 0)) S).long=S.long∧((List.range k).foldl (fun S i=>S.crash i (keep.getD i 0)) S).bad=S.bad:=by
 generalize List.range k=l
 induction l generalizing S with
 | nil=>exact ⟨rfl,rfl,rfl⟩
 | cons a l ih =>
  rw [List.foldl_cons]
  obtain ⟨h1,h2,h3⟩:=ih (S.crash a (keep.getD a 0))
  exact ⟨by rw [h1];simp [Mn.crash,Mn.set],h2,h3⟩
theorem backs_at (n k:Nat):∀(S:Mn),k≤S.nodes.length→(∀j,j<k→(S.at j).up=false)→∀j,((List.range k).foldl (fun S i=>S.back n i) S).at j=if j<k then ⟨backS j n (S.at j).s (S.at j).k,backK (S.at j).s (S.at j).k,true⟩ else S.at j:=by
 induction k with
 | zero=>intro S _ _ j;rw [if_neg (by omega)];rfl
 | succ k ih =>
  intro S hk hd j
  have hl:((List.range k).foldl (fun S i=>S.back n i) S).nodes.length=S.nodes.length:=by
   generalize List.range k=l
   clear ih hk hd
   induction l generalizing S with
   | nil=>rfl
   | cons a l ih =>
    rw [List.foldl_cons,ih]
    unfold Mn.back
    split
    ·rfl
    ·simp [Mn.set]
  have hk2:=ih S (by omega) (fun j hj=>hd j (by omega)) k
  rw [if_neg (Nat.lt_irrefl k)] at hk2
  rw [List.range_succ,List.foldl_append]
  have hb:∀V:Mn,(V.at k).up=false→V.back n k=V.set k ⟨backS k n (V.at k).s (V.at k).k,backK (V.at k).s (V.at k).k,true⟩:=fun V hV=>by
   unfold Mn.back;rw [hV];rfl
  show (Mn.back _ n k).at j=_
  rw [hb _ (by rw [hk2];exact hd k (by omega)),hk2]
  rw [Mn.at_set _ k j _ (by rw [hl];omega),ih S (by omega) (fun j hj=>hd j (by omega)) j]
  by_cases e:j=k
  ·subst e;rw [if_pos rfl,if_pos (by omega)]
  ·rw [if_neg e]
   by_cases e2:j<k
   ·rw [if_pos e2,if_pos (by omega)]
   ·rw [if_neg e2,if_neg (by omega)]
theorem backs_same (n k:Nat) (S:Mn):((List.range k).foldl (fun S i=>S.back n i) S).nodes.length=S.nodes.length∧((List.range k).foldl (fun S i=>S.back n i) S).long=S.long∧((List.range k).foldl (fun S i=>S.back n i) S).bad=S.bad∧((List.range k).foldl (fun S i=>S.back n i) S).q=S.q:=by
 generalize List.range k=l
 induction l generalizing S with
 | nil=>exact ⟨rfl,rfl,rfl,rfl⟩
 | cons a l ih =>
  rw [List.foldl_cons]
  obtain ⟨h1,h2,h3,h4⟩:=ih (S.back n a)
  have hb:(S.back n a).nodes.length=S.nodes.length∧(S.back n a).long=S.long∧(S.back n a).bad=S.bad∧(S.back n a).q=S.q:=by
   unfold Mn.back
   split
   ·exact ⟨rfl,rfl,rfl,rfl⟩
   ·exact ⟨by simp [Mn.set],rfl,rfl,rfl⟩
  exact ⟨h1.trans hb.1,h2.trans hb.2.1,h3.trans hb.2.2.1,h4.trans hb.2.2.2⟩
/-- all power goes and comes: nothing was lost but what's on its way -/
theorem SRel.again (h:SRel f S T) (hi:BInv n cl lv S) (keep:List Int):SRel f (backM n { crashM keep n S with q:=[]}) { T with nodes:=T.nodes.map X.back,q:=[]}:=by
 have hnl:=hi.sv.nl
 have hc:=crashes_same keep n S
 have hat:=crashes_at keep n S (by omega)
 have hat2:=backs_at n n { crashM keep n S with q:=[]} (by show n≤(crashM keep n S).nodes.length;rw [show (crashM keep n S).nodes.length=_ from hc.1];omega) (fun j hj=>by
  show ((crashM keep n S).at j).up=false
  rw [show (crashM keep n S).at j=_ from hat j,if_pos hj])
 have hs:=backs_same n n { crashM keep n S with q:=[]}
 refine ⟨hs.2.2.2,(hs.2.1.trans hc.2.1).trans h.long,(hs.2.2.1.trans hc.2.2).trans h.bad,?_,fun i hi2=>?_⟩
 ·rw [show (backM n { crashM keep n S with q:=[]}).nodes.length=_ from hs.1,show (crashM keep n S).nodes.length=_ from hc.1]
  simp [h.len]
 ·have hi3:i<T.nodes.length:=by simpa using hi2
  have hin:i<n:=by rw [h.len,hnl] at hi3;exact hi3
  obtain ⟨hu,hr⟩:=h.nd i hi3
  have e1:=hat2 i
  rw [if_pos hin] at e1
  have e2:({ crashM keep n S with q:=[]}:Mn).at i=⟨(S.at i).s,crashD (S.at i).k (keep.getD i 0),false⟩:=by
   have:=hat i
   rw [if_pos hin] at this
   exact this
  rw [e2] at e1
  rw [show (backM n { crashM keep n S with q:=[]}).at i=_ from e1]
  refine ⟨rfl,?_⟩
  have hb:=back_rel hr (hi.up i hin hu).1 (keep.getD i 0)
  rw [(hi.sv.id i hin).1,(hi.sv.id i hin).2] at hb
  have e3:({ T with nodes:=T.nodes.map X.back,q:=[]}:X.Sys ρ).at i=X.back (T.at i):=by
   unfold X.Sys.at
   simp only [List.getD_eq_getElem?_getD,List.getElem?_map,List.getElem?_eq_getElem hi3]
   rfl
  rw [e3]
  exact hb
end
end Go.Proofs.Ytnicaicjgaoolaa
namespace Go.Proofs.Ytnicaicjgaoolaa
set_option maxRecDepth 20000
namespace X
structure OneOk (n i:Nat) (T:Sys Nat):Prop where
 calm:(Sys.calm zN 0 n 10 (Sys.gives zN n (i+1) T)).1=true
 look:(Sys.calm zN 0 n 10 (Sys.gives zN n (i+1) T)).2.look.1=true
 long:(Sys.calm zN 0 n 10 (Sys.gives zN n (i+1) T)).2.look.2.long=(List.range (i+1)).map (· + 1)
theorem one_ok {n i:Nat} {T:Sys Nat} (h:(oneN n i T).1=true):OneOk n i T:=by
 have e:(oneN n i T).1=((Sys.calm zN 0 n 10 (Sys.gives zN n (i+1) T)).1&&((Sys.calm zN 0 n 10 (Sys.gives zN n (i+1) T)).2.look.1&&(Sys.calm zN 0 n 10 (Sys.gives zN n (i+1) T)).2.look.2.long==(List.range (i+1)).map (· + 1))):=rfl
 rw [e,Bool.and_eq_true,Bool.and_eq_true,beq_iff_eq] at h
 exact ⟨h.1,h.2.1,h.2.2⟩
theorem one_snd (n i:Nat) (T:Sys Nat):(oneN n i T).2=(Sys.calm zN 0 n 10 (Sys.gives zN n (i+1) T)).2.look.2:=rfl
theorem smo_one (n i:Nat) (T:Sys Nat):SMo T (oneN n i T).2:=by
 rw [one_snd]
 have h:SMo T (Sys.calm zN 0 n 10 (Sys.gives zN n (i+1) T)).2:=(smo_gives n (i+1)).trans (smo_calm n 10 _)
 exact ⟨h.len,h.mo⟩
def again (T:Sys Nat):Sys Nat:={ T with nodes:=T.nodes.map back,q:=[]}
theorem smo_again (T:Sys Nat):SMo T (again T):=by
 refine ⟨by simp [again],fun i=>?_⟩
 by_cases hi:i<T.nodes.length
 ·have e3:(again T).at i=back (T.at i):=by
   unfold again Sys.at
   simp only [List.getD_eq_getElem?_getD,List.getElem?_map,List.getElem?_eq_getElem hi]
   rfl
  rw [e3];exact mo_back
 ·have e3:(again T).at i=T.at i:=by
   unfold again Sys.at
   simp only [List.getD_eq_getElem?_getD]
   rw [List.getElem?_eq_none (by simp;omega),List.getElem?_eq_none (by omega)]
  rw [e3];exact Mo.refl _
def end1 (n:Nat) (T:Sys Nat):Bool×Sys Nat:=Sys.calm zN 0 n 60 (again T)
structure EndOk (n R:Nat) (T:Sys Nat):Prop where
 calm:(end1 n T).1=true
 look:(end1 n T).2.look.1=true
 one:OneOk n R (end1 n T).2.look.2
 fine:Fine (oneN n R (end1 n T).2.look.2).2
theorem fine_of {T:Sys Nat} (h:T.fine=true):Fine T:=by
 intro i hi
 unfold Sys.fine at h
 rw [List.all_eq_true] at h
 have h1:=h (T.at i) (by
  unfold Sys.at
  rw [List.getD_eq_getElem?_getD,List.getElem?_eq_getElem hi]
  exact List.getElem_mem hi)
 simpa using h1
theorem end_ok {n R:Nat} {T:Sys Nat} (h:endN n R T=true):EndOk n R T:=by
 have e:endN n R T=((end1 n T).1&&((end1 n T).2.look.1&&((oneN n R (end1 n T).2.look.2).1&&(oneN n R (end1 n T).2.look.2).2.fine))):=rfl
 rw [e,Bool.and_eq_true,Bool.and_eq_true,Bool.and_eq_true] at h
 exact ⟨h.1,h.2.1,one_ok h.2.2.1,fine_of h.2.2.2⟩
theorem EndOk.back {n R:Nat} {T:Sys Nat} (h:EndOk n R T):Fine (end1 n T).2.look.2∧Fine (end1 n T).2∧Fine T:=by
 have h1:=(smo_one n R _).fine h.fine
 have h2:Fine (end1 n T).2:=h1
 exact ⟨h1,h2,(smo_again T).fine ((smo_calm n 60 _).fine h2)⟩
theorem all_ok (n:Nat):∀m,(allN n m).1=true→(∀i,i<m→OneOk n i (manyN n i).2)∧(∀i,i≤m→EndOk n i (manyN n i).2)∧(Sys.calm zN 0 n 60 (Sys.begun n)).1=true∧(allN n m).2=(manyN n m).2:=by
 intro m
 induction m with
 | zero =>
  intro h
  have e:(allN n 0).1=((manyN n 0).1&&endN n 0 (manyN n 0).2):=rfl
  rw [e,Bool.and_eq_true] at h
  refine ⟨fun i hi=>by omega,fun i hi=>?_,h.1,rfl⟩
  obtain rfl:i=0:=by omega
  exact end_ok h.2
 | succ m ih =>
  intro h
  have e:(allN n (m+1)).1=((allN n m).1&&((oneN n m (allN n m).2).1&&endN n (m+1) (oneN n m (allN n m).2).2)):=rfl
  have e2:(allN n (m+1)).2=(oneN n m (allN n m).2).2:=rfl
  rw [e,Bool.and_eq_true,Bool.and_eq_true] at h
  obtain ⟨h1,h2,h3⟩:=h
  obtain ⟨i1,i2,i3,i4⟩:=ih h1
  rw [i4] at h2 h3 e2
  refine ⟨fun i hi=>?_,fun i hi=>?_,i3,e2⟩
  ·by_cases e:i=m
   ·subst e;exact one_ok h2
   ·exact i1 i (by omega)
  ·by_cases e:i=m+1
   ·subst e;exact end_ok h3
   ·exact i2 i (by omega)
end X
/-- the records that are told of by their places; the last comes last -/
def recX (R:List (List UInt8)) (x:Nat):List UInt8:=if x=0 then [] else if 1≤(R.getD (x - 1) [0]).length∧(R.getD (x - 1) [0]).length≤300 then R.getD (x - 1) [0] else [0]
theorem recX_len (R:List (List UInt8)) (x:Nat):(recX R x).length≤300:=by
 unfold recX;split
 ·simp
 ·split<;>simp_all
theorem recX_ne (R:List (List UInt8)) (x:Nat):X.zN x=(recX R x).isEmpty:=by
 unfold recX X.zN
 by_cases h:x=0
 ·subst h;rfl
 ·rw [if_neg h]
  have e:(x==0)=false:=by simpa using h
  rw [e]
  split
  ·rename_i h2
   cases hr:R.getD (x - 1) [0] with
   | nil=>rw [hr] at h2;simp at h2
   | cons a l=>rfl
  ·rfl
section
variable {f:Nat→List UInt8} {n i cl lv:Nat} {S:Mn} {T:X.Sys Nat}
/-- what one round with a record comes to -/
structure OneM (f:Nat→List UInt8) (n i cl lv:Nat) (S:Mn) (T:X.Sys Nat):Prop where
 calm:(Mn.calm n 10 (givesM n (f (i+1)) S)).1=true
 look:((Mn.calm n 10 (givesM n (f (i+1)) S)).2.look n).1=true
 long:(oneM n (f (i+1)) S).long=(List.range (i+1)).map fun j=>f (j+1)
 rel:SRel f (oneM n (f (i+1)) S) (X.oneN n i T).2
 inv:BInv n (cl+10*n) (lv+n) (oneM n (f (i+1)) S)
theorem one_m (hz:∀x,X.zN x=(f x).isEmpty) (hf:∀x,(f x).length≤300) (h:SRel f S T) (hi:BInv n cl lv S) (ho:X.OneOk n i T) (hF:X.Fine (X.oneN n i T).2):OneM f n i cl lv S T:=by
 have he:f 0=[]:=by have:=hz 0;cases hf0:f 0 with
  | nil=>rfl
  | cons a l=>rw [hf0] at this;cases this
 have hn:T.nodes.length=n:=h.len.trans hi.sv.nl
 have hF1:X.Fine (X.Sys.calm X.zN 0 n 10 (X.Sys.gives X.zN n (i+1) T)).2:=hF
 have hF2:=(X.smo_calm n 10 _).fine hF1
 have h1:SRel f (givesM n (f (i+1)) S) (X.Sys.gives X.zN n (i+1) T):=SRel.gives hz (i+1) (hf _) rfl n h hF2 (by omega)
 have hb1:=hi.gives (f (i+1)) n (Nat.le_refl _)
 have h2:=SRel.calm hz he hf 10 h1 hb1 hF1
 have hn2:(X.Sys.calm X.zN 0 n 10 (X.Sys.gives X.zN n (i+1) T)).2.nodes.length=n:=by
  rw [(X.smo_calm n 10 _).len,(X.smo_gives n (i+1)).len];exact hn
 have h3:=SRel.look hz h2.2 hn2 ho.look
 refine ⟨h2.1.trans ho.calm,h3.1,?_,h3.2,hi.one _⟩
 have e:(oneM n (f (i+1)) S).long=(X.Sys.calm X.zN 0 n 10 (X.Sys.gives X.zN n (i+1) T)).2.look.2.long.map f:=h3.2.long
 rw [e,ho.long,List.map_map];rfl
theorem begun_rel (n:Nat):SRel f (Mn.begun n) (X.Sys.begun n):=by
 refine ⟨rfl,rfl,rfl,by simp [Mn.begun,X.Sys.begun],fun i hi=>?_⟩
 have hi2:i<n:=by simpa [X.Sys.begun] using hi
 rw [begun_at n i hi2]
 have e:(X.Sys.begun n:X.Sys Nat).at i=X.new i n:=by
  unfold X.Sys.begun X.Sys.at
  simp [List.getD_eq_getElem?_getD,hi2]
 rw [e]
 exact ⟨rfl,⟨⟨rfl,rfl,rfl,rfl,rfl,rfl,rfl,rfl,rfl,rfl,rfl,rfl,rfl,rfl,rfl,rfl,rfl,rfl,rfl,rfl,by show dk0.total≤_;rw [show dk0.total=0 from rfl];exact Nat.zero_le _⟩,fun l q e=>by cases e⟩⟩
def mrM (n:Nat) (f:Nat→List UInt8) (j:Nat):Mn:=(List.range j).foldl (fun S i=>oneM n (f (i+1)) S) (Mn.calm n 60 (Mn.begun n)).2
theorem mr_succ (n:Nat) (f:Nat→List UInt8) (j:Nat):mrM n f (j+1)=oneM n (f (j+1)) (mrM n f j):=by
 unfold mrM;rw [List.range_succ,List.foldl_append];rfl
section
variable (hz:∀x,X.zN x=(f x).isEmpty) (hf:∀x,(f x).length≤300) (hn1:1≤n) (hn5:n≤5) (hr:(X.allN n 10).1=true)
include hz hf hn1 hn5 hr
theorem mr_start:(Mn.calm n 60 (Mn.begun n)).1=true∧SRel f (mrM n f 0) (X.manyN n 0).2∧BInv n (0+60*n) 1 (mrM n f 0):=by
 obtain ⟨a1,a2,a3,a4⟩:=X.all_ok n 10 hr
 have he:f 0=[]:=by have:=hz 0;cases hf0:f 0 with
  | nil=>rfl
  | cons a l=>rw [hf0] at this;cases this
 have hb:=binv_begun n hn1 hn5
 have hF:X.Fine (X.Sys.calm X.zN 0 n 60 (X.Sys.begun n)).2:=(a2 0 (by omega)).back.2.2
 have h:=SRel.calm hz he hf 60 (begun_rel (f:=f) n) hb hF
 exact ⟨h.1.trans a3,h.2,hb.calm 60⟩
theorem mr_ok (j:Nat) (hj:j≤10):SRel f (mrM n f j) (X.manyN n j).2∧BInv n (60*n+j*(10*n)) (1+j*n) (mrM n f j):=by
 induction j with
 | zero =>
  obtain ⟨_,h1,h2⟩:=mr_start hz hf hn1 hn5 hr
  exact ⟨h1,h2.mono (by omega) (by omega)⟩
 | succ j ih =>
  obtain ⟨h1,h2⟩:=ih (by omega)
  obtain ⟨a1,a2,a3,a4⟩:=X.all_ok n 10 hr
  have h:=one_m hz hf h1 h2 (a1 j (by omega)) (a2 (j+1) (by omega)).back.2.2
  rw [mr_succ]
  refine ⟨h.rel,h.inv.mono ?_ ?_⟩
  ·have:=Nat.succ_mul j (10*n);have e:(j+1)*(10*n)=j*(10*n)+10*n:=this;omega
  ·have:=Nat.succ_mul j n;have e:(j+1)*n=j*n+n:=this;omega
theorem mr_step (j:Nat) (hj:j<10):OneM f n j (60*n+j*(10*n)) (1+j*n) (mrM n f j) (X.manyN n j).2:=by
 obtain ⟨h1,h2⟩:=mr_ok hz hf hn1 hn5 hr j (by omega)
 obtain ⟨a1,a2,a3,a4⟩:=X.all_ok n 10 hr
 exact one_m hz hf h1 h2 (a1 j (by omega)) (a2 (j+1) (by omega)).back.2.2
/-- all power goes and comes -/
theorem mr_end (j:Nat) (hj:j≤10) (keep:List Int):(Mn.calm n 60 (backM n { crashM keep n (mrM n f j) with q:=[]})).1=true∧((Mn.calm n 60 (backM n { crashM keep n (mrM n f j) with q:=[]})).2.look n).1=true ∧
  ∃T,OneM f n j 2000 200 ((Mn.calm n 60 (backM n { crashM keep n (mrM n f j) with q:=[]})).2.look n).2 T∧BInv n 2000 200 ((Mn.calm n 60 (backM n { crashM keep n (mrM n f j) with q:=[]})).2.look n).2∧∀i,i<n→(((Mn.calm n 60 (backM n { crashM keep n (mrM n f j) with q:=[]})).2.look n).2.at i).up=true:=by
 obtain ⟨h1,h2⟩:=mr_ok hz hf hn1 hn5 hr j hj
 obtain ⟨a1,a2,a3,a4⟩:=X.all_ok n 10 hr
 have he:f 0=[]:=by have:=hz 0;cases hf0:f 0 with
  | nil=>rfl
  | cons a l=>rw [hf0] at this;cases this
 have hE:=a2 j hj
 have h3:=SRel.again h1 h2 keep
 have hb3:=h2.crashes keep n (Nat.le_refl _)
 have hb4:=(hb3.ofq (q:=[]) (fun m hm=>by cases hm) (by simp)).backs n (Nat.le_refl _)
 have h4:=SRel.calm hz he hf 60 (T:=X.again (X.manyN n j).2) h3 hb4 hE.back.2.1
 have hb5:=hb4.calm 60
 have hn4:(X.end1 n (X.manyN n j).2).2.nodes.length=n:=h4.2.len.trans hb5.sv.nl
 have h5:=SRel.look hz h4.2 hn4 hE.look
 have hk1:j*(10*n)≤10*(10*5):=Nat.mul_le_mul hj (by omega)
 have hk2:j*n≤10*5:=Nat.mul_le_mul hj hn5
 have hb6:BInv n 2000 200 ((Mn.calm n 60 (backM n { crashM keep n (mrM n f j) with q:=[]})).2.look n).2:=by
  have:=hb5.mono (cl':=2000) (lv':=200) (by omega) (by omega)
  exact ⟨⟨this.sv.nl,this.sv.id,this.sv.wf,this.sv.q,this.sv.ql⟩,this.n1,this.n5,this.up,this.dn,this.liv,this.gn⟩
 exact ⟨h4.1.trans hE.calm,h5.1,_,one_m hz hf h5.2 hb6 hE.one hE.fine,hb6,fun i hi=>(h5.2.nd i (by rw [h5.2.len,hb6.sv.nl];exact hi)).1⟩
end
end
end Go.Proofs.Ytnicaicjgaoolaa
