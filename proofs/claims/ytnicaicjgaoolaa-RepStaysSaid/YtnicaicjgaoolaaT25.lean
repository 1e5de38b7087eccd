/-
  What the proof of the law leans on: contracts of the program's functions, one behind another. No condition.
-/
import Derived.Test.YtnicaicjgaoolaaT18
import Derived.Test.YtnicaicjgaoolaaT17
import Derived.Test.YtnicaicjgaoolaaT1
import Derived.Test.YtnicaicjgaoolaaT3
import Derived.Test.YtnicaicjgaoolaaT24
import Derived.Test.YtnicaicjgaoolaaT11
set_option linter.unusedVariables false
set_option linter.unusedSimpArgs false
namespace Go.Proofs.Ytnicaicjgaoolaa
open Go.RowKit Go.ChangeMaps Go.WideMaps Go.Maps
set_option maxRecDepth 20000
/-- a replica, its disk, is it up -/
structure Nod where
 s:Rp
 k:Dk
 up:Bool
structure Mn where
 nodes:List Nod
 q:List Msg
 long:List (List UInt8)
 bad:Bool
 gn:Nat
def rp0:Rp:=rpNew 0 1 0 []
def nod0:Nod:=⟨rp0,⟨0,true,0,none⟩,false⟩
def Mn.at (S:Mn) (i:Nat):Nod:=S.nodes.getD i nod0
/-- a node: up: all of it; down: its disk -/
structure NodeAt (w:World) (A X:List Nat) (r d l:Nat) (nd:Nod):Prop where
 up:nd.up=true→Nd w A X r d l nd.s nd.k
 dn:nd.up=false→IsDk w X d nd.k
 xA:∀b∈X,b∈A
theorem Nd.keepS {w w':World} {A A' X S:List Nat} {r d l:Nat} {s:Rp} {k:Dk} (h:Nd w A X r d l s k) (ho:Only S w w') (hS:∀b∈S,b∈A) (hd:∀b∈X,b∉S) (he:Ext A A' w) (hs:∀b∈A,b∈A') (ha:∀b∈A',b<w'.heap.size):Nd w' A' X r d l s k:=by
 obtain ⟨D,L,R,vl,gv,gn,gm,gh,h,hX⟩:=h
 have hD:∀b∈D,b∉S:=fun b hb=>hd b ((hX b).2 (.inl hb))
 have hL:∀b∈L,b∉S:=fun b hb=>hd b ((hX b).2 (.inr (.inl hb)))
 have hR:∀b∈R,b∉S:=fun b hb=>hd b ((hX b).2 (.inr (.inr hb)))
 exact ⟨D,L,R,vl,gv,gn,gm,gh,⟨⟨h.wd.wl.keep ho hL hS he,h.wd.dk.keep ho hD,h.wd.dis,fun b hb=>hs b (h.wd.dA b hb),fun b hb=>hs b (h.wd.lA b hb),ha⟩,
  ho.keeps h.cell (hR _ h.rR),h.log.step ho hS he,ho.keeps h.votes (hR _ h.vR),ho.keeps h.next (hR _ h.nR),ho.keeps h.mat (hR _ h.mR),ho.keeps h.heard (hR _ h.hR),h.nm,h.rR,h.vR,h.nR,h.mR,h.hR,h.dRD,h.dRL,fun b hb=>hs b (h.rA b hb)⟩,hX⟩
theorem NodeAt.keep {w w':World} {A A' X S:List Nat} {r d l:Nat} {nd:Nod} (h:NodeAt w A X r d l nd) (ho:Only S w w') (hS:∀b∈S,b∈A) (hd:∀b∈X,b∉S) (he:Ext A A' w) (hs:∀b∈A,b∈A') (ha:∀b∈A',b<w'.heap.size):NodeAt w' A' X r d l nd :=
 ⟨fun hu=>(h.up hu).keepS ho hS hd he hs ha,fun hu=>(h.dn hu).keep ho hd,fun b hb=>hs b (h.xA b hb)⟩
def ptrV (p:Nat):Value:=.pointer (some ⟨p,0,none⟩)
def ptrs (f:Nat→Nat) (n:Nat):List Value:=(List.range n).map fun i=>ptrV (f i)
structure SyC (w:World) (A Y:List Nat) (c n:Nat) (S:Mn) (rs ds ls:Nat→Nat) (Xs:Nat→List Nat) (vr vd:Value) (gu:Nat) (qv gv lv:Value):Prop where
 cell:w.heap[c]? = some (.cells #[vr,vd,.slice (some ⟨gu,0,none⟩) n n,qv,gv,lv,.bool S.bad] 38 (0,0))
 rr:w.ownsRow 0 39 1 vr n (ptrs rs n)
 dr:w.ownsRow 0 54 1 vd n (ptrs ds n)
 up:w.heap[gu]? = some (.cells (boolsA (S.nodes.map Nod.up)) 4 (0,0))
 node:∀i,i<n→NodeAt w A (Xs i) (rs i) (ds i) (ls i) (S.at i)
 q:IsQ w A Y qv S.q
 gave:∃vs,w.ownsRow 0 29 1 gv S.gn vs
 long:ImmL w A lv S.long
 nl:S.nodes.length=n
 n5:n≤5
 cY:c∈Y
 rY:∀b,vr.ownBlock=some b→b∈Y
 dY:∀b,vd.ownBlock=some b→b∈Y
 uY:gu∈Y
 gY:∀b,gv.ownBlock=some b→b∈Y
 yx:∀i,i<n→Dis Y (Xs i)
 xx:∀i j,i<n→j<n→i≠j→Dis (Xs i) (Xs j)
 yA:∀b∈Y,b∈A
 alt:∀b∈A,b<w.heap.size
/-- the law's own, with all that it may turn at Z -/
structure Sy (w:World) (A Z:List Nat) (c n:Nat) (S:Mn):Prop where
 ex:∃Y rs ds ls Xs vr vd gu qv gv lv,SyC w A Y c n S rs ds ls Xs vr vd gu qv gv lv∧∀b,b∈Z↔b∈Y∨∃i,i<n∧b∈Xs i
structure SyP (w w':World) (A Z:List Nat) (c n:Nat) (S:Mn):Prop where
 ex:∃A' Z',Sy w' A' Z' c n S∧Mv A A' Z Z' w w'
section
variable {w w':World} {A A' Y Z Z':List Nat} {c n:Nat} {S:Mn} {rs ds ls:Nat→Nat} {Xs:Nat→List Nat} {vr vd:Value} {gu:Nat} {qv gv lv:Value}
theorem SyP.trans {w'':World} {S':Mn} (m:Mv A A' Z Z' w w') (h:SyP w' w'' A' Z' c n S'):SyP w w'' A Z c n S':=by
 obtain ⟨A2,Z2,h,m2⟩:=h
 exact ⟨A2,Z2,h,m.trans m2⟩
/-- what turns none of it -/
theorem SyC.keep {T:List Nat} (h:SyC w A Y c n S rs ds ls Xs vr vd gu qv gv lv) (ho:Only T w w') (hT:∀b∈T,b∈A) (hY:∀b∈Y,b∉T) (hX:∀i,i<n→∀b∈Xs i,b∉T) (he:Ext A A' w) (hs:∀b∈A,b∈A') (ha:∀b∈A',b<w'.heap.size):SyC w' A' Y c n S rs ds ls Xs vr vd gu qv gv lv:=by
 obtain ⟨vs,g1⟩:=h.gave
 exact ⟨ho.keeps h.cell (hY _ h.cY),rows_only0 h.rr ho (fun b hb=>hY _ (h.rY b hb)),rows_only0 h.dr ho (fun b hb=>hY _ (h.dY b hb)),ho.keeps h.up (hY _ h.uY),fun i hi=>(h.node i hi).keep ho hT (hX i hi) he hs ha,
  h.q.keep ho hT (fun b hb _ _=>hY b hb) he (fun b hb=>hb),⟨vs,rows_only0 g1 ho (fun b hb=>hY _ (h.gY b hb))⟩,h.long.step ho hT he,h.nl,h.n5,h.cY,h.rY,h.dY,h.uY,h.gY,h.yx,h.xx,fun b hb=>hs b (h.yA b hb),ha⟩
theorem SyC.below (h:SyC w A Y c n S rs ds ls Xs vr vd gu qv gv lv) (hb:Below w.heap.size w w'):SyC w' A Y c n S rs ds ls Xs vr vd gu qv gv lv :=
 h.keep (Only.ofBelow hb []) (fun b hb=>by cases hb) (fun b _=>by simp) (fun i _ b _=>by simp) (Ext.refl _ _) (fun b hb=>hb) (fun b hb2=>Nat.lt_of_lt_of_le (h.alt b hb2) hb.size)
theorem Sy.below (h:Sy w A Z c n S) (hb:Below w.heap.size w w'):Sy w' A Z c n S:=by
 obtain ⟨Y,rs,ds,ls,Xs,vr,vd,gu,qv,gv,lv,h,hz⟩:=h
 exact ⟨Y,rs,ds,ls,Xs,vr,vd,gu,qv,gv,lv,h.below hb,hz⟩
def setF {β:Type} (f:Nat→β) (i:Nat) (x:β):Nat→β:=fun j=>if j=i then x else f j
theorem setF_eq {β:Type} (f:Nat→β) (i:Nat) (x:β):setF f i x i=x:=if_pos rfl
theorem setF_ne {β:Type} (f:Nat→β) {i j:Nat} (x:β) (h:j≠i):setF f i x j=f j:=if_neg h
def Mn.set (S:Mn) (i:Nat) (nd:Nod):Mn:={ S with nodes:=S.nodes.set i nd }
theorem Mn.at_set (S:Mn) (i j:Nat) (nd:Nod) (hi:i<S.nodes.length):(S.set i nd).at j=if j=i then nd else S.at j:=by
 unfold Mn.set Mn.at
 simp only [List.getD_eq_getElem?_getD,List.getElem?_set]
 by_cases h:j=i
 ·subst h
  rw [if_pos rfl,if_pos rfl,if_pos hi];rfl
 ·rw [if_neg h,if_neg (Ne.symm h)]
theorem setF_self {β:Type} (f:Nat→β) (i:Nat):setF f i (f i)=f:=by
 funext j;unfold setF;split
 ·rename_i h;rw [h]
 ·rfl
/-- a call of one of its nodes -/
theorem SyC.call {X':List Nat} {i:Nat} {nd:Nod} (h:SyC w A Y c n S rs ds ls Xs vr vd gu qv gv lv) (hi:i<n) (hm:Mv A A' (Xs i) X' w w') (hn:NodeAt w' A' X' (rs i) (ds i) (ls i) nd) (hu:nd.up=(S.at i).up) (ha:∀b∈A',b<w'.heap.size) :
  SyC w' A' Y c n (S.set i nd) rs ds ls (setF Xs i X') vr vd gu qv gv lv:=by
 have hT:∀b∈Xs i,b∈A:=(h.node i hi).xA
 have hY:∀b∈Y,b∉Xs i:=h.yx i hi
 have ho:=hm.mv.only
 obtain ⟨vs,g1⟩:=h.gave
 have hnew:∀P:List Nat,(∀b∈P,b∈A)→Dis P (Xs i)→Dis P X':=fun P hP hd b hb hx=>by
  rcases hm.mv.gr b hx with h1 | h1
  ·exact hd b hb h1
  ·have:=h.alt b (hP b hb);omega
 refine ⟨?_,rows_only0 h.rr ho (fun b hb=>hY _ (h.rY b hb)),rows_only0 h.dr ho (fun b hb=>hY _ (h.dY b hb)),?_,fun j hj=>?_,
  h.q.keep ho hT (fun b hb _ _=>hY b hb) hm.ext (fun b hb=>hb),⟨vs,rows_only0 g1 ho (fun b hb=>hY _ (h.gY b hb))⟩,h.long.step ho hT hm.ext,by simp [Mn.set,h.nl],h.n5,h.cY,h.rY,h.dY,h.uY,h.gY,fun j hj=>?_,fun j1 j2 h1 h2 hne=>?_,fun b hb=>hm.sub b (h.yA b hb),ha⟩
 ·exact ho.keeps h.cell (hY _ h.cY)
 ·have e:(S.set i nd).nodes.map Nod.up=S.nodes.map Nod.up:=by
   unfold Mn.set
   simp only [List.map_set]
   rw [hu]
   have hl:i<(S.nodes.map Nod.up).length:=by rw [List.length_map,h.nl];exact hi
   have e2:(S.at i).up=(S.nodes.map Nod.up)[i]:=by
    unfold Mn.at
    have hl2:i<S.nodes.length:=by rw [h.nl];exact hi
    simp [List.getD_eq_getElem?_getD,hl2]
   rw [e2,List.set_getElem_self]
  rw [e]
  exact ho.keeps h.up (hY _ h.uY)
 ·rw [Mn.at_set _ _ _ _ (by rw [h.nl];exact hi)]
  by_cases hji:j=i
  ·subst hji
   rw [if_pos rfl,setF_eq]
   exact hn
  ·rw [if_neg hji,setF_ne _ _ hji]
   exact (h.node j hj).keep ho hT (h.xx j i hj hi hji) hm.ext hm.sub ha
 ·by_cases hji:j=i
  ·subst hji
   rw [setF_eq]
   exact hnew Y h.yA (h.yx j hj)
  ·rw [setF_ne _ _ hji]
   exact h.yx j hj
 ·by_cases e1:j1=i
  ·subst e1
   have e2:j2≠j1:=fun e=>hne e.symm
   rw [setF_eq,setF_ne _ _ e2]
   exact (hnew (Xs j2) (h.node j2 h2).xA (h.xx j2 j1 h2 h1 e2)).symm
  ·by_cases e2:j2=i
   ·subst e2
    rw [setF_eq,setF_ne _ _ e1]
    exact hnew (Xs j1) (h.node j1 h1).xA (h.xx j1 j2 h1 h2 hne)
   ·rw [setF_ne _ _ e1,setF_ne _ _ e2]
    exact h.xx j1 j2 h1 h2 hne
/-- the whole's footprint behind a call of a node -/
theorem mv_call {X':List Nat} {i:Nat} (hi:i<n) (hz:∀b,b∈Z↔b∈Y∨∃i,i<n∧b∈Xs i) (hm:Mv A A' (Xs i) X' w w'):∃Z',(∀b,b∈Z'↔b∈Y∨∃j,j<n∧b∈setF Xs i X' j)∧Mv A A' Z Z' w w':=by
 refine ⟨Z++X',fun b=>?_,⟨⟨hm.mv.only.mono (fun b hb=>(hz b).2 (.inr ⟨i,hi,hb⟩)),fun b hb=>?_,fun b hb=>List.mem_append_left _ hb⟩,hm.ext,hm.sub⟩⟩
 ·rw [List.mem_append,hz b]
  constructor
  ·rintro ((h1 | ⟨j,hj,hb⟩) | h1)
   ·exact .inl h1
   ·by_cases e:j=i
    ·subst e
     exact .inr ⟨j,hj,by rw [setF_eq];exact hm.mv.sub b hb⟩
    ·exact .inr ⟨j,hj,by rw [setF_ne _ _ e];exact hb⟩
   ·exact .inr ⟨i,hi,by rw [setF_eq];exact h1⟩
  ·rintro (h1 | ⟨j,hj,hb⟩)
   ·exact .inl (.inl h1)
   ·by_cases e:j=i
    ·subst e
     rw [setF_eq] at hb
     exact .inr hb
    ·rw [setF_ne _ _ e] at hb
     exact .inl (.inr ⟨j,hj,hb⟩)
 ·rcases List.mem_append.1 hb with h1 | h1
  ·exact .inl h1
  ·rcases hm.mv.gr b h1 with h2 | h2
   ·exact .inl ((hz b).2 (.inr ⟨i,hi,h2⟩))
   ·exact .inr h2
end
end Go.Proofs.Ytnicaicjgaoolaa
namespace Go.Proofs.Ytnicaicjgaoolaa
open Go.RowKit Go.ChangeMaps Go.WideMaps Go.Maps
set_option maxRecDepth 20000
section
variable {w w':World} {A A' Y Z Z':List Nat} {c n:Nat} {S:Mn} {rs ds ls:Nat→Nat} {Xs:Nat→List Nat} {vr vd:Value} {gu:Nat} {qv gv lv:Value}
theorem ImmI.less {v:Value} {l:List Int} (h:ImmI w A' v l) (hs:∀b∈A,b∈A'):ImmI w A v l:=by
 obtain ⟨ao,c,h1,h2,h3,h4,h5⟩:=h
 exact ⟨ao,c,h1,h2,h3,h4,fun p hp=>⟨fun hm=>(h5 p hp).1 (hs _ hm),(h5 p hp).2⟩⟩
theorem ImmL.less {v:Value} {ls:List (List UInt8)} (h:ImmL w A' v ls) (hs:∀b∈A,b∈A'):ImmL w A v ls:=by
 rcases h with h | ⟨g,c,cur,h1,h2,h3,h4,h5,h6⟩
 ·exact .inl h
 ·refine .inr ⟨g,c,cur,h1,h2,h3,fun hm=>h4 (hs _ hm),h5,fun i hi=>?_⟩
  obtain ⟨u,k1,k2⟩:=h6 i hi
  exact ⟨u,k1,k2.mono hs⟩
theorem IsMsg.less {m:Msg} {v u:Value} (h:IsMsg w A' m v u) (hs:∀b∈A,b∈A'):IsMsg w A m v u:=⟨h.n.less hs,h.b.less hs⟩
/-- messages in a row that is only read -/
def MsRow (w:World) (A:List Nat) (v:Value) (ms:List Msg):Prop :=
 (v = .slice none 0 0∧ms=[])∨∃g c cur,v = .slice (some ⟨g,0,none⟩) ms.length c∧ms.length≤c∧c≤9223372036854775807∧g∉A∧w.heap[g]? = some (.cells cur 51 (0,0))∧∀i,(h:i<ms.length)→QAt w A cur i ms[i]
theorem MsRow.step {v:Value} {ms:List Msg} {T:List Nat} (h:MsRow w A v ms) (ho:Only T w w') (hT:∀b∈T,b∈A) (he:Ext A A' w):MsRow w' A' v ms:=by
 rcases h with h | ⟨g,c,cur,h1,h2,h3,h4,h5,h6⟩
 ·exact .inl h
 ·refine .inr ⟨g,c,cur,h1,h2,h3,fun hm=>?_,ho.keeps h5 (fun hm=>h4 (hT _ hm)),fun i hi=>(h6 i hi).step ho hT he⟩
  rcases he g hm with h7 | h7
  ·exact h4 h7
  ·have:=lt_of_heap h5;omega
theorem OwnMs.row {base:Nat} {v:Value} {ms:List Msg} (h:OwnMs w A base v ms) (hv:∀b,v.ownBlock=some b→b∉A):MsRow w A v ms:=by
 obtain ⟨ps,h1,h2,h3⟩:=h
 have hl:ps.length=ms.length:=by rw [←h1,List.length_map]
 rcases h2.2 with ⟨rfl,h0⟩ | ⟨g,cap,cur,rfl,hg,hh,hn,hm,hs,ht⟩
 ·exact .inl ⟨rfl,List.length_eq_zero_iff.1 h0⟩
 ·unfold maxLen at hm
  refine .inr ⟨g,cap,cur,rfl,hn,by omega,hv g rfl,hh,fun i hi=>?_⟩
  have hp:ps.getD i ms0∈ps:=by
   have e:ps.getD i ms0=ps[i]'(by omega):=by simp [List.getD,show i<ps.length by omega]
   rw [e];exact List.getElem_mem _
  have hm2:(ps.getD i ms0).m=ms[i]:=by
   have e:ps.getD i ms0=ps[i]'(by omega):=by simp [List.getD,show i<ps.length by omega]
   rw [e]
   simp [←h1]
  have hc:∀j,j<5→cur[i*5+j]? = (cells5 (ps.getD i ms0))[j]? := fun j hj=>by
   rw [←row5_at ps i j (by omega) hj,←ht,List.getElem?_take,if_pos (by omega),Array.getElem?_toList]
  refine ⟨(ps.getD i ms0).v,(ps.getD i ms0).u,?_,?_,?_,?_,?_,?_⟩
  ·rw [←hm2];exact hc 0 (by omega)
  ·rw [←hm2];exact hc 1 (by omega)
  ·rw [←hm2];exact hc 2 (by omega)
  ·exact hc 3 (by omega)
  ·exact hc 4 (by omega)
  ·rw [←hm2];exact (h3 _ hp).less (fun b hb=>List.mem_append_left _ hb)
def addQ (q:List Msg) (m:Msg):List Msg:=if q.length<2000 then q++[m] else q
def Mn.send (S:Mn) (ms:List Msg):Mn:={ S with q:=ms.foldl addQ S.q }
theorem addQ_len (q:List Msg) (m:Msg) (h:q.length≤2000):(addQ q m).length≤2000:=by
 unfold addQ
 split
 ·simp;omega
 ·exact h
theorem send_len (q:List Msg) (ms:List Msg) (h:q.length≤2000):(ms.foldl addQ q).length≤2000:=by
 induction ms generalizing q with
 | nil=>exact h
 | cons a l ih=>exact ih _ (addQ_len q a h)
/-- the queue's new value is laid into its cell -/
theorem SyC.setq {q:List Msg} {v':Value} (h:SyC w A Y c n S rs ds ls Xs vr vd gu qv gv lv) (hz:∀b,b∈Z↔b∈Y∨∃i,i<n∧b∈Xs i) (hp:QP w w' A Y v' q) :
  SyP w (w'.setCell ⟨c,3,none⟩ v') A Z c n { S with q:=q }:=by
 obtain ⟨A',Y',hq,hm,ha,hyA,hyn,T,hoT,hT⟩:=hp
 have hTA:∀b∈T,b∈A:=fun b hb=>h.yA b (hT b hb).1
 have hne:∀{b:Nat} {cs:Array Value} {t:TypeId},w.heap[b]? = some (.cells cs t (0,0))→t≠51→b∉T:=fun {b cs t} hb ht hm=>by
  obtain ⟨_,cur,hc⟩:=hT b hm
  rw [hb] at hc
  simp at hc
  exact ht hc.2
 have hrow:∀{v:Value} {e:TypeId} {k m:Nat} {xs:List Value},w.ownsRow 0 e k v m xs→e≠51→∀b,v.ownBlock=some b→b∉T:=fun {v e k m xs} hr he b hb=>hne (rows_at hr hb) he
 have hc1:=hoT.keeps h.cell (hne h.cell (by decide))
 have hon:Only [c] w' (w'.setCell ⟨c,3,none⟩ v'):=(Only.refl _ _).setCell (by simp) _
 have hc2:(w'.setCell ⟨c,3,none⟩ v').heap[c]? = some (.cells #[vr,vd,.slice (some ⟨gu,0,none⟩) n n,v',gv,lv,.bool S.bad] 38 (0,0)):=by rw [heap_set hc1];rfl
 have hcY':c∈Y':=hm.mv.sub c h.cY
 have hrow2:∀{v:Value} {e:TypeId} {k m:Nat} {xs:List Value},w.ownsRow 0 e k v m xs→e≠51→e≠38→(w'.setCell ⟨c,3,none⟩ v').ownsRow 0 e k v m xs:=fun {v e k m xs} hr he he2=>by
  have h1:=rows_only0 hr hoT (hrow hr he)
  refine rows_only0 h1 hon (fun b hb hm=>?_)
  rw [List.mem_singleton.1 hm] at hb
  have:=rows_at h1 hb
  rw [hc1] at this
  simp at this
  exact he2 this.symm
 have hupT:=hoT.keeps h.up (hne h.up (by decide))
 obtain ⟨vs,g1⟩:=h.gave
 have hYX:∀i,i<n→Dis Y' (Xs i):=fun i hi b hb hx=>by
  rcases hyn b hb with h1 | ⟨h1,_⟩
  ·exact h.yx i hi b h1 hx
  ·have:=h.alt b ((h.node i hi).xA b hx);omega
 have hcA':c∈A':=hm.sub c (h.yA c h.cY)
 have hcX:∀i,i<n→∀b∈Xs i,b∉[c]:=fun i hi b hb hm=>by
  rw [List.mem_singleton.1 hm] at hb
  exact h.yx i hi c h.cY hb
 have ha2:∀b∈A',b<(w'.setCell ⟨c,3,none⟩ v').heap.size:=fun b hb=>by simpa using ha b hb
 have hmv:Mv A A' Y Y' w (w'.setCell ⟨c,3,none⟩ v'):=hm.trans (Mv.only hon (fun b hb=>by rw [List.mem_singleton.1 hb];exact hcY'))
 have hcQ:∀b∈Y',∀cur,w'.heap[b]? = some (.cells cur 51 (0,0))→b∉[c]:=fun b hb cur hcur hm=>by
  rw [List.mem_singleton.1 hm,hc1] at hcur
  simp at hcur
 refine ⟨A',Y'++Z,⟨Y',rs,ds,ls,Xs,vr,vd,gu,v',gv,lv,⟨hc2,hrow2 h.rr (by decide) (by decide),hrow2 h.dr (by decide) (by decide),?_,fun i hi=>?_,hq.keep hon (fun b hb=>by rw [List.mem_singleton.1 hb];exact hcA') hcQ (Ext.refl _ _) (fun b hb=>hb),⟨vs,hrow2 g1 (by decide) (by decide)⟩,?_,h.nl,h.n5,hcY',fun b hb=>hm.mv.sub b (h.rY b hb),fun b hb=>hm.mv.sub b (h.dY b hb),hm.mv.sub gu h.uY,fun b hb=>hm.mv.sub b (h.gY b hb),hYX,h.xx,hyA,ha2⟩,fun b=>?_⟩,?_⟩
 ·exact hon.keeps hupT (fun hm=>by
   rw [List.mem_singleton.1 hm,hc1] at hupT
   simp at hupT)
 ·have h1:=(h.node i hi).keep hoT hTA (fun b hb hm=>h.yx i hi b (hT b hm).1 hb) hm.ext hm.sub ha
  exact h1.keep hon (fun b hb=>by rw [List.mem_singleton.1 hb];exact hcA') (hcX i hi) (Ext.refl _ _) (fun b hb=>hb) ha2
 ·exact (h.long.step hoT hTA hm.ext).step hon (fun b hb=>by rw [List.mem_singleton.1 hb];exact hcA') (Ext.refl _ _)
 ·rw [List.mem_append,hz b]
  constructor
  ·rintro (h1 | h1 | h1)
   ·exact .inl h1
   ·exact .inl (hm.mv.sub b h1)
   ·exact .inr h1
  ·rintro (h1 | h1)
   ·exact .inl h1
   ·exact .inr (.inr h1)
 ·refine ⟨⟨hmv.mv.only.mono (fun b hb=>(hz b).2 (.inl hb)),fun b hb=>?_,fun b hb=>List.mem_append_right _ hb⟩,hmv.ext,hmv.sub⟩
  rcases List.mem_append.1 hb with h1 | h1
  ·rcases hmv.mv.gr b h1 with h2 | h2
   ·exact .inl ((hz b).2 (.inl h2))
   ·exact .inr h2
  ·exact .inl h1
end
end Go.Proofs.Ytnicaicjgaoolaa
namespace Go.Proofs.Ytnicaicjgaoolaa
open Go.RowKit Go.ChangeMaps Go.WideMaps Go.Maps
set_option maxRecDepth 20000
section
variable (p:String)
def z0vx0:Oper:=⟨some 59,.move (.tmp 0),25,p,#[],none⟩
def z0vx1:Oper:=⟨some 60,.move (.tmp 0),25,p,#[],none⟩
def z0vx2:Oper:=⟨some 61,.nilCheck (.tmp 60),0,p,#[⟨1,.data⟩],none⟩
def z0vx3:Oper:=⟨some 62,.fieldAddr 38 (.tmp 61) 3,0,p,#[⟨2,.data⟩],none⟩
def z0vx4:Oper:=⟨some 64,.move (.tmp 2),35,p,#[],none⟩
def z0vx5:Oper:=⟨some 65,.move (.tmp 6),3,p,#[],none⟩
def z0vx6:Oper:=⟨some 66,.indexAddr 35 (.tmp 64) (.tmp 65),0,p,#[⟨5,.data⟩,⟨6,.data⟩],none⟩
def z0vx7:Oper:=⟨some 67,.load 51 (.tmp 66),51,p,#[⟨7,.data⟩],none⟩
def z0vx8:Oper:=⟨some 63,.load 35 (.tmp 62),35,p,#[⟨3,.data⟩],none⟩
def z0vx9:Oper:=⟨some 68,.buildSlice 35 1 #[(0,.tmp 67)],35,p,#[⟨8,.data⟩],none⟩
def z0vx10:Oper:=⟨some 69,.call { callee:=Callee.builtin Builtin.append,args:=#[.tmp 63,.tmp 68],argTypes:=#[35,35]},35,p,#[⟨4,.data⟩,⟨9,.data⟩],none⟩
def z0vx11:Oper:=⟨some 70,.nilCheck (.tmp 59),0,p,#[⟨0,.data⟩,⟨0,.phase⟩,⟨1,.phase⟩,⟨2,.phase⟩,⟨3,.phase⟩,⟨4,.phase⟩,⟨5,.phase⟩,⟨6,.phase⟩,⟨7,.phase⟩,⟨8,.phase⟩,⟨9,.phase⟩,⟨10,.phase⟩],none⟩
def z0vx12:Oper:=⟨some 71,.fieldAddr 38 (.tmp 70) 3,0,p,#[⟨11,.data⟩,⟨0,.phase⟩,⟨1,.phase⟩,⟨2,.phase⟩,⟨3,.phase⟩,⟨4,.phase⟩,⟨5,.phase⟩,⟨6,.phase⟩,⟨7,.phase⟩,⟨8,.phase⟩,⟨9,.phase⟩,⟨10,.phase⟩],none⟩
def z0vx13:Oper:=⟨none,.store 35 (.tmp 71) (.tmp 69),0,p,#[⟨12,.data⟩,⟨10,.data⟩,⟨10,.chain⟩,⟨0,.phase⟩,⟨1,.phase⟩,⟨2,.phase⟩,⟨3,.phase⟩,⟨4,.phase⟩,⟨5,.phase⟩,⟨6,.phase⟩,⟨7,.phase⟩,⟨8,.phase⟩,⟨9,.phase⟩,⟨10,.phase⟩],none⟩
end
attribute [go_sem,reducible] z0vx0 z0vx1 z0vx2 z0vx3 z0vx4 z0vx5 z0vx6 z0vx7 z0vx8 z0vx9 z0vx10 z0vx11 z0vx12 z0vx13
theorem z0vxm0 {p:Prop} (h:p:=by
 refine qr1 10 (z0vx10 _) rfl fun K hK=>?_
 unfold z0vx10
 refine step_of_list rfl fun Q' hQ=>?_
 refine wpList_append_q rfl (.tmp 63) (.tmp 68) rfl HV2.out.q HV2.out.yA HV2.out.alt HH2 HMG2.out (by have:=HQ2.out;omega) (by rfl) (by rfl) ?_
 intro v3 V3 hqp
 obtain ⟨a3,n3,c3,e3⟩:=hqp.shape
 subst e3
 have HQP:=Lib.hid hqp
 obtain ⟨T3,ho3,hT3⟩:=hqp.only HV2.out.yA
 have hk3:=HK.out T3 _ _ HB2.out ho3 hT3
 refine hQ _ _ ?_
 clear hQ Q' hqp
 refine hK.out _ _ hk3 (fun hHeld=>?_)
 clear hK K
 refine qsp ?_
 have hc3:=HV2.out.cell_qp HQP.out
 have HO3:=Lib.hid (And.intro ho3 hT3)
 have HCT:Hid (∀b∈c::T3,b∈A1):=Lib.hid (fun b hb=>(List.mem_cons.1 hb).elim (fun e=>e ▸ HV2.out.yA _ HV2.out.cY) (HO3.out.2 b))
 clear hk3 ho3 hT3
 refine qtl 11 (z0vx11 _) rfl ?_
 refine qtl 12 (z0vx12 _) rfl ?_
 refine qr1 13 (z0vx13 _) rfl fun K hK=>?_
 unfold z0vx13
 have hy3:V3.cell? ⟨c,3,none⟩=some (.slice aq ql cq):=by rw [cell_heap hc3];rfl
 have hz3:=free_heap hc3 3
 go_simp
 clear hy3 hz3
 refine hK.out _ _ (HK.out (c::T3) _ _ HB2.out ((HO3.out.1.mono (fun b hb=>List.mem_cons_of_mem _ hb)).setCell (p:=⟨c,3,none⟩) (by simp) (.slice a3 n3 c3)) HCT.out) (fun hHeld=>?_)
 clear hK K
 refine qsp ?_
 refine qdn ?_
 clear hHeld
 have HF:=Lib.hid (SyP.trans (HM1.out.trans (Mv.below HB2.out)) (HV2.out.setq HZ1.out HQP.out))
 clear hc3
 go_wp2_with fail
 go_roundw
 case rel =>
  refine ⟨j+1,by omega,by simp,?_⟩
  rw [HSTJ.out,HAD.out]
  exact HF.out
 case measure=>simp [intOf];omega):p:=h
section
variable {w w':World} {A A' Y Z Z':List Nat} {c n:Nat} {S:Mn} {rs ds ls:Nat→Nat} {Xs:Nat→List Nat} {vr vd:Value} {gu:Nat} {qv gv lv:Value}
theorem SyC.cell_qp {q:List Msg} {v':Value} (h:SyC w A Y c n S rs ds ls Xs vr vd gu qv gv lv) (hp:QP w w' A Y v' q):w'.heap[c]? = some (.cells #[vr,vd,.slice (some ⟨gu,0,none⟩) n n,qv,gv,lv,.bool S.bad] 38 (0,0)):=by
 obtain ⟨A',Y',hq,hm,ha,hyA,hyn,T,hoT,hT⟩:=hp
 refine hoT.keeps h.cell (fun hm=>?_)
 obtain ⟨_,cur,hc⟩:=hT c hm
 rw [h.cell] at hc
 simp at hc
theorem Sy.zA (h:Sy w A Z c n S):∀b∈Z,b∈A:=by
 obtain ⟨Y,rs,ds,ls,Xs,vr,vd,gu,qv,gv,lv,h,hz⟩:=h
 intro b hb
 rcases (hz b).1 hb with h1 | ⟨i,hi,h1⟩
 ·exact h.yA b h1
 ·exact (h.node i hi).xA b h1
theorem Sy.alt (h:Sy w A Z c n S):∀b∈A,b<w.heap.size:=by
 obtain ⟨Y,rs,ds,ls,Xs,vr,vd,gu,qv,gv,lv,h,hz⟩:=h
 exact h.alt
theorem Sy.syp (h:Sy w' A' Z' c n S) (m:Mv A A' Z Z' w w'):SyP w w' A Z c n S:=⟨A',Z',h,m⟩
theorem QP.only {q:List Msg} {v':Value} (hp:QP w w' A Y v' q) (hY:∀b∈Y,b∈A):∃T,Only T w w'∧∀b∈T,b∈A:=by
 obtain ⟨A',Y',hq,hm,ha,hyA,hyn,T,hoT,hT⟩:=hp
 exact ⟨T,hoT,fun b hb=>hY b (hT b hb).1⟩
theorem QP.shape {q:List Msg} {v':Value} (hp:QP w w' A Y v' q):∃ao k c,v' = .slice ao k c:=by
 obtain ⟨A',Y',hq,_⟩:=hp
 obtain ⟨ao,c,h1,_⟩:=hq.shape
 exact ⟨ao,_,c,h1⟩
theorem send_step (S:Mn) (ms:List Msg) (j:Nat) (h:j<ms.length):S.send (ms.take (j+1))={ S.send (ms.take j) with q:=addQ (S.send (ms.take j)).q ms[j]}:=by
 unfold Mn.send
 rw [←List.take_append_getElem h,List.foldl_append]
 rfl
set_option maxHeartbeats 8000000 in
theorem send_any (h:Sy w A Z c n S) (hq:S.q.length≤2000) (v:Value) (ms:List Msg) (hr:MsRow w A v ms) (fr:Nat) (hg:∀m∈ms,m.frm=(fr:Int)∧(m.dst==(fr:Int))=false∧0≤m.dst∧m.dst<(n:Int)) :
  Calls Try.prog 17 #[.pointer (some ⟨c,0,none⟩),.int .i64 (fr:Int),v] w fun e w'=>e = .returned (.tuple #[])∧SyP w w' A Z c n (S.send ms):=by
 have H:=Lib.hid h
 have HR:=Lib.hid hr
 have HG:=Lib.hid hg
 have HST:=Lib.hid (fun j (hj:j<ms.length)=>send_step S ms j hj)
 have HQL:=Lib.hid (fun j=>send_len S.q (ms.take j) hq)
 have HZA:=Lib.hid h.zA
 have HALL:Hid (S.send ms=S.send (ms.take ms.length)):=Lib.hid (by rw [List.take_length])
 have hl:ms.length≤9223372036854775807:=by
  rcases hr with ⟨rfl,rfl⟩ | ⟨g,c',cur,rfl,h1,h2,_⟩
  ·simp
  ·omega
 have hsh:∃ao cc,v = .slice ao ms.length cc:=by
  rcases hr with ⟨rfl,rfl⟩ | ⟨g,c',cur,rfl,_⟩
  ·exact ⟨none,0,rfl⟩
  ·exact ⟨_,_,rfl⟩
 obtain ⟨ao,cc,rfl⟩:=hsh
 clear h hr hg hq
 go_enter Try.func17,Try.ntmps17
 go_wp2_with fail
 go_loopw [6] (fun i wr=>∃j:Nat,j≤ms.length∧i = .int .i64 (j:Int)∧SyP w wr A Z c n (S.send (ms.take j))) (fun i _=>ms.length - (intOf i).toNat)
 case atStart=>exact ⟨0,Nat.zero_le _,rfl,H.out.syp (Mv.refl _ _ _)⟩
 case round =>
  obtain ⟨j,hj,rfl,A1,Z1,h1,m1⟩:=hrel
  by_cases hlt:j<ms.length
  ·have hr1:=HR.out.step m1.mv.only HZA.out m1.ext
   have HR1:=Lib.hid hr1
   rcases hr1 with ⟨_,h0⟩ | ⟨g,c',cur,ev,_,_,hgA,hgh,hat⟩
   ·rw [h0] at hlt;cases hlt
   cases ev
   obtain ⟨mv,mu,k0,k1,k2,k3,k4,hmsg⟩:=hat j hlt
   obtain ⟨f0,f1,f2,f3⟩:=HG.out ms[j] (List.getElem_mem _)
   have HSTJ:=Lib.hid (HST.out j hlt)
   generalize ms[j]=m at *
   rw [f0] at k0
   have hk0:wr.cell? ⟨g,j*5,none⟩=some (.int .i64 (fr:Int)):=by rw [cell_heap hgh];exact k0
   have hk1:wr.cell? ⟨g,j*5+1,none⟩=some (.int .i64 m.dst):=by rw [cell_heap hgh];exact k1
   have hk2:wr.cell? ⟨g,j*5+2,none⟩=some (.int .i64 m.kind):=by rw [cell_heap hgh];exact k2
   have hk3:wr.cell? ⟨g,j*5+3,none⟩=some mv:=by rw [cell_heap hgh];exact k3
   have hk4:wr.cell? ⟨g,j*5+4,none⟩=some mu:=by rw [cell_heap hgh];exact k4
   obtain ⟨Y,rs,ds,ls,Xs,vr,vd,gu,qv,gv,lv,h1,hz1⟩:=h1
   have HZ1:=Lib.hid hz1
   have HS1:=Lib.hid h1
   have M1:=Lib.hid m1
   have HMSG:=Lib.hid hmsg
   have HQ2:Hid ((S.send (ms.take j)).q.length≤2000):=Lib.hid (HQL.out j)
   have HONE:=Lib.hid hmsg.one
   have HF0:=Lib.hid f0
   obtain ⟨ar,cr,evr,_⟩:=rows_form h1.rr
   subst evr
   obtain ⟨aq,cq,evq,hcq1,hcq2,hcq3,hcq4⟩:=h1.q.shape
   subst evq
   have hc0:wr.cell? ⟨c,0,none⟩=some (.slice ar n cr):=by rw [cell_heap h1.cell];rfl
   have hc3:wr.cell? ⟨c,3,none⟩=some (.slice aq (S.send (ms.take j)).q.length cq):=by rw [cell_heap h1.cell];rfl
   have g2:decide (m.dst<0)=false:=decide_eq_false (by omega)
   have g3:decide ((n:Int)≤m.dst)=false:=decide_eq_false (by omega)
   have q6:IntKind.i64.wrap ((j:Int)+1)=(j:Int)+1:=IntWalk.i64_in _ (by omega)
   clear hgh hat k0 k1 k2 k3 k4 f0 h1 hz1 m1 hmsg
   go_upto_region 3 with (fail)
   go_cut [49] (fun v wx=>v = .bool false∧∃nq,wx=wr.drewN nq)
   case first =>
    go_quiet (fail)
    go_wp2_with fail
    go_meet
    exact ⟨rfl,nq,rfl⟩
   case rest =>
   obtain ⟨rfl,nq,rfl⟩:=hcut
   by_cases hfull:(S.send (ms.take j)).q.length<2000
   ·have hfull2:((S.send (ms.take j)).q.length:Int)<2000:=by omega
    have HAD:Hid (addQ (S.send (ms.take j)).q m=(S.send (ms.take j)).q++[m]):=Lib.hid (if_pos hfull)
    have HB1:Hid (Below wr.heap.size wr (wr.drewN nq)):=Lib.hid (below_drewN wr nq)
    generalize hql:(S.send (ms.take j)).q.length=ql at *
    go_upto_region 6 with (fail)
    have HV:Hid (SyC (wr.drewN nq).drew A1 Y c n (S.send (ms.take j)) rs ds ls Xs (.slice ar n cr) vd gu (.slice aq ql cq) gv lv):=Lib.hid ((HS1.out.below HB1.out).below (below_drewN _ 1))
    have HMV:Hid (IsMsg (wr.drewN nq).drew A1 m mv mu):=Lib.hid ((HMSG.out.below HB1.out).below (below_drewN _ 1))
    have HGA:Hid (g∉A1):=Lib.hid hgA
    have HM1:Hid (Mv A A1 Z Z1 w (wr.drewN nq).drew):=Lib.hid ((M1.out.trans (Mv.below HB1.out)).trans (Mv.below (below_drewN _ 1)))
    have hs0:(wr.drewN nq).drew.cell? ⟨g,j*5,none⟩=some (.int .i64 (fr:Int))∧(wr.drewN nq).drew.cell? ⟨g,j*5+1,none⟩=some (.int .i64 m.dst)∧(wr.drewN nq).drew.cell? ⟨g,j*5+2,none⟩=some (.int .i64 m.kind)∧(wr.drewN nq).drew.cell? ⟨g,j*5+3,none⟩=some mv∧(wr.drewN nq).drew.cell? ⟨g,j*5+4,none⟩=some mu:=⟨hk0,hk1,hk2,hk3,hk4⟩
    have HK:Hid (∀T w1 w2,Below (wr.drewN nq).drew.heap.size (wr.drewN nq).drew w1→Only T w1 w2→(∀b∈T,b∈A1)→w2.cell? ⟨g,j*5,none⟩=some (.int .i64 (fr:Int))∧w2.cell? ⟨g,j*5+1,none⟩=some (.int .i64 m.dst)∧w2.cell? ⟨g,j*5+2,none⟩=some (.int .i64 m.kind)∧w2.cell? ⟨g,j*5+3,none⟩=some mv∧w2.cell? ⟨g,j*5+4,none⟩=some mu):=Lib.hid (fun T w1 w2 hb ho hT=>by
      have e:g∉T:=fun hm=>HGA.out (hT g hm)
      exact ⟨ho.cell (cell_later hb hs0.1) e,ho.cell (cell_later hb hs0.2.1) e,ho.cell (cell_later hb hs0.2.2.1) e,ho.cell (cell_later hb hs0.2.2.2.1) e,ho.cell (cell_later hb hs0.2.2.2.2) e⟩)
    obtain ⟨u1,u2⟩:=HONE.out
    have HBO:Hid (∀o,Below (wr.drewN nq).drew.heap.size (wr.drewN nq).drew ((wr.drewN nq).drew.alloc o)):=Lib.hid (fun o=>(Below.refl _ _).alloc (Nat.le_refl _) o)
    clear hc0 hc3 hk0 hk1 hk2 hk3 hk4 hcq1 hcq2 hcq3 hcq4 hgA
    refine wp_region_held_drew (S:=fun w'=>w'.cell? ⟨g,j*5,none⟩=some (.int .i64 (fr:Int))∧w'.cell? ⟨g,j*5+1,none⟩=some (.int .i64 m.dst)∧w'.cell? ⟨g,j*5+2,none⟩=some (.int .i64 m.kind)∧w'.cell? ⟨g,j*5+3,none⟩=some mv∧w'.cell? ⟨g,j*5+4,none⟩=some mu) (by kernel_rfl) hs0 (fun hHeld=>?_)
    refine qtl 0 (z0vx0 _) rfl ?_
    refine qtl 1 (z0vx1 _) rfl ?_
    refine qtl 2 (z0vx2 _) rfl ?_
    refine qtl 3 (z0vx3 _) rfl ?_
    refine qtl 5 (z0vx4 _) rfl ?_
    refine qtl 6 (z0vx5 _) rfl ?_
    refine qtl 7 (z0vx6 _) rfl ?_
    refine qtl 8 (z0vx7 _) rfl ?_
    generalize (wr.drewN nq).drew=V1 at *
    refine qr2 4 9 (z0vx8 _) (z0vx9 _) rfl rfl (fun K hK=>?_) fun K hK=>?_
    ·unfold z0vx8
     have hy3:V1.cell? ⟨c,3,none⟩=some (.slice aq ql cq):=by rw [cell_heap HV.out.cell];rfl
     go_simp
     clear hy3
     refine hK.out _ _ hHeld (fun hHeld=>?_)
     clear hK K
     refine qsp ?_
     refine qr1 9 (z0vx9 _) rfl fun K hK=>?_
     unfold z0vx9
     go_simp
     refine hK.out _ _ (HK.out [] _ _ (HBO.out (.cells #[.int .i64 (fr:Int),.int .i64 m.dst,.int .i64 m.kind,mv,mu] 51)) (Only.refl _ _) (fun b hb=>by cases hb)) (fun hHeld=>?_)
     clear hK K
     refine qsp ?_
     have HV2:=Lib.hid (HV.out.below (HBO.out (.cells #[.int .i64 (fr:Int),.int .i64 m.dst,.int .i64 m.kind,mv,mu] 51)))
     have HMG2:=Lib.hid (HMV.out.below (HBO.out (.cells #[.int .i64 (fr:Int),.int .i64 m.dst,.int .i64 m.kind,mv,mu] 51)))
     have HH2:=heap_new V1 (.cells #[.int .i64 (fr:Int),.int .i64 m.dst,.int .i64 m.kind,mv,mu] 51)
     have HB2:=Lib.hid (HBO.out (.cells #[.int .i64 (fr:Int),.int .i64 m.dst,.int .i64 m.kind,mv,mu] 51))
     generalize hV2:V1.alloc (.cells #[.int .i64 (fr:Int),.int .i64 m.dst,.int .i64 m.kind,mv,mu] 51)=V2 at *
     rw [←HF0.out] at HH2
     clear hV2
     exact z0vxm0
    ·unfold z0vx9
     go_simp
     refine hK.out _ _ (HK.out [] _ _ (HBO.out (.cells #[.int .i64 (fr:Int),.int .i64 m.dst,.int .i64 m.kind,mv,mu] 51)) (Only.refl _ _) (fun b hb=>by cases hb)) (fun hHeld=>?_)
     clear hK K
     refine qsp ?_
     have HV2:=Lib.hid (HV.out.below (HBO.out (.cells #[.int .i64 (fr:Int),.int .i64 m.dst,.int .i64 m.kind,mv,mu] 51)))
     have HMG2:=Lib.hid (HMV.out.below (HBO.out (.cells #[.int .i64 (fr:Int),.int .i64 m.dst,.int .i64 m.kind,mv,mu] 51)))
     have HH2:=heap_new V1 (.cells #[.int .i64 (fr:Int),.int .i64 m.dst,.int .i64 m.kind,mv,mu] 51)
     have HB2:=Lib.hid (HBO.out (.cells #[.int .i64 (fr:Int),.int .i64 m.dst,.int .i64 m.kind,mv,mu] 51))
     generalize hV2:V1.alloc (.cells #[.int .i64 (fr:Int),.int .i64 m.dst,.int .i64 m.kind,mv,mu] 51)=V2 at *
     rw [←HF0.out] at HH2
     clear hV2
     refine qr1 4 (z0vx8 _) rfl fun K hK=>?_
     unfold z0vx8
     have hy3:V2.cell? ⟨c,3,none⟩=some (.slice aq ql cq):=by rw [cell_heap HV2.out.cell];rfl
     go_simp
     clear hy3
     refine hK.out _ _ hHeld (fun hHeld=>?_)
     clear hK K
     refine qsp ?_
     exact z0vxm0
   ·have hfull2:¬((S.send (ms.take j)).q.length:Int)<2000:=by omega
    have HAD:Hid (addQ (S.send (ms.take j)).q m=(S.send (ms.take j)).q):=Lib.hid (if_neg hfull)
    have HF:Hid (SyP w (wr.drewN nq) A Z c n (S.send (ms.take j))):=Lib.hid (((⟨_,_,_,_,_,_,_,_,_,_,_,HS1.out.below (below_drewN wr nq),HZ1.out⟩:Sy _ A1 Z1 c n _)).syp (M1.out.trans (Mv.below (below_drewN wr nq))))
    go_wp2_with fail
    go_roundw
    case rel =>
      refine ⟨j+1,by omega,by simp,?_⟩
      rw [HSTJ.out,HAD.out]
      exact HF.out
    case measure=>simp [intOf];omega
  ·obtain rfl:j=ms.length:=by omega
   have HF:=Lib.hid (h1.syp m1)
   clear h1 m1
   go_wp2_with fail
   go_end0
   rw [HALL.out]
   exact ⟨rfl,HF.out⟩
end
end Go.Proofs.Ytnicaicjgaoolaa
namespace Go.Proofs.Ytnicaicjgaoolaa
open Go.RowKit Go.ChangeMaps Go.WideMaps Go.Maps
set_option maxRecDepth 20000
section
variable (p:String)
def z0nx0:Oper:=⟨some 12,.move (.tmp 0),25,p,#[],none⟩
def z0nx1:Oper:=⟨some 13,.fieldAddr 51 (.tmp 3) 1,0,p,#[],none⟩
def z0nx2:Oper:=⟨some 14,.load 3 (.tmp 13),3,p,#[⟨1,.data⟩],none⟩
def z0nx3:Oper:=⟨some 15,.move (.tmp 0),25,p,#[],none⟩
def z0nx4:Oper:=⟨some 16,.nilCheck (.tmp 15),0,p,#[⟨3,.data⟩],none⟩
def z0nx5:Oper:=⟨some 17,.fieldAddr 38 (.tmp 16) 0,0,p,#[⟨4,.data⟩],none⟩
def z0nx6:Oper:=⟨some 19,.fieldAddr 51 (.tmp 3) 1,0,p,#[],none⟩
def z0nx7:Oper:=⟨some 20,.load 3 (.tmp 19),3,p,#[⟨7,.data⟩],none⟩
def z0nx8:Oper:=⟨some 23,.load 51 (.tmp 3),51,p,#[],none⟩
def z0nx9:Oper:=⟨some 18,.load 32 (.tmp 17),32,p,#[⟨5,.data⟩],none⟩
def z0nx10:Oper:=⟨some 21,.indexAddr 32 (.tmp 18) (.tmp 20),0,p,#[⟨6,.data⟩,⟨8,.data⟩],none⟩
def z0nx11:Oper:=⟨some 22,.load 39 (.tmp 21),39,p,#[⟨9,.data⟩],none⟩
def z0nx12:Oper:=⟨some 24,.call { callee:=Callee.value (Operand.func 19),args:=#[.tmp 22,.tmp 23],argTypes:=#[39,51]},35,p,#[⟨10,.data⟩,⟨11,.data⟩],none⟩
def z0nx13:Oper:=⟨some 25,.call { callee:=Callee.value (Operand.func 17),args:=#[.tmp 12,.tmp 14,.tmp 24],argTypes:=#[25,3,35]},0,p,#[⟨0,.data⟩,⟨2,.data⟩,⟨12,.data⟩,⟨12,.chain⟩],none⟩
end
attribute [go_sem,reducible] z0nx0 z0nx1 z0nx2 z0nx3 z0nx4 z0nx5 z0nx6 z0nx7 z0nx8 z0nx9 z0nx10 z0nx11 z0nx12 z0nx13
/-- a message is brought to whom it is for -/
def Mn.bring (S:Mn) (m:Msg):Mn :=
 if (S.at m.dst.toNat).up then (S.set m.dst.toNat ⟨(getM (S.at m.dst.toNat).s (S.at m.dst.toNat).k m).2.1,(getM (S.at m.dst.toNat).s (S.at m.dst.toNat).k m).2.2,true⟩).send (getM (S.at m.dst.toNat).s (S.at m.dst.toNat).k m).1 else S
section
variable {w w':World} {A A' Y Z Z':List Nat} {c n:Nat} {S:Mn} {rs ds ls:Nat→Nat} {Xs:Nat→List Nat} {vr vd:Value} {gu:Nat} {qv gv lv:Value}
theorem SyC.msp {i:Nat} {e:Ending} {p:List Msg×Rp×Dk} (h:SyC w A Y c n S rs ds ls Xs vr vd gu qv gv lv) (hz:∀b,b∈Z↔b∈Y∨∃i,i<n∧b∈Xs i) (hi:i<n) (hu:(S.at i).up=true) (hp:MsP w w' A (Xs i) (rs i) (ds i) (ls i) e p) :
  ∃v A' Z',e = .returned v∧Sy w' A' Z' c n (S.set i ⟨p.2.1,p.2.2,true⟩)∧MsRow w' A' v p.1∧Mv A A' Z Z' w w':=by
 obtain ⟨v,A',X',he,hn,ho,hm,hv⟩:=hp
 obtain ⟨Z',hz',hmz⟩:=mv_call (Y:=Y) hi hz hm
 have hs:=h.call (nd:=⟨p.2.1,p.2.2,true⟩) hi hm ⟨fun _=>hn,(fun e=>by cases e),hn.xA⟩ hu.symm hn.alt
 exact ⟨v,A',Z',he,⟨Y,rs,ds,ls,setF Xs i X',vr,vd,gu,qv,gv,lv,hs,hz'⟩,ho.row hv,hmz⟩
theorem send_good {own:Nat} {ms:List Msg} (h:∀m∈ms,GoodM own n m):∀m∈ms,m.frm=(own:Int)∧(m.dst==(own:Int))=false∧0≤m.dst∧m.dst<(n:Int):=fun m hm=>⟨(h m hm).frm,(h m hm).ne,(h m hm).d0,(h m hm).dn⟩
theorem SyC.upAt (h:SyC w A Y c n S rs ds ls Xs vr vd gu qv gv lv) (i:Nat) (hi:i<n):w.cell? ⟨gu,i,none⟩=some (.bool (S.at i).up):=by
 rw [cell_heap h.up,boolsA_at _ _ (by rw [List.length_map,h.nl];exact hi)]
 congr 2
 unfold Mn.at
 rw [List.getD_eq_getElem?_getD,List.getD_eq_getElem?_getD,List.getElem?_map]
 rw [List.getElem?_eq_getElem (by rw [h.nl];exact hi)]
 rfl
theorem ptr_cell {f:Nat→Nat} {e:TypeId} {v:Value} (h:w.ownsRow 0 e 1 v n (ptrs f n)) (hn:0<n):∃g k,v = .slice (some ⟨g,0,none⟩) n k∧n≤k∧∀i,i<n→w.cell? ⟨g,i,none⟩=some (.pointer (some ⟨f i,0,none⟩)):=by
 have hr:=h
 rcases h.2 with ⟨_,h0⟩ | ⟨g,cap,cur,rfl,_,hh,hnc,_,_,ht⟩
 ·omega
 ·refine ⟨g,cap,rfl,hnc,fun i hi=>?_⟩
  have h9:(cur.toList.take (n*1))[i]? = (ptrs f n)[i]? := by rw [ht]
  rw [List.getElem?_take,if_pos (by omega),Array.getElem?_toList] at h9
  rw [cell_heap hh,h9]
  unfold ptrs ptrV
  simp [hi]
set_option maxHeartbeats 8000000 in
theorem bring_any (h:Sy w A Z c n S) (hq:S.q.length≤2000) (m:Msg) (mv mu:Value) (hm:IsMsg w A m mv mu) (q:Nat) (hto:m.dst=(q:Int)) (hqn:q<n)
  (hw:(S.at q).up=true→Wf (S.at q).s (S.at q).k) (ho:(S.at q).s.own=q) (hn:(S.at q).s.n=n) (h1:m.N.getD 1 0≤1000000) (h2:m.B.length≤1000000) (h3:m.N.length≤1000000) :
  Calls Try.prog 25 #[.pointer (some ⟨c,0,none⟩),msgV m mv mu] w fun e w'=>e = .returned (.tuple #[])∧SyP w w' A Z c n (S.bring m):=by
 have hbw:Below w.heap.size w (w.alloc (.cells (msgC m mv mu) 51)):=(Below.refl _ _).alloc (Nat.le_refl _) _
 have hbx:=heap_new w (.cells (msgC m mv mu) 51)
 have HM0:Hid (Mv A A Z Z w (w.alloc (.cells (msgC m mv mu) 51))):=Lib.hid (Mv.below hbw)
 have hMA:w.heap.size∉A:=fun hb=>by have:=h.alt _ hb;omega
 have hs1:=h.below hbw
 have hm1:=hm.below hbw
 obtain ⟨ao,cn,ev,_⟩:=id hm.n
 subst ev
 obtain ⟨ub,bc,eu⟩:=bs_shape hm.b
 subst eu
 have HE:Hid (S.bring m=if (S.at q).up then (S.set q ⟨(getM (S.at q).s (S.at q).k m).2.1,(getM (S.at q).s (S.at q).k m).2.2,true⟩).send (getM (S.at q).s (S.at q).k m).1 else S):=Lib.hid (by unfold Mn.bring;rw [hto,Int.toNat_natCast])
 obtain ⟨Y,rs,ds,ls,Xs,vr,vd,gu,qv,gv,lv,hs,hz⟩:=hs1
 obtain ⟨gr,kr,evr,hkr,hrow⟩:=ptr_cell hs.rr (by omega)
 subst evr
 have hup:=hs.upAt q hqn
 have hrq:=hrow q hqn
 have hc0:(w.alloc (.cells (msgC m (.slice ao m.N.length cn) (.slice ub m.B.length bc)) 51)).cell? ⟨c,0,none⟩=some (.slice (some ⟨gr,0,none⟩) n kr):=by rw [cell_heap hs.cell];rfl
 have hc2:(w.alloc (.cells (msgC m (.slice ao m.N.length cn) (.slice ub m.B.length bc)) 51)).cell? ⟨c,2,none⟩=some (.slice (some ⟨gu,0,none⟩) n n):=by rw [cell_heap hs.cell];rfl
 have hk0:(w.alloc (.cells (msgC m (.slice ao m.N.length cn) (.slice ub m.B.length bc)) 51)).cell? ⟨w.heap.size,0,none⟩=some (.int .i64 m.frm):=by rw [cell_heap hbx];rfl
 have hk1:(w.alloc (.cells (msgC m (.slice ao m.N.length cn) (.slice ub m.B.length bc)) 51)).cell? ⟨w.heap.size,1,none⟩=some (.int .i64 (q:Int)):=by rw [cell_heap hbx,←hto];rfl
 have hk2:(w.alloc (.cells (msgC m (.slice ao m.N.length cn) (.slice ub m.B.length bc)) 51)).cell? ⟨w.heap.size,2,none⟩=some (.int .i64 m.kind):=by rw [cell_heap hbx];rfl
 have hk3:(w.alloc (.cells (msgC m (.slice ao m.N.length cn) (.slice ub m.B.length bc)) 51)).cell? ⟨w.heap.size,3,none⟩=some (.slice ao m.N.length cn):=by rw [cell_heap hbx];rfl
 have hk4:(w.alloc (.cells (msgC m (.slice ao m.N.length cn) (.slice ub m.B.length bc)) 51)).cell? ⟨w.heap.size,4,none⟩=some (.slice ub m.B.length bc):=by rw [cell_heap hbx];rfl
 have HS:=Lib.hid hs
 have HZ:=Lib.hid hz
 have HMG:=Lib.hid hm1
 have HW:=Lib.hid hw
 have HMA:=Lib.hid hMA
 have hMlt:=lt_of_heap hbx
 have HZA:=Lib.hid (⟨Y,rs,ds,ls,Xs,_,vd,gu,qv,gv,lv,hs,hz⟩:Sy _ A Z c n S).zA
 have HBND:Hid (m.N.getD 1 0≤1000000∧m.B.length≤1000000∧m.N.length≤1000000∧(S.at q).s.own=q∧(S.at q).s.n=n):=Lib.hid ⟨h1,h2,h3,ho,hn⟩
 have HTO:=Lib.hid hto
 have HQ:=Lib.hid hq
 have HQN:=Lib.hid hqn
 have g0:(q:Int)<(n:Int):=by omega
 clear hto h hm hs hz hm1 hw hMA hbw hbx h1 h2 h3 ho hn hrow hq
 unfold msgV msgC at *
 go_enter Try.func25,Try.ntmps25
 go_upto_region 1 with (fail)
 generalize w.alloc (.cells #[.int .i64 m.frm,.int .i64 m.dst,.int .i64 m.kind,.slice ao m.N.length cn,.slice ub m.B.length bc] 51)=W at *
 generalize w.heap.size=M at *
 go_cut [11] (fun v wx=>v = .bool (S.at q).up∧∃nq,wx=W.drewN nq)
 case first =>
  go_quiet (fail)
  go_wp2_with fail
  go_meet
  exact ⟨rfl,nq,rfl⟩
 case rest =>
 obtain ⟨rfl,nq,rfl⟩:=hcut
 have HB1:Hid (Below W.heap.size W (W.drewN nq)):=Lib.hid (below_drewN W nq)
 cases hupq:(S.at q).up with
 | false =>
  have HE2:Hid (S.bring m=S):=Lib.hid (by rw [HE.out,hupq];rfl)
  have HF:Hid (SyP w (W.drewN nq) A Z c n S):=Lib.hid (((⟨_,_,_,_,_,_,_,_,_,_,_,HS.out.below HB1.out,HZ.out⟩:Sy _ A Z c n _)).syp (HM0.out.trans (Mv.below HB1.out)))
  go_wp2_with fail
  go_end0
  rw [HE2.out]
  exact ⟨rfl,HF.out⟩
 | true =>
  have HE2:Hid (S.bring m=(S.set q ⟨(getM (S.at q).s (S.at q).k m).2.1,(getM (S.at q).s (S.at q).k m).2.2,true⟩).send (getM (S.at q).s (S.at q).k m).1):=Lib.hid (by rw [HE.out,hupq];rfl)
  have hs2:=(HS.out.below HB1.out).below (below_drewN (W.drewN nq) 1)
  have hm2:=(HMG.out.below HB1.out).below (below_drewN (W.drewN nq) 1)
  have HS2:=Lib.hid hs2
  have HM1:Hid (Mv A A Z Z w (W.drewN nq).drew):=Lib.hid ((HM0.out.trans (Mv.below HB1.out)).trans (Mv.below (below_drewN (W.drewN nq) 1)))
  have hwq:=HW.out hupq
  have HOUT:=Lib.hid (out_get (s:=(S.at q).s) (k:=(S.at q).k) hwq m)
  have HGET:Hid (Calls Try.prog 19 #[.pointer (some ⟨rs q,0,none⟩),.agg #[.int .i64 m.frm,.int .i64 (q:Int),.int .i64 m.kind,.slice ao m.N.length cn,.slice ub m.B.length bc]] (W.drewN nq).drew fun e w'=>∃v A' Z',e = .returned v∧Sy w' A' Z' c n (S.set q ⟨(getM (S.at q).s (S.at q).k m).2.1,(getM (S.at q).s (S.at q).k m).2.2,true⟩)∧MsRow w' A' v (getM (S.at q).s (S.at q).k m).1∧Mv A A' Z Z' (W.drewN nq).drew w'):=Lib.hid (by
   rw [←HTO.out]
   exact (get_any ((hs2.node q HQN.out).up hupq) hwq m _ _ hm2 (by have:=HBND.out.1;omega) HBND.out.2.1 (by have:=HBND.out.2.2.1;omega)).mono (fun e w' hp=>hs2.msp HZ.out HQN.out hupq hp))
  have HG3:Hid (∀x∈(getM (S.at q).s (S.at q).k m).1,x.frm=(q:Int)∧(x.dst==(q:Int))=false∧0≤x.dst∧x.dst<(n:Int)):=Lib.hid (by
   have h9:=HOUT.out.ms
   rw [HBND.out.2.2.2.1,HBND.out.2.2.2.2] at h9
   exact send_good h9)
  have HQ3:Hid ((S.set q ⟨(getM (S.at q).s (S.at q).k m).2.1,(getM (S.at q).s (S.at q).k m).2.2,true⟩).q.length≤2000):=Lib.hid HQ.out
  have hs0:(W.drewN nq).drew.cell? ⟨M,0,none⟩=some (.int .i64 m.frm)∧(W.drewN nq).drew.cell? ⟨M,1,none⟩=some (.int .i64 (q:Int))∧(W.drewN nq).drew.cell? ⟨M,2,none⟩=some (.int .i64 m.kind)∧(W.drewN nq).drew.cell? ⟨M,3,none⟩=some (.slice ao m.N.length cn)∧(W.drewN nq).drew.cell? ⟨M,4,none⟩=some (.slice ub m.B.length bc):=⟨hk0,hk1,hk2,hk3,hk4⟩
  have HK:Hid (∀T w2,Only T (W.drewN nq).drew w2→M∉T→w2.cell? ⟨M,0,none⟩=some (.int .i64 m.frm)∧w2.cell? ⟨M,1,none⟩=some (.int .i64 (q:Int))∧w2.cell? ⟨M,2,none⟩=some (.int .i64 m.kind)∧w2.cell? ⟨M,3,none⟩=some (.slice ao m.N.length cn)∧w2.cell? ⟨M,4,none⟩=some (.slice ub m.B.length bc)):=Lib.hid (fun T w2 ho e=>⟨ho.cell hs0.1 e,ho.cell hs0.2.1 e,ho.cell hs0.2.2.1 e,ho.cell hs0.2.2.2.1 e,ho.cell hs0.2.2.2.2 e⟩)
  have hMZ:Hid (M∉Z):=Lib.hid (fun hm=>HMA.out (HZA.out _ hm))
  have hy0:(W.drewN nq).drew.cell? ⟨c,0,none⟩=some (.slice (some ⟨gr,0,none⟩) n kr):=hc0
  have hyr:(W.drewN nq).drew.cell? ⟨gr,q,none⟩=some (.pointer (some ⟨rs q,0,none⟩)):=hrq
  have HMLT:Hid (M<(W.drewN nq).drew.heap.size):=Lib.hid hMlt
  clear hs2 hm2 hwq hup hrq hc0 hc2 hk0 hk1 hk2 hk3 hk4 HS HE HW HOUT
  go_upto_region 2 with (fail)
  generalize getM (S.at q).s (S.at q).k m=p at *
  refine wp_region_held_drew (S:=fun w'=>w'.cell? ⟨M,0,none⟩=some (.int .i64 m.frm)∧w'.cell? ⟨M,1,none⟩=some (.int .i64 (q:Int))∧w'.cell? ⟨M,2,none⟩=some (.int .i64 m.kind)∧w'.cell? ⟨M,3,none⟩=some (.slice ao m.N.length cn)∧w'.cell? ⟨M,4,none⟩=some (.slice ub m.B.length bc)) (by kernel_rfl) hs0 (fun hHeld=>?_)
  refine qtl 0 (z0nx0 _) rfl ?_
  refine qtl 1 (z0nx1 _) rfl ?_
  refine qtl 2 (z0nx2 _) rfl ?_
  refine qtl 3 (z0nx3 _) rfl ?_
  refine qtl 4 (z0nx4 _) rfl ?_
  refine qtl 5 (z0nx5 _) rfl ?_
  refine qtl 7 (z0nx6 _) rfl ?_
  refine qtl 8 (z0nx7 _) rfl ?_
  refine qtl 11 (z0nx8 _) rfl ?_
  generalize (W.drewN nq).drew=V at *
  refine qr1 6 (z0nx9 _) rfl fun K hK=>?_
  unfold z0nx9
  go_simp
  refine hK.out _ _ hHeld (fun hHeld=>?_)
  clear hK K
  refine qsp ?_
  refine qtl 9 (z0nx10 _) rfl ?_
  refine qr1 10 (z0nx11 _) rfl fun K hK=>?_
  unfold z0nx11
  go_simp
  refine hK.out _ _ hHeld (fun hHeld=>?_)
  clear hK K
  refine qsp ?_
  refine qr1 12 (z0nx12 _) rfl fun K hK=>?_
  unfold z0nx12
  go_simp
  refine HGET.out.mono ?_
  rintro e w3 ⟨v3,A3,Z3,rfl,hs3,hr3,hm3⟩
  have HS3:=Lib.hid hs3
  have HR3:=Lib.hid hr3
  have HM3:=Lib.hid hm3
  have hk3:=HK.out _ _ hm3.mv.only hMZ.out
  have HMZ3:Hid (M∉Z3):=Lib.hid (fun hm=>by
   rcases hm3.mv.gr _ hm with h1 | h1
   ·exact hMZ.out h1
   ·have:=HMLT.out;omega)
  clear hs3 hr3 hm3
  go_wp2_with fail
  refine hK.out _ _ hk3 (fun hHeld=>?_)
  clear hK K
  refine qsp ?_
  clear hk3
  refine qr1 13 (z0nx13 _) rfl fun K hK=>?_
  unfold z0nx13
  go_simp
  refine (send_any HS3.out HQ3.out v3 _ HR3.out q HG3.out).mono ?_
  rintro e w4 ⟨rfl,hs4⟩
  obtain ⟨A4,Z4,h4,m4⟩:=hs4
  have HF:=Lib.hid (h4.syp ((HM1.out.trans HM3.out).trans m4))
  have hk4:=HK.out _ _ (HM3.out.trans m4).mv.only hMZ.out
  clear h4 m4
  go_wp2_with fail
  refine hK.out _ _ hk4 (fun hHeld=>?_)
  clear hK K
  refine qsp ?_
  refine qdn ?_
  clear hHeld hk4
  go_wp2_with fail
  go_end0
  rw [HE2.out]
  exact ⟨rfl,HF.out⟩
end
end Go.Proofs.Ytnicaicjgaoolaa
namespace Go.Proofs.Ytnicaicjgaoolaa
set_option maxRecDepth 20000
def Mn.tick (S:Mn) (i:Nat):Mn :=
 if (S.at i).up then (S.set i ⟨(tickM (S.at i).s (S.at i).k).2.1,(tickM (S.at i).s (S.at i).k).2.2,true⟩).send (tickM (S.at i).s (S.at i).k).1 else S
def Mn.ticks (S:Mn) (n:Nat):Mn:=(List.range n).foldl Mn.tick S
def Mn.drain:Nat→Mn→Mn
 | 0,S=>S
 | f+1,S=>match S.q with
  | []=>S
  | m::q=>Mn.drain f (({ S with q:=q }:Mn).bring m)
def Mn.calm (n:Nat):Nat→Mn→Bool×Mn
 | 0,S=>(true,S)
 | r+1,S=>if ((S.ticks n).drain 4000).q.length=0 then Mn.calm n r ((S.ticks n).drain 4000) else (false,(S.ticks n).drain 4000)
structure SInv (n cl:Nat) (S:Mn):Prop where
 nl:S.nodes.length=n
 id:∀i,i<n→(S.at i).s.own=i∧(S.at i).s.n=n
 wf:∀i,i<n→(S.at i).up=true→Wf (S.at i).s (S.at i).k∧(S.at i).s.clock≤cl
 q:∀m∈S.q,∃fr,fr<n∧GoodM fr n m
 ql:S.q.length≤2000
section
variable {n cl:Nat} {S:Mn}
theorem addQ_mem (q:List Msg) (m x:Msg) (h:x∈addQ q m):x∈q∨x=m:=by
 unfold addQ at h
 split at h
 ·rcases List.mem_append.1 h with h | h
  ·exact .inl h
  ·exact .inr (List.mem_singleton.1 h)
 ·exact .inl h
theorem send_mem (q:List Msg) (ms:List Msg) (x:Msg) (h:x∈ms.foldl addQ q):x∈q∨x∈ms:=by
 induction ms generalizing q with
 | nil=>exact .inl h
 | cons a l ih =>
  rcases ih _ h with h1 | h1
  ·rcases addQ_mem _ _ _ h1 with h2 | h2
   ·exact .inl h2
   ·exact .inr (by rw [h2];exact List.mem_cons_self)
  ·exact .inr (List.mem_cons_of_mem _ h1)
theorem SInv.call {d:Nat} {p:List Msg×Rp×Dk} (h:SInv n cl S) (i:Nat) (hi:i<n) (hu:(S.at i).up=true) (ho:Out (S.at i).s d p):SInv n (cl+d) ((S.set i ⟨p.2.1,p.2.2,true⟩).send p.1):=by
 have hat:∀j,((S.set i ⟨p.2.1,p.2.2,true⟩).send p.1).at j=if j=i then ⟨p.2.1,p.2.2,true⟩ else S.at j:=fun j=>Mn.at_set S i j _ (by rw [h.nl];exact hi)
 refine ⟨by simp [Mn.send,Mn.set,h.nl],fun j hj=>?_,fun j hj hup=>?_,fun m hm=>?_,send_len _ _ h.ql⟩
 ·rw [hat j]
  by_cases e:j=i
  ·subst e
   rw [if_pos rfl]
   exact ⟨ho.own.trans (h.id j hj).1,ho.n.trans (h.id j hj).2⟩
  ·rw [if_neg e];exact h.id j hj
 ·rw [hat j] at hup ⊢
  by_cases e:j=i
  ·subst e
   rw [if_pos rfl]
   exact ⟨ho.wf,by have:=ho.clock;have:=(h.wf j hj hu).2;show p.2.1.clock≤_;omega⟩
  ·rw [if_neg e] at hup ⊢
   exact ⟨(h.wf j hj hup).1,by have:=(h.wf j hj hup).2;omega⟩
 ·rcases send_mem _ _ _ hm with h1 | h1
  ·exact h.q m h1
  ·have:=ho.ms m h1
   rw [(h.id i hi).1,(h.id i hi).2] at this
   exact ⟨i,hi,this⟩
theorem SInv.mono {cl':Nat} (h:SInv n cl S) (hc:cl≤cl'):SInv n cl' S:=⟨h.nl,h.id,fun i hi hu=>⟨(h.wf i hi hu).1,Nat.le_trans (h.wf i hi hu).2 hc⟩,h.q,h.ql⟩
theorem SInv.tick (h:SInv n cl S) (i:Nat) (hi:i<n):SInv n (cl+1) (S.tick i):=by
 unfold Mn.tick
 split
 ·rename_i hu
  exact h.call i hi hu (out_tick (h.wf i hi hu).1)
 ·exact h.mono (Nat.le_succ _)
theorem SInv.bring (h:SInv n cl S) (m:Msg) (h0:0≤m.dst) (h1:m.dst<(n:Int)):SInv n cl (S.bring m):=by
 unfold Mn.bring
 split
 ·rename_i hu
  have hi:m.dst.toNat<n:=by omega
  exact h.call _ hi hu (out_get (h.wf _ hi hu).1 m)
 ·exact h
theorem SInv.ticks (h:SInv n cl S) (k:Nat) (hk:k≤n):SInv n (cl+k) (S.ticks k):=by
 induction k with
 | zero=>exact h
 | succ k ih =>
  unfold Mn.ticks
  rw [List.range_succ,List.foldl_append]
  exact (ih (by omega)).tick k (by omega)
theorem SInv.pop {m:Msg} {q:List Msg} (h:SInv n cl S) (hq:S.q=m::q):SInv n cl { S with q:=q } :=
 ⟨h.nl,h.id,h.wf,fun x hx=>h.q x (by rw [hq];exact List.mem_cons_of_mem _ hx),by have:=h.ql;rw [hq] at this;simp at this;show q.length≤2000;omega⟩
end
end Go.Proofs.Ytnicaicjgaoolaa
