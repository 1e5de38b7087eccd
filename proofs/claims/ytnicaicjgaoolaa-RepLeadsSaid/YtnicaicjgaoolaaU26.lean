/-
  What the proof of the law leans on: contracts of the program's functions, one behind another. No condition.
-/
import Derived.Test.YtnicaicjgaoolaaU0
import Derived.Test.YtnicaicjgaoolaaU24
import Derived.Test.YtnicaicjgaoolaaU5
import Derived.Test.YtnicaicjgaoolaaU3
set_option linter.unusedVariables false
set_option linter.unusedSimpArgs false
namespace Go.Proofs.Ytnicaicjgaoolaa
open Go.RowKit Go.ChangeMaps Go.WideMaps Go.Maps
set_option maxRecDepth 20000
theorem mU {p:Prop} (h:p:=by
 refine cf 15 λK hK=>?_;refine bL rfl λQ' hQ=>?_;refine eU rfl (.tmp 47) (.tmp 49) 33 54 rfl Try.underlying33 CB (.slice ad i kd) i _ (by rfl) HB3.out.dr bd d (by rfl) HHd hi1000 ?_;intro vd1 V4 hr1 ho1 hf1;obtain ⟨a2,c2,e1,_⟩:=dw hr1;subst e1;refine hQ _ _ ?_;clear hQ Q';refine hK.out _ _ trivial (λam=>?_);clear hK K;refine bu ?_;have HB4:=ab (HB3.out.appD hr1 ho1 hf1);clear hr1 ho1 hf1;refine az 16 ?_;refine az 17 ?_;refine cf 18 λK hK=>?_;have hy:=(af HB4.out.cell 0).trans (show _=some (.slice ar i kr) from rfl);have hz:=aO HB4.out.cell 0;go_simp
 clear hy hz;refine hK.out _ _ trivial (λam=>?_);clear hK K;refine bu ?_;have HB5:=ab (HB4.out.set 0 (.slice a1 (i+1) c1) (.slice a1 (i+1) c1) (.slice ad i kd) rfl);generalize V4.setCell ⟨C,0,none⟩ (.slice a1 (i+1) c1)=V5 at *;refine az 19 ?_;refine az 20 ?_;refine cf 21 λK hK=>?_;have hy:=(af HB5.out.cell 1).trans (show _=some (.slice ad i kd) from rfl);have hz:=aO HB5.out.cell 1;go_simp
 clear hy hz;refine hK.out _ _ trivial (λam=>?_);clear hK K;refine bu ?_;have HB6:=ab (HB5.out.set 1 (.slice a2 (i+1) c2) (.slice a1 (i+1) c1) (.slice a2 (i+1) c2) rfl);generalize V5.setCell ⟨C,1,none⟩ (.slice a2 (i+1) c2)=V6 at *;refine fc ?_;clear am;go_wp2_with fail
 go_meet
 exact HFIN.out _ _ _ HB6.out):p:=h
theorem px {p:Prop} (h:p:=by
 refine cf 8 λK hK=>?_;refine bL rfl λQ' hQ=>?_;refine eU rfl (.tmp 40) (.tmp 42) 32 39 rfl Try.underlying32 pZ (.slice ar i kr) i _ (by rfl) HB2.out.rr br r (by rfl) HHr hi1000 ?_;intro vr1 V3 hr1 ho1 hf1;obtain ⟨a1,c1,e1,_⟩:=dw hr1;subst e1;refine hQ _ _ ?_;clear hQ Q';refine hK.out _ _ trivial (λam=>?_);clear hK K;refine bu ?_;have HB3:=ab (HB2.out.appR hr1 ho1 hf1);have HHd:=HB2.out.oldR HHd (by decide) ho1;clear hr1 ho1 hf1;exact mU):p:=h
theorem sN {p:Prop} (h:p:=by
 refine gJ 8 14 (λK hK=>?_) λK hK=>?_
 ·refine bL rfl λQ' hQ=>?_;refine eU rfl (.tmp 40) (.tmp 42) 32 39 rfl Try.underlying32 pZ (.slice ar i kr) i _ (by rfl) HB1.out.rr br r (by rfl) HHr hi1000 ?_;intro vr1 V2 hr1 ho1 hf1;obtain ⟨a1,c1,e1,_⟩:=dw hr1;subst e1;refine hQ _ _ ?_;clear hQ Q';refine hK.out _ _ trivial (λam=>?_);clear hK K;refine bu ?_;have HB2:=ab (HB1.out.appR hr1 ho1 hf1);clear hr1 ho1 hf1;refine cf 14 λK hK=>?_;go_simp
  refine hK.out _ _ trivial (λam=>?_);clear hK K;refine bu ?_;have HB3:=ab (HB2.out.alloc (.cells #[.pointer (some ⟨d,0,none⟩)] 54));have HHd:=aJ V2 (.cells #[.pointer (some ⟨d,0,none⟩)] 54);generalize V2.heap.size=bd at *;generalize V2.alloc (.cells #[.pointer (some ⟨d,0,none⟩)] 54)=V3 at *;exact mU
 ·go_simp
  refine hK.out _ _ trivial (λam=>?_);clear hK K;refine bu ?_;have HB2:=ab (HB1.out.alloc (.cells #[.pointer (some ⟨d,0,none⟩)] 54));have HHd:=aJ V1 (.cells #[.pointer (some ⟨d,0,none⟩)] 54);replace HHr:=bp HHr (.cells #[.pointer (some ⟨d,0,none⟩)] 54);generalize V1.heap.size=bd at *;generalize V1.alloc (.cells #[.pointer (some ⟨d,0,none⟩)] 54)=V2 at *;exact px):p:=h
theorem sM {p:Prop} (h:p:=by
 refine gJ 8 12 (λK hK=>?_) λK hK=>?_
 ·refine bL rfl λQ' hQ=>?_;refine eU rfl (.tmp 40) (.tmp 42) 32 39 rfl Try.underlying32 pZ (.slice ar i kr) i _ (by rfl) HB2.out.rr br r (by rfl) HHr hi1000 ?_;intro vr1 V3 hr1 ho1 hf1;obtain ⟨a1,c1,e1,_⟩:=dw hr1;subst e1;refine hQ _ _ ?_;clear hQ Q';refine hK.out _ _ trivial (λam=>?_);clear hK K;refine bu ?_;have HB3:=ab (HB2.out.appR hr1 ho1 hf1);have HHd:=HB2.out.oldR HHd (by decide) ho1;clear hr1 ho1 hf1;refine cf 12 λK hK=>?_;have hy1:=(af HB3.out.cell 1).trans (show _=some (.slice ad i kd) from rfl);go_simp
  clear hy1;refine hK.out _ _ trivial (λam=>?_);clear hK K;refine bu ?_;exact mU
 ·have hy1:=(af HB2.out.cell 1).trans (show _=some (.slice ad i kd) from rfl);go_simp
  clear hy1;refine hK.out _ _ trivial (λam=>?_);clear hK K;refine bu ?_;exact px):p:=h
theorem xI {p:Prop} (h:p:=by
 refine vH 8 12 14 (λK hK=>?_) (λK hK=>?_) λK hK=>?_
 ·refine bL rfl λQ' hQ=>?_;refine eU rfl (.tmp 40) (.tmp 42) 32 39 rfl Try.underlying32 pZ (.slice ar i kr) i _ (by rfl) HB1.out.rr br r (by rfl) HHr hi1000 ?_;intro vr1 V2 hr1 ho1 hf1;obtain ⟨a1,c1,e1,_⟩:=dw hr1;subst e1;refine hQ _ _ ?_;clear hQ Q';refine hK.out _ _ trivial (λam=>?_);clear hK K;refine bu ?_;have HB2:=ab (HB1.out.appR hr1 ho1 hf1);clear hr1 ho1 hf1;refine gJ 12 14 (λK hK=>?_) λK hK=>?_
  ·have hy1:=(af HB2.out.cell 1).trans (show _=some (.slice ad i kd) from rfl);go_simp
   clear hy1;refine hK.out _ _ trivial (λam=>?_);clear hK K;refine bu ?_;refine cf 14 λK hK=>?_;go_simp
   refine hK.out _ _ trivial (λam=>?_);clear hK K;refine bu ?_;have HB3:=ab (HB2.out.alloc (.cells #[.pointer (some ⟨d,0,none⟩)] 54));have HHd:=aJ V2 (.cells #[.pointer (some ⟨d,0,none⟩)] 54);generalize V2.heap.size=bd at *;generalize V2.alloc (.cells #[.pointer (some ⟨d,0,none⟩)] 54)=V3 at *;exact mU
  ·go_simp
   refine hK.out _ _ trivial (λam=>?_);clear hK K;refine bu ?_;have HB3:=ab (HB2.out.alloc (.cells #[.pointer (some ⟨d,0,none⟩)] 54));have HHd:=aJ V2 (.cells #[.pointer (some ⟨d,0,none⟩)] 54);generalize V2.heap.size=bd at *;generalize V2.alloc (.cells #[.pointer (some ⟨d,0,none⟩)] 54)=V3 at *;refine cf 12 λK hK=>?_;have hy1:=(af HB3.out.cell 1).trans (show _=some (.slice ad i kd) from rfl);go_simp
   clear hy1;refine hK.out _ _ trivial (λam=>?_);clear hK K;refine bu ?_;exact mU
 ·have hy1:=(af HB1.out.cell 1).trans (show _=some (.slice ad i kd) from rfl);go_simp
  clear hy1;refine hK.out _ _ trivial (λam=>?_);clear hK K;refine bu ?_;exact sN
 ·go_simp
  refine hK.out _ _ trivial (λam=>?_);clear hK K;refine bu ?_;have HB2:=ab (HB1.out.alloc (.cells #[.pointer (some ⟨d,0,none⟩)] 54));have HHd:=aJ V1 (.cells #[.pointer (some ⟨d,0,none⟩)] 54);replace HHr:=bp HHr (.cells #[.pointer (some ⟨d,0,none⟩)] 54);generalize V1.heap.size=bd at *;generalize V1.alloc (.cells #[.pointer (some ⟨d,0,none⟩)] 54)=V2 at *;exact sM):p:=h
theorem sL {p:Prop} (h:p:=by
 refine cf 7 λK hK=>?_;go_simp
 refine hK.out _ _ trivial (λam=>?_);clear hK K;refine bu ?_;have HB2:=ab (HB1.out.alloc (.cells #[.pointer (some ⟨r,0,none⟩)] 39));have HHr:=aJ V1 (.cells #[.pointer (some ⟨r,0,none⟩)] 39);replace HHd:=bp HHd (.cells #[.pointer (some ⟨r,0,none⟩)] 39);generalize V1.heap.size=br at *;generalize V1.alloc (.cells #[.pointer (some ⟨r,0,none⟩)] 39)=V2 at *;exact px):p:=h
theorem sK {p:Prop} (h:p:=by
 refine cf 5 λK hK=>?_;have hy0:=(af HB2.out.cell 0).trans (show _=some (.slice ar i kr) from rfl);go_simp
 clear hy0;refine hK.out _ _ trivial (λam=>?_);clear hK K;refine bu ?_;exact px):p:=h
theorem xH {p:Prop} (h:p:=by
 refine hK.out _ _ trivial (λam=>?_);clear hK K;refine bu ?_;refine gJ 7 14 (λK hK=>?_) λK hK=>?_
 ·go_simp
  refine hK.out _ _ trivial (λam=>?_);clear hK K;refine bu ?_;have HB1:=ab (HB0.out.alloc (.cells #[.pointer (some ⟨r,0,none⟩)] 39));have HHr:=aJ V0 (.cells #[.pointer (some ⟨r,0,none⟩)] 39);generalize V0.heap.size=br at *;generalize V0.alloc (.cells #[.pointer (some ⟨r,0,none⟩)] 39)=V1 at *;exact sN
 ·go_simp
  refine hK.out _ _ trivial (λam=>?_);clear hK K;refine bu ?_;have HB1:=ab (HB0.out.alloc (.cells #[.pointer (some ⟨d,0,none⟩)] 54));have HHd:=aJ V0 (.cells #[.pointer (some ⟨d,0,none⟩)] 54);generalize V0.heap.size=bd at *;generalize V0.alloc (.cells #[.pointer (some ⟨d,0,none⟩)] 54)=V1 at *;exact sL):p:=h
theorem xG {p:Prop} (h:p:=by
 refine gJ 7 12 (λK hK=>?_) λK hK=>?_
 ·go_simp
  refine hK.out _ _ trivial (λam=>?_);clear hK K;refine bu ?_;have HB2:=ab (HB1.out.alloc (.cells #[.pointer (some ⟨r,0,none⟩)] 39));have HHr:=aJ V1 (.cells #[.pointer (some ⟨r,0,none⟩)] 39);replace HHd:=bp HHd (.cells #[.pointer (some ⟨r,0,none⟩)] 39);generalize V1.heap.size=br at *;generalize V1.alloc (.cells #[.pointer (some ⟨r,0,none⟩)] 39)=V2 at *;exact sM
 ·have hy1:=(af HB1.out.cell 1).trans (show _=some (.slice ad i kd) from rfl);go_simp
  clear hy1;refine hK.out _ _ trivial (λam=>?_);clear hK K;refine bu ?_;exact sL):p:=h
theorem xF {p:Prop} (h:p:=by
 refine gJ 5 14 (λK hK=>?_) λK hK=>?_
 ·have hy0:=(af HB1.out.cell 0).trans (show _=some (.slice ar i kr) from rfl);go_simp
  clear hy0;refine hK.out _ _ trivial (λam=>?_);clear hK K;refine bu ?_;exact sN
 ·go_simp
  refine hK.out _ _ trivial (λam=>?_);clear hK K;refine bu ?_;have HB2:=ab (HB1.out.alloc (.cells #[.pointer (some ⟨d,0,none⟩)] 54));have HHd:=aJ V1 (.cells #[.pointer (some ⟨d,0,none⟩)] 54);replace HHr:=bp HHr (.cells #[.pointer (some ⟨d,0,none⟩)] 54);generalize V1.heap.size=bd at *;generalize V1.alloc (.cells #[.pointer (some ⟨d,0,none⟩)] 54)=V2 at *;exact sK):p:=h
theorem ug {p:Prop} (h:p:=by
 refine gJ 5 7 (λK hK=>?_) λK hK=>?_
 ·have hy0:=(af HB1.out.cell 0).trans (show _=some (.slice ar i kr) from rfl);go_simp
  clear hy0;refine hK.out _ _ trivial (λam=>?_);clear hK K;refine bu ?_;exact sL
 ·go_simp
  refine hK.out _ _ trivial (λam=>?_);clear hK K;refine bu ?_;have HB2:=ab (HB1.out.alloc (.cells #[.pointer (some ⟨r,0,none⟩)] 39));have HHr:=aJ V1 (.cells #[.pointer (some ⟨r,0,none⟩)] 39);replace HHd:=bp HHd (.cells #[.pointer (some ⟨r,0,none⟩)] 39);generalize V1.heap.size=br at *;generalize V1.alloc (.cells #[.pointer (some ⟨r,0,none⟩)] 39)=V2 at *;exact sK):p:=h
theorem uf {p:Prop} (h:p:=by
 refine gJ 5 12 (λK hK=>?_) λK hK=>?_
 ·have hy0:=(af HB2.out.cell 0).trans (show _=some (.slice ar i kr) from rfl);go_simp
  clear hy0;refine hK.out _ _ trivial (λam=>?_);clear hK K;refine bu ?_;exact sM
 ·have hy1:=(af HB2.out.cell 1).trans (show _=some (.slice ad i kd) from rfl);go_simp
  clear hy1;refine hK.out _ _ trivial (λam=>?_);clear hK K;refine bu ?_;exact sK):p:=h
theorem pZ:(Try.prog.info? 39).map (λi=>(i.zero,i.size,i.bytes))=some (some (.pointer none),1,8):=by kernel_rfl
theorem CB:(Try.prog.info? 54).map (λi=>(i.zero,i.size,i.bytes))=some (some (.pointer none),1,8):=by kernel_rfl
theorem eU {w:World} {ops:Array Oper} {rest:List Oper} {o:Oper} {a:Act} {Q:Exit->Act->World->Prop} (hgd:o.guard=none) (s x:Operand) (t e:TypeId)
  (ho:o.op = .call { callee:=.builtin .append,args:=#[s,x],argTypes:=#[t,t]}) (ht:Try.prog.underlying t=some (.slice e)) (hi:(Try.prog.info? e).map (λi=>(i.zero,i.size,i.bytes))=some (some (.pointer none),1,8))
  (v:Value) (i:Nat) (xs:List Value) (hs:a.eval s=v) (hown:w.ownsRow 0 e 1 v i xs) (H p:Nat) (hx:a.eval x = .slice (some ⟨H,0,none⟩) 1 1) (hH:w.heap[H]? = some (.cells #[ia p] e (0,0))) (hb:i<=1000)
  (h:∀v' w',w'.ownsRow 0 e 1 v' (i+1) (xs++[ia p])->Only v.ownBlock.toList w w'->(∀k,v'.ownBlock=some k->v.ownBlock=some k\/w.heap.size<=k)->wpList Try.prog ops Q rest (a.put o.dst v') w'):wpList Try.prog ops Q (o::rest) a w:=by
 obtain ⟨i0,hi0,hz0,hz1,hz2⟩:=info_parts hi;refine d7 hgd s x t ho e i0 (.pointer none) 1 8 ht hi0 hz0 hz1 hz2 rfl (by decide) v _ _ hs hown (some ⟨H,0,none⟩) 1 1 hx (λe=>by cases e) [ia p] (by rfl) (Ch hH) ?_ (by unfold maxLen;omega) (by omega) ?_
 ·intro u hu;rw [aj.1 hu];rfl
 ·intro v' w' g1 g2 g3;exact h v' w' g1 g2 g3
def CQ:Dk:=⟨1048576,false,1,none⟩
def wg (n j:Nat):Nod:=⟨dz j n 1 [],CQ,true⟩
def Mn.begun (n:Nat):Mn:={ nodes:=(List.range n).map (wg n),q:=[],long:=[],bad:=false,gn:=0 }
theorem lD (n j:Nat) (h:j<n):(Mn.begun n).at j=wg n j:=by
 unfold Mn.begun Mn.at;simp [aK,h]
structure BegC (w:World) (A Y:List Nat) (c n i:Nat) (rs ds ls:Nat->Nat) (Xs:Nat->List Nat) (vr vd:Value) (gu:Nat):Prop where
 cell:w.heap[c]? = some (.cells #[vr,vd,.slice (some ⟨gu,0,none⟩) n n,.slice none 0 0,.slice none 0 0,.slice none 0 0,.bool false] 38 (0,0))
 rr:w.ownsRow 0 39 1 vr i (f9 rs i)
 dr:w.ownsRow 0 54 1 vd i (f9 ds i)
 up:w.heap[gu]? = some (.cells (cQ (List.replicate i true++List.replicate (n - i) false)) 4 (0,0))
 node:∀j,j<i->NodeAt w A (Xs j) (rs j) (ds j) (ls j) (wg n j)
 cY:c∈Y
 rY:∀b,vr.ownBlock=some b->b∈Y
 dY:∀b,vd.ownBlock=some b->b∈Y
 uY:gu∈Y
 yx:∀j,j<i->Dis Y (Xs j)
 xx:∀j1 j2,j1<i->j2<i->j1≠j2->Dis (Xs j1) (Xs j2)
 yA:∀b∈Y,b∈A
 alt:∀b∈A,b<w.heap.size
section
variable {w w':World} {A A' Y Z Z':List Nat} {c n i:Nat} {S:Mn} {rs ds ls:Nat->Nat} {Xs:Nat->List Nat} {vr vd:Value} {gu:Nat} {qv gv lv:Value}
theorem BegC.keep {T:List Nat} (h:BegC w A Y c n i rs ds ls Xs vr vd gu) (ho:Only T w w') (hT:∀b∈T,b∈A) (hY:∀b∈Y,b∉T) (hX:∀j,j<i->∀b∈Xs j,b∉T) (he:Ext A A' w) (hs:∀b∈A,b∈A') (ha:∀b∈A',b<w'.heap.size):BegC w' A' Y c n i rs ds ls Xs vr vd gu :=
 ⟨ho.keeps h.cell (hY _ h.cY),bg h.rr ho (λb hb=>hY _ (h.rY b hb)),bg h.dr ho (λb hb=>hY _ (h.dY b hb)),ho.keeps h.up (hY _ h.uY),λj hj=>(h.node j hj).keep ho hT (hX j hj) he hs ha,
  h.cY,h.rY,h.dY,h.uY,h.yx,h.xx,λb hb=>hs b (h.yA b hb),ha⟩
theorem BegC.done (h:BegC w A Y c n n rs ds ls Xs vr vd gu) (hn:n<=5):SyC w A Y c n (Mn.begun n) rs ds ls Xs vr vd gu (.slice none 0 0) (.slice none 0 0) (.slice none 0 0):=by
 refine ⟨h.cell,h.rr,h.dr,?_,λj hj=>by rw [lD n j hj];exact h.node j hj,.inl ⟨rfl,rfl⟩,⟨[],World.ownsRow_nil _ _ _ _⟩,.inl ⟨rfl,rfl⟩,by simp [Mn.begun],hn,h.cY,h.rY,h.dY,h.uY,(λb hb=>by cases hb),h.yx,h.xx,h.yA,h.alt⟩;have e:(Mn.begun n).nodes.map Nod.up=List.replicate n true++List.replicate (n - n) false:=by
  unfold Mn.begun;simp only [pw,pu,List.replicate_zero,cF];apply List.ext_getElem<;>simp [wg]
 rw [e];exact h.up
theorem oP (f:Nat->Nat) (i x:Nat):f9 (gH f i x) (i+1)=f9 f i++[ia x]:=by
 unfold f9;rw [cE,bW];congr 1
 ·apply Dl;intro j hj;rw [de _ _ (by have:=cX.1 hj;omega)]
 ·simp [dC]
theorem yj (n i:Nat) (h:i<n):(List.replicate i true++List.replicate (n - i) false).set i true=List.replicate (i+1) true++List.replicate (n - (i+1)) false:=by
 rw [List.set_append_right _ _ (by simp),fF,pu,show n - i=(n - (i+1))+1 by omega,List.replicate_succ,ka,List.replicate_succ',bH];rfl
structure Beg9 (W wx:World) (c n i:Nat) (rs ds:Nat->Nat) (vr vd:Value) (gu r d:Nat):Prop where
 ex:∃vr' vd',wx.heap[c]? = some (.cells #[vr',vd',.slice (some ⟨gu,0,none⟩) n n,.slice none 0 0,.slice none 0 0,.slice none 0 0,.bool false] 38 (0,0))/\wx.ownsRow 0 39 1 vr' (i+1) (f9 rs i++[ia r])/\wx.ownsRow 0 54 1 vd' (i+1) (f9 ds i++[ia d]) /\
  Only (c::(vr.ownBlock.toList++vd.ownBlock.toList)) W wx/\(∀b,vr'.ownBlock=some b->vr.ownBlock=some b\/W.heap.size<=b)/\∀b,vd'.ownBlock=some b->vd.ownBlock=some b\/W.heap.size<=b
structure B9 (W V:World) (T:List Nat) (C n gu:Nat) (vr vd cr cd xr xd:Value) (nr nd:Nat) (lr ld:List Value):Prop where
 cell:V.heap[C]? = some (.cells #[cr,cd,.slice (some ⟨gu,0,none⟩) n n,.slice none 0 0,.slice none 0 0,.slice none 0 0,.bool false] 38 (0,0))
 rr:V.ownsRow 0 39 1 xr nr lr
 dr:V.ownsRow 0 54 1 xd nd ld
 only:Only T W V
 fr:∀b,xr.ownBlock=some b->vr.ownBlock=some b\/W.heap.size<=b
 fd:∀b,xd.ownBlock=some b->vd.ownBlock=some b\/W.heap.size<=b
 tr:∀b,vr.ownBlock=some b->b∈T
 td:∀b,vd.ownBlock=some b->b∈T
 tc:C∈T
section
variable {W V V':World} {T:List Nat} {C n gu:Nat} {vr vd cr cd xr xd:Value} {nr nd:Nat} {lr ld:List Value}
theorem B9.alloc (h:B9 W V T C n gu vr vd cr cd xr xd nr nd lr ld) (o:Obj):B9 W (V.alloc o) T C n gu vr vd cr cd xr xd nr nd lr ld :=
 have hb:Below V.heap.size V (V.alloc o):=(aB _ _).alloc (ah _) o
 ⟨bp h.cell o,fe h.rr hb,fe h.dr hb,h.only.trans (Only.ofBelow hb T),h.fr,h.fd,h.tr,h.td,h.tc⟩
theorem B9.onlyT (h:B9 W V T C n gu vr vd cr cd xr xd nr nd lr ld) {U:List Nat} (ho:Only U V V') (hU:∀b∈U,b∈T\/W.heap.size<=b):Only T W V' :=
 ⟨ho.os.trans h.only.os,ho.tape.trans h.only.tape,ho.output.trans h.only.output,aF h.only.size ho.size,λj hj hn=>(ho.block j (aH hj h.only.size) (λhm=>by
  rcases hU j hm with h1 | h1
  ·exact hn h1
  ·omega)).trans (h.only.block j hj hn)⟩
theorem B9.appR (h:B9 W V T C n gu vr vd cr cd xr xd nr nd lr ld) {v':Value} {m:Nat} {l':List Value} (hr:V'.ownsRow 0 39 1 v' m l') (ho:Only xr.ownBlock.toList V V') (hf:∀b,v'.ownBlock=some b->xr.ownBlock=some b\/V.heap.size<=b):B9 W V' T C n gu vr vd cr cd v' xd m nd l' ld:=by
 refine ⟨ho.keeps h.cell (λhm=>?_),hr,d8 h.dr ho (λj hj cur hc=>?_),h.onlyT ho (λb hb=>(h.fr b (by simpa using hb)).imp (h.tr b) id),λb hb=>?_,h.fd,h.tr,h.td,h.tc⟩
 ·have:=bU h.rr (show xr.ownBlock=some C by simpa using hm);rw [h.cell] at this;simp at this
 ·have:=bU h.rr (show xr.ownBlock=some j by simpa using hj);rw [hc] at this;simp at this
 ·rcases hf b hb with h1 | h1
  ·exact h.fr b h1
  ·exact .inr (aF h.only.size h1)
theorem B9.appD (h:B9 W V T C n gu vr vd cr cd xr xd nr nd lr ld) {v':Value} {m:Nat} {l':List Value} (hr:V'.ownsRow 0 54 1 v' m l') (ho:Only xd.ownBlock.toList V V') (hf:∀b,v'.ownBlock=some b->xd.ownBlock=some b\/V.heap.size<=b):B9 W V' T C n gu vr vd cr cd xr v' nr m lr l':=by
 refine ⟨ho.keeps h.cell (λhm=>?_),d8 h.rr ho (λj hj cur hc=>?_),hr,h.onlyT ho (λb hb=>(h.fd b (by simpa using hb)).imp (h.td b) id),h.fr,λb hb=>?_,h.tr,h.td,h.tc⟩
 ·have:=bU h.dr (show xd.ownBlock=some C by simpa using hm);rw [h.cell] at this;simp at this
 ·have:=bU h.dr (show xd.ownBlock=some j by simpa using hj);rw [hc] at this;simp at this
 ·rcases hf b hb with h1 | h1
  ·exact h.fd b h1
  ·exact .inr (aF h.only.size h1)
theorem B9.oldR (h:B9 W V T C n gu vr vd cr cd xr xd nr nd lr ld) {H:Nat} {cs:Array Value} {e:TypeId} (hH:V.heap[H]? = some (.cells cs e (0,0))) (he:e≠39) (ho:Only xr.ownBlock.toList V V'):V'.heap[H]? = some (.cells cs e (0,0)) :=
 ho.keeps hH (λhm=>by
  have:=bU h.rr (show xr.ownBlock=some H by simpa using hm);rw [hH] at this;simp at this;exact he this)
theorem B9.set (h:B9 W V T C n gu vr vd cr cd xr xd nr nd lr ld) (i:Nat) (x:Value) (c1 c2:Value) (hc:(#[cr,cd,.slice (some ⟨gu,0,none⟩) n n,.slice none 0 0,.slice none 0 0,.slice none 0 0,.bool false]:Array Value).setIfInBounds i x=#[c1,c2,.slice (some ⟨gu,0,none⟩) n n,.slice none 0 0,.slice none 0 0,.slice none 0 0,.bool false]) :
  B9 W (V.setCell ⟨C,i,none⟩ x) T C n gu vr vd c1 c2 xr xd nr nd lr ld:=by
 have ho:Only [C] V (V.setCell ⟨C,i,none⟩ x):=(Only.refl _ _).setCell (by simp) _;have hk:∀{v:Value} {e:TypeId} {k:Nat} {xs:List Value},V.ownsRow 0 e 1 v k xs->e≠38->(V.setCell ⟨C,i,none⟩ x).ownsRow 0 e 1 v k xs:=λ{v e k xs} hr he=>d8 hr ho (λj hj cur hc=>by
  rw [aj.1 hj,h.cell] at hc;simp at hc;exact he hc.2.symm)
 exact ⟨by rw [aZ h.cell,hc],hk h.rr (by decide),hk h.dr (by decide),h.onlyT ho (λb hb=>by rw [aj.1 hb];exact .inl h.tc),h.fr,h.fd,h.tr,h.td,h.tc⟩
end
theorem BegC.step {wx:World} {r d l:Nat} {X:List Nat} (h:BegC w A Y c n i rs ds ls Xs vr vd gu) (hi:i<n) (hn:Nd w A X r d l (dz i n 1 []) CQ) (hdy:Dis Y X) (hdx:∀j,j<i->Dis (Xs j) X) (h9:Beg9 w wx c n i rs ds vr vd gu r d) :
  ∃A' Y' vr' vd',BegC (wx.setCell ⟨gu,i,none⟩ (.bool true)) A' Y' c n (i+1) (gH rs i r) (gH ds i d) (gH ls i l) (gH Xs i X) vr' vd' gu/\Ext A A' w/\(∀b∈A,b∈A')/\(∃T,Only T w (wx.setCell ⟨gu,i,none⟩ (.bool true))/\∀b∈T,b∈Y)/\∀b∈Y',b∈Y\/w.heap.size<=b:=by
 obtain ⟨vr',vd',hc,hr,hd,ho,hnr,hnd⟩:=h9;have hTY:∀b∈gu::(c::(vr.ownBlock.toList++vd.ownBlock.toList)),b∈Y:=λb hb=>by
  rcases bG.1 hb with rfl | hb
  ·exact h.uY
  ·rcases bG.1 hb with rfl | hb
   ·exact h.cY
   ·rcases av.1 hb with hb | hb
    ·exact h.rY b (by simpa using hb)
    ·exact h.dY b (by simpa using hb)
 have hTA:=λb hb=>h.yA b (hTY b hb);have ho5:Only (gu::(c::(vr.ownBlock.toList++vd.ownBlock.toList))) w (wx.setCell ⟨gu,i,none⟩ (.bool true)):=(ho.mono (λb hb=>aI _ hb)).setCell (by simp) _;have hon:Only [gu] wx (wx.setCell ⟨gu,i,none⟩ (.bool true)):=(Only.refl _ _).setCell (by simp) _;have hguT:gu∉c::(vr.ownBlock.toList++vd.ownBlock.toList):=λhm=>by
  rcases bG.1 hm with e | hm
  ·exact b8 h.up h.cell (by decide) e
  ·rcases av.1 hm with hm | hm
   ·have:=bU h.rr (show vr.ownBlock=some gu by simpa using hm);rw [h.up] at this;simp at this
   ·have:=bU h.dr (show vd.ownBlock=some gu by simpa using hm);rw [h.up] at this;simp at this
 have hup:=ho.keeps h.up hguT;have hext:Ext A (A++(vr'.ownBlock.toList++vd'.ownBlock.toList)) w:=λb hb=>by
  rcases av.1 hb with hb | hb
  ·exact .inl hb
  ·rcases av.1 hb with hb | hb
   ·rcases hnr b (by simpa using hb) with h1 | h1
    ·exact .inl (h.yA b (h.rY b h1))
    ·exact .inr h1
   ·rcases hnd b (by simpa using hb) with h1 | h1
    ·exact .inl (h.yA b (h.dY b h1))
    ·exact .inr h1
 have hsub:∀b∈A,b∈A++(vr'.ownBlock.toList++vd'.ownBlock.toList):=λb hb=>aD _ hb;have halt:∀b∈A++(vr'.ownBlock.toList++vd'.ownBlock.toList),b<(wx.setCell ⟨gu,i,none⟩ (.bool true)).heap.size:=λb hb=>by
  rcases av.1 hb with hb | hb
  ·exact aH (h.alt b hb) ho5.size
  ·have:b<wx.heap.size:=by
    rcases av.1 hb with hb | hb
    ·exact (World.ownsRow.lt hr b (by simpa using hb)).2
    ·exact (World.ownsRow.lt hd b (by simpa using hb)).2
   simpa using this
 have hyn:∀b∈Y++(vr'.ownBlock.toList++vd'.ownBlock.toList),b∈Y\/w.heap.size<=b:=λb hb=>by
  rcases av.1 hb with hb | hb
  ·exact .inl hb
  ·rcases av.1 hb with hb | hb
   ·rcases hnr b (by simpa using hb) with h1 | h1
    ·exact .inl (h.rY b h1)
    ·exact .inr h1
   ·rcases hnd b (by simpa using hb) with h1 | h1
    ·exact .inl (h.dY b h1)
    ·exact .inr h1
 have hdis:∀P:List Nat,(∀b∈P,b<w.heap.size)->Dis Y P->Dis (Y++(vr'.ownBlock.toList++vd'.ownBlock.toList)) P:=λP hP hd b hb hp=>by
  rcases hyn b hb with h1 | h1
  ·exact hd b h1 hp
  ·have:=hP b hp;omega
 have hXA:∀b∈X,b∈A:=hn.xA;have hrow:∀{v:Value} {e:TypeId} {k:Nat} {xs:List Value},wx.ownsRow 0 e 1 v k xs->e≠4->(wx.setCell ⟨gu,i,none⟩ (.bool true)).ownsRow 0 e 1 v k xs:=λ{v e k xs} hr he=>by
  refine bg hr hon (λb hb hm=>?_);rw [aj.1 hm] at hb;have:=bU hr hb;rw [hup] at this;simp at this;exact he this.symm
 refine ⟨_,Y++(vr'.ownBlock.toList++vd'.ownBlock.toList),vr',vd',⟨?_,?_,?_,?_,λj hj=>?_,aD _ h.cY,λb hb=>aG _ (aD _ (by simp [hb])),λb hb=>aG _ (aG _ (by simp [hb])),aD _ h.uY,λj hj=>?_,λj1 j2 h1 h2 hne=>?_,λb hb=>?_,halt⟩,hext,hsub,⟨_,ho5,hTY⟩,hyn⟩
 ·exact hon.keeps hc (by simpa using (b8 hc hup (by decide)))
 ·rw [oP];exact hrow hr (by decide)
 ·rw [oP];exact hrow hd (by decide)
 ·rw [aZ hup,jo,yj n i hi]
 ·by_cases e:j=i
  ·subst e;rw [dC,dC,dC,dC];exact ⟨λ_=>hn.keepS ho5 hTA (λb hb hm=>hdy b (hTY b hm) hb) hext hsub halt,(λe=>by cases e),λb hb=>hsub b (hXA b hb)⟩
  ·rw [de _ _ e,de _ _ e,de _ _ e,de _ _ e];exact (h.node j (by omega)).keep ho5 hTA (λb hb hm=>h.yx j (by omega) b (hTY b hm) hb) hext hsub halt
 ·by_cases e:j=i
  ·subst e;rw [dC];exact hdis X (λb hb=>h.alt b (hXA b hb)) hdy
  ·rw [de _ _ e];exact hdis (Xs j) (λb hb=>h.alt b ((h.node j (by omega)).xA b hb)) (h.yx j (by omega))
 ·by_cases e1:j1=i
  ·subst e1;rw [dC,de _ _ (λe=>hne e.symm)];exact (hdx j2 (by omega)).symm
  ·by_cases e2:j2=i
   ·subst e2;rw [dC,de _ _ e1];exact hdx j1 (by omega)
   ·rw [de _ _ e1,de _ _ e2];exact h.xx j1 j2 (by omega) (by omega) hne
 ·rcases av.1 hb with hb | hb
  ·exact hsub b (h.yA b hb)
  ·exact aG _ hb
set_option maxHeartbeats 40000000 in
theorem pn (n:Nat) (hn:n<=5) (hA:∀b∈A,b<w.heap.size):Calls Try.prog 10 #[.int .i64 (n:Int)] w λe w'=>∃c A' Z,e = .returned (.pointer (some ⟨c,0,none⟩))/\Sy w' A' Z c n (Mn.begun n)/\Mv A A' [] Z w w':=by
 have hmk:=kK n hn;have HA:=ab hA;clear hA;go_enter Try.func10,Try.ntmps10
 go_upto_region 2 with (fail)
 have hb1:Below w.heap.size w (w.alloc (.cells (cQ (List.replicate n false)) 4)):=(aB _ _).alloc (ah _) _;have hb2:=hb1.alloc hb1.size (.cells #[.slice none 0 0,.slice none 0 0,.slice (some ⟨w.heap.size,0,none⟩) n n,.slice none 0 0,.slice none 0 0,.slice none 0 0,.bool false] 38);have hup:=bp (aJ w (.cells (cQ (List.replicate n false)) 4)) (.cells #[.slice none 0 0,.slice none 0 0,.slice (some ⟨w.heap.size,0,none⟩) n n,.slice none 0 0,.slice none 0 0,.slice none 0 0,.bool false] 38);have hce:=aJ (w.alloc (.cells (cQ (List.replicate n false)) 4)) (.cells #[.slice none 0 0,.slice none 0 0,.slice (some ⟨w.heap.size,0,none⟩) n n,.slice none 0 0,.slice none 0 0,.slice none 0 0,.bool false] 38);rw [show (w.alloc (.cells (cQ (List.replicate n false)) 4)).heap.size=w.heap.size+1 by simp] at hce;have HB2:=ab hb2;have HBEG:Hid (BegC ((w.alloc (.cells (cQ (List.replicate n false)) 4)).alloc (.cells #[.slice none 0 0,.slice none 0 0,.slice (some ⟨w.heap.size,0,none⟩) n n,.slice none 0 0,.slice none 0 0,.slice none 0 0,.bool false] 38)) (A++[w.heap.size,w.heap.size+1]) [w.heap.size,w.heap.size+1] (w.heap.size+1) n 0 (λ_=>0) (λ_=>0) (λ_=>0) (λ_=>[]) (.slice none 0 0) (.slice none 0 0) w.heap.size):=ab
  ⟨hce,World.ownsRow_nil _ _ _ _,World.ownsRow_nil _ _ _ _,by simpa using hup,λj hj=>by omega,by simp,(λb hb=>by cases hb),(λb hb=>by cases hb),by simp,λj hj=>by omega,λj1 j2 h1=>by omega,λb hb=>aG _ hb,λb hb=>by
   rcases av.1 hb with h1 | h1
   ·have:=HA.out b h1;simp;omega
   ·simp at h1 ⊢;omega⟩
 clear hb1 hb2 hup hce;generalize (w.alloc (.cells (cQ (List.replicate n false)) 4)).alloc (.cells #[.slice none 0 0,.slice none 0 0,.slice (some ⟨w.heap.size,0,none⟩) n n,.slice none 0 0,.slice none 0 0,.slice none 0 0,.bool false] 38)=w1 at *;go_wp2_with fail
 go_loopw [4] (λv wr=>∃(i:Nat) (A1 Y:List Nat) (rs ds ls:Nat->Nat) (Xs:Nat->List Nat) (vr vd:Value),i<=n/\v = .int .i64 (i:Int)/\BegC wr A1 Y (w.heap.size+1) n i rs ds ls Xs vr vd w.heap.size/\Below w.heap.size w wr/\Ext A A1 w/\(∀b∈A,b∈A1)/\(∀b∈Y,w.heap.size<=b)/\∀j,j<i->∀b∈Xs j,w.heap.size<=b) (λv _=>n - (intOf v).toNat)
 case atStart =>
  refine ⟨0,_,_,_,_,_,_,_,_,aA _,rfl,HBEG.out,HB2.out,λb hb=>?_,λb hb=>aD _ hb,λb hb=>by simp at hb;omega,λj hj=>by omega⟩;rcases av.1 hb with h1 | h1
  ·exact .inl h1
  ·right;simp at h1;omega
 case round =>
  obtain ⟨i,A1,Y,rs,ds,ls,Xs,vr,vd,hin,rfl,hbeg,hbl,hext,hsub,hyge,hxge⟩:=hrel;have HBG:=ab hbeg;have HBL:=ab hbl;have HEX:=ab (And.intro hext (And.intro hsub (And.intro hyge hxge)));clear hbeg hbl hext hsub hyge hxge;have q6:IntKind.i64.wrap ((i:Int)+1)=(i:Int)+1:=IntWalk.i64_in _ (by omega);by_cases hlt:i<n
  ·have hlt2:(i:Int)<(n:Int):=by omega
   go_wp2_with fail
   refine (Ct wr).mono ?_;rintro e w2 ⟨d,D,rfl,hdk,hb2,hDg⟩;have HDK:=ab hdk;have HB22:=ab hb2;have HDG:=ab hDg;clear hdk hb2 hDg;have hA2:∀b∈A1++D,b<w2.heap.size:=λb hb=>by
    rcases av.1 hb with h1 | h1
    · exact aH (HBG.out.alt b h1) HB22.out.size
    · exact HDK.out.lt b h1
   have HOP:=ab (nw HDK.out rfl i n hn hlt [] ⟨.inl ⟨rfl,rfl⟩⟩ (λx hx=>by cases hx) (by decide) trivial (by simp) hA2 (λb hb=>aG _ hb));have HA2:=ab hA2;clear hA2;go_wp2_with fail
   refine HOP.out.mono ?_;rintro e w3 ⟨r,l,A3,X3,rfl,hnd,hmv⟩;have HND:Hid (Nd w3 A3 X3 r d l (dz i n 1 []) CQ):=ab hnd;have HMV:=ab hmv;clear hnd hmv HOP;have hYD:∀b∈Y,b∉D:=λb hb hd=>by have:=HBG.out.alt b (HBG.out.yA b hb);have:=HDG.out b hd;omega
   have hXD:∀j,j<i->∀b∈Xs j,b∉D:=λj hj b hb hd=>by have:=HBG.out.alt b ((HBG.out.node j hj).xA b hb);have:=HDG.out b hd;omega
   have hB2:=HBG.out.keep (A':=A1++D) (T:=[]) (Only.ofBelow HB22.out []) (λb hb=>by cases hb) (λb _=>by simp) (λj _ b _=>by simp) (λb hb=>by
    rcases av.1 hb with h1 | h1
    · exact .inl h1
    · exact .inr (HDG.out b h1)) (λb hb=>aD _ hb) HA2.out
   have hB3:=hB2.keep (A':=A3) (T:=D) HMV.out.mv.only (λb hb=>aG _ hb) hYD hXD HMV.out.ext HMV.out.sub HND.out.alt;have hX3:∀P:List Nat,(∀b∈P,b<wr.heap.size)->Dis P X3:=λP hP b hb hx=>by
    have h0:=hP b hb;rcases HMV.out.mv.gr b hx with h1 | h1
    · have:=HDG.out b h1;omega
    · have:=HB22.out.size;omega
   have HDY:Hid (Dis Y X3):=ab (hX3 Y (λb hb=>HBG.out.alt b (HBG.out.yA b hb)));have HDX:Hid (∀j,j<i->Dis (Xs j) X3):=ab (λj hj=>hX3 (Xs j) (λb hb=>HBG.out.alt b ((HBG.out.node j hj).xA b hb)));have HB3:=ab hB3;obtain ⟨ar,kr,e9,_⟩:=dw hB3.rr;subst e9;obtain ⟨ad,kd,e9,_⟩:=dw hB3.dr;subst e9;have HGE:Hid (w.heap.size<=w3.heap.size/\Below w.heap.size w w2):=ab ⟨aF (HBL.out.trans (HB22.out.mono HBL.out.size)).size HMV.out.mv.only.size,HBL.out.trans (HB22.out.mono HBL.out.size)⟩;have HB9:Hid (B9 w3 w3.drew ((w.heap.size+1)::((Value.slice ar i kr).ownBlock.toList++(Value.slice ad i kd).ownBlock.toList)) (w.heap.size+1) n w.heap.size (.slice ar i kr) (.slice ad i kd) (.slice ar i kr) (.slice ad i kd) (.slice ar i kr) (.slice ad i kd) i i (f9 rs i) (f9 ds i)):=ab
    ⟨hB3.cell,fe hB3.rr (ap w3 1),fe hB3.dr (ap w3 1),Only.ofBelow (ap w3 1) _,λb hb=>.inl hb,λb hb=>.inl hb,λb hb=>aI _ (aD _ (by simp [hb])),λb hb=>aI _ (aG _ (by simp [hb])),aP⟩
   clear hYD hXD hB2 hB3 hX3;obtain ⟨C,hC⟩:∃C,C=w.heap.size+1:=⟨_,rfl⟩
   have HCE:=ab hC;have hi1000:i<=1000:=by omega
   have hcz3:w3.heap[C]? = some (.cells #[.slice ar i kr,.slice ad i kd,.slice (some ⟨w.heap.size,0,none⟩) n n,.slice none 0 0,.slice none 0 0,.slice none 0 0,.bool false] 38 (0,0)):=by rw [hC];exact HB3.out.cell
   rw [<-hC] at HB3 HB9 HBG ⊢;clear hC;go_upto_region 9 with (fail)
   obtain ⟨T9,hT9⟩:∃T9,T9=C::((Value.slice ar i kr).ownBlock.toList++(Value.slice ad i kd).ownBlock.toList):=⟨_,rfl⟩
   rw [<-hT9] at HB9;have HT9:=ab hT9;clear hT9;go_cut [] (λwx=>Beg9 w3 wx C n i rs ds (.slice ar i kr) (.slice ad i kd) w.heap.size r d)
   case first =>
    have HFIN:Hid (∀V v1 v2,B9 w3 V T9 C n w.heap.size (.slice ar i kr) (.slice ad i kd) v1 v2 v1 v2 (i+1) (i+1) (f9 rs i++[ia r]) (f9 ds i++[ia d])->Beg9 w3 V C n i rs ds (.slice ar i kr) (.slice ad i kd) w.heap.size r d):=ab (λV v1 v2 h=>⟨v1,v2,h.cell,h.rr,h.dr,by rw [<-HT9.out];exact h.only,h.fr,h.fd⟩);clear HBG HB22 HDK HDG HND HMV HDY HDX HB3 hcz3;generalize f9 rs i=lr at *;generalize f9 ds i=ld at *;generalize w.heap.size=gu at *;unfold ia at HFIN;as_aux_lemma =>
    refine wp_region_held_drew (S:=λ_=>True) (by kernel_rfl) trivial (λam=>?_);refine az 0 ?_;refine az 1 ?_;refine az 2 ?_;refine az 3 ?_;refine az 4 ?_;refine az 6 ?_;refine az 9 ?_;refine az 10 ?_;refine az 11 ?_;refine az 13 ?_;have HB0:=HB9;clear HB9;generalize w3.drew=V0 at *;refine Ds 5 7 12 14 (λK hK=>?_) (λK hK=>?_) (λK hK=>?_) λK hK=>?_
    ·have hy0:=(af HB0.out.cell 0).trans (show _=some (.slice ar i kr) from rfl);go_simp
     clear hy0;refine hK.out _ _ trivial (λam=>?_);clear hK K;refine bu ?_;refine vH 7 12 14 (λK hK=>?_) (λK hK=>?_) λK hK=>?_
     ·go_simp
      refine hK.out _ _ trivial (λam=>?_);clear hK K;refine bu ?_;have HB1:=ab (HB0.out.alloc (.cells #[.pointer (some ⟨r,0,none⟩)] 39));have HHr:=aJ V0 (.cells #[.pointer (some ⟨r,0,none⟩)] 39);generalize V0.heap.size=br at *;generalize V0.alloc (.cells #[.pointer (some ⟨r,0,none⟩)] 39)=V1 at *;exact xI
     ·have hy1:=(af HB0.out.cell 1).trans (show _=some (.slice ad i kd) from rfl);go_simp
      clear hy1;exact xH
     ·go_simp
      refine hK.out _ _ trivial (λam=>?_);clear hK K;refine bu ?_;have HB1:=ab (HB0.out.alloc (.cells #[.pointer (some ⟨d,0,none⟩)] 54));have HHd:=aJ V0 (.cells #[.pointer (some ⟨d,0,none⟩)] 54);generalize V0.heap.size=bd at *;generalize V0.alloc (.cells #[.pointer (some ⟨d,0,none⟩)] 54)=V1 at *;exact xG
    ·go_simp
     refine hK.out _ _ trivial (λam=>?_);clear hK K;refine bu ?_;have HB1:=ab (HB0.out.alloc (.cells #[.pointer (some ⟨r,0,none⟩)] 39));have HHr:=aJ V0 (.cells #[.pointer (some ⟨r,0,none⟩)] 39);generalize V0.heap.size=br at *;generalize V0.alloc (.cells #[.pointer (some ⟨r,0,none⟩)] 39)=V1 at *;refine vH 5 12 14 (λK hK=>?_) (λK hK=>?_) λK hK=>?_
     ·have hy0:=(af HB1.out.cell 0).trans (show _=some (.slice ar i kr) from rfl);go_simp
      clear hy0;refine hK.out _ _ trivial (λam=>?_);clear hK K;refine bu ?_;exact xI
     ·have hy1:=(af HB1.out.cell 1).trans (show _=some (.slice ad i kd) from rfl);go_simp
      clear hy1;refine hK.out _ _ trivial (λam=>?_);clear hK K;refine bu ?_;exact xF
     ·go_simp
      refine hK.out _ _ trivial (λam=>?_);clear hK K;refine bu ?_;have HB2:=ab (HB1.out.alloc (.cells #[.pointer (some ⟨d,0,none⟩)] 54));have HHd:=aJ V1 (.cells #[.pointer (some ⟨d,0,none⟩)] 54);replace HHr:=bp HHr (.cells #[.pointer (some ⟨d,0,none⟩)] 54);generalize V1.heap.size=bd at *;generalize V1.alloc (.cells #[.pointer (some ⟨d,0,none⟩)] 54)=V2 at *;exact uf
    ·have hy1:=(af HB0.out.cell 1).trans (show _=some (.slice ad i kd) from rfl);go_simp
     clear hy1;refine hK.out _ _ trivial (λam=>?_);clear hK K;refine bu ?_;refine vH 5 7 14 (λK hK=>?_) (λK hK=>?_) λK hK=>?_
     ·have hy0:=(af HB0.out.cell 0).trans (show _=some (.slice ar i kr) from rfl);go_simp
      clear hy0;exact xH
     ·go_simp
      refine hK.out _ _ trivial (λam=>?_);clear hK K;refine bu ?_;have HB1:=ab (HB0.out.alloc (.cells #[.pointer (some ⟨r,0,none⟩)] 39));have HHr:=aJ V0 (.cells #[.pointer (some ⟨r,0,none⟩)] 39);generalize V0.heap.size=br at *;generalize V0.alloc (.cells #[.pointer (some ⟨r,0,none⟩)] 39)=V1 at *;exact xF
     ·go_simp
      refine hK.out _ _ trivial (λam=>?_);clear hK K;refine bu ?_;have HB1:=ab (HB0.out.alloc (.cells #[.pointer (some ⟨d,0,none⟩)] 54));have HHd:=aJ V0 (.cells #[.pointer (some ⟨d,0,none⟩)] 54);generalize V0.heap.size=bd at *;generalize V0.alloc (.cells #[.pointer (some ⟨d,0,none⟩)] 54)=V1 at *;exact ug
    ·go_simp
     refine hK.out _ _ trivial (λam=>?_);clear hK K;refine bu ?_;have HB1:=ab (HB0.out.alloc (.cells #[.pointer (some ⟨d,0,none⟩)] 54));have HHd:=aJ V0 (.cells #[.pointer (some ⟨d,0,none⟩)] 54);generalize V0.heap.size=bd at *;generalize V0.alloc (.cells #[.pointer (some ⟨d,0,none⟩)] 54)=V1 at *;refine vH 5 7 12 (λK hK=>?_) (λK hK=>?_) λK hK=>?_
     ·have hy0:=(af HB1.out.cell 0).trans (show _=some (.slice ar i kr) from rfl);go_simp
      clear hy0;refine hK.out _ _ trivial (λam=>?_);clear hK K;refine bu ?_;exact xG
     ·go_simp
      refine hK.out _ _ trivial (λam=>?_);clear hK K;refine bu ?_;have HB2:=ab (HB1.out.alloc (.cells #[.pointer (some ⟨r,0,none⟩)] 39));have HHr:=aJ V1 (.cells #[.pointer (some ⟨r,0,none⟩)] 39);replace HHd:=bp HHd (.cells #[.pointer (some ⟨r,0,none⟩)] 39);generalize V1.heap.size=br at *;generalize V1.alloc (.cells #[.pointer (some ⟨r,0,none⟩)] 39)=V2 at *;exact uf
     ·have hy1:=(af HB1.out.cell 1).trans (show _=some (.slice ad i kd) from rfl);go_simp
      clear hy1;refine hK.out _ _ trivial (λam=>?_);clear hK K;refine bu ?_;exact ug
   case rest =>
   rename World=>w5;have hC:=HCE.out;clear HCE;subst hC;have H9:=ab hcut;clear hcut;obtain ⟨A6,Y6,vr6,vd6,hb6,he6,hs6,⟨T6,ho6,hT6⟩,hy6⟩:=HB3.out.step hlt HND.out HDY.out HDX.out H9.out;have HB6:=ab hb6;have HO6:=ab (And.intro he6 (And.intro hs6 (And.intro ho6 (And.intro hT6 hy6))));obtain ⟨vr5,vd5,hc5,_,_,ho5,_⟩:=H9.out;have hup5:w5.heap[w.heap.size]? = some (.cells (cQ (List.replicate i true++List.replicate (n - i) false)) 4 (0,0)):=by
    refine ho5.keeps HB3.out.up (λhm=>?_);rcases bG.1 hm with e | hm
    · exact b8 HB3.out.up HB3.out.cell (by decide) e
    · rcases av.1 hm with hm | hm
      ·have:=bU HB3.out.rr (show (Value.slice ar i kr).ownBlock=some w.heap.size by simpa using hm);rw [HB3.out.up] at this;simp at this
      ·have:=bU HB3.out.dr (show (Value.slice ad i kd).ownBlock=some w.heap.size by simpa using hm);rw [HB3.out.up] at this;simp at this
   have hk2:w5.cell? ⟨w.heap.size+1,2,none⟩=some (.slice (some ⟨w.heap.size,0,none⟩) n n):=by rw [af hc5];rfl
   have hzu:=aO hup5 i;obtain ⟨zu,hku⟩:∃z,w5.cell? ⟨w.heap.size,i,none⟩=some z:=by
    rw [af hup5];exact ⟨_,gp _ _ (by simp;omega)⟩
   clear hb6 he6 hs6 ho6 hT6 hy6 hc5 ho5 hup5 hcz3;go_wp2_with fail
   go_roundw
   case rel =>
    obtain ⟨he6,hs6,ho6,hT6,hy6⟩:=HO6.out;obtain ⟨hext,hsub,hyge,hxge⟩:=HEX.out;have hge3:=HGE.out.1;refine ⟨i+1,A6,Y6,gH rs i r,gH ds i d,gH ls i l,gH Xs i X3,vr6,vd6,by omega,by simp,?_,?_,λb hb=>?_,λb hb=>hs6 b (HMV.out.sub b (aD _ (hsub b hb))),λb hb=>?_,λj hj b hb=>?_⟩
    · exact HB6.out
    · have h1:Only [] w w3:=⟨HMV.out.mv.only.os.trans HGE.out.2.os,HMV.out.mv.only.tape.trans HGE.out.2.tape,HMV.out.mv.only.output.trans HGE.out.2.output,hge3,λk hk _=>(HMV.out.mv.only.block k (aH hk HGE.out.2.size) (λhm=>by have:=HDG.out k hm;have:=HBL.out.size;omega)).trans (HGE.out.2.block k hk)⟩
      refine ⟨ho6.os.trans h1.os,ho6.tape.trans h1.tape,ho6.output.trans h1.output,aF hge3 ho6.size,λk hk=>(ho6.block k (aH hk hge3) (λhm=>by have:=hyge k (hT6 k hm);omega)).trans (h1.block k hk (by simp))⟩
    · rcases he6 b hb with h1 | h1
      ·rcases HMV.out.ext b h1 with h2 | h2
       ·rcases av.1 h2 with h3 | h3
        ·exact hext b h3
        ·exact .inr (by have:=HDG.out b h3;have:=HBL.out.size;omega)
       ·exact .inr (by have:=HGE.out.2.size;omega)
      ·exact .inr (by omega)
    · rcases hy6 b hb with h1 | h1
      ·exact hyge b h1
      ·omega
    · by_cases e:j=i
      ·subst e;rw [dC] at hb;rcases HMV.out.mv.gr b hb with h1 | h1
       ·have:=HDG.out b h1;have:=HBL.out.size;omega
       ·have:=HGE.out.2.size;omega
      ·rw [de _ _ e] at hb;exact hxge j (by omega) b hb
   case measure=>simp [intOf];omega
  ·obtain rfl:i=n:=by omega
   have hlt2:¬(i:Int)<(i:Int):=by omega
   have HF:Hid (∃c A' Z,(w.heap.size+1=c)/\Sy wr A' Z c i (Mn.begun i)/\Mv A A' [] Z w wr):=ab (by
    obtain ⟨hext,hsub,hyge,hxge⟩:=HEX.out;have hd:=HBG.out.done hn;refine ⟨_,A1,Y++(List.range i).flatMap Xs,rfl,⟨_,_,_,_,_,_,_,_,_,_,_,hd,λb=>?_⟩,⟨⟨Only.ofBelow HBL.out [],λb hb=>?_,λb hb=>by cases hb⟩,hext,hsub⟩⟩
    · rw [av,List.mem_flatMap];constructor
      ·rintro (h1 | ⟨j,hj,h1⟩)
       ·exact .inl h1
       ·exact .inr ⟨j,cX.1 hj,h1⟩
      ·rintro (h1 | ⟨j,hj,h1⟩)
       ·exact .inl h1
       ·exact .inr ⟨j,cX.2 hj,h1⟩
    · rcases av.1 hb with h1 | h1
      ·exact .inr (hyge b h1)
      ·obtain ⟨j,hj,h2⟩:=List.mem_flatMap.1 h1;exact .inr (hxge j (cX.1 hj) b h2))
   go_wp2_with fail
   go_ret
   obtain ⟨c,A',Z,e,h1,h2⟩:=HF.out;exact ⟨c,by rw [<-e];rfl,A',Z,h1,h2⟩
end
end Go.Proofs.Ytnicaicjgaoolaa
