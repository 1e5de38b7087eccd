/-
  What the proof of the law leans on: contracts of the program's functions, one behind another. No condition.
-/
import Derived.Test.YtnicaicjgaoolaaT8
import Derived.Test.YtnicaicjgaoolaaT3
set_option linter.unusedVariables false
set_option linter.unusedSimpArgs false
namespace Go.Proofs.Ytnicaicjgaoolaa
open Go.RowKit Go.ChangeMaps Go.WideMaps Go.Maps
set_option maxRecDepth 20000
theorem info68:(Try.prog.info? 68).map (fun i=>(i.zero,i.size,i.bytes))=some (some (.agg #[.int .i64 0,.slice none 0 0]),2,32):=by kernel_rfl
section
variable {w w':World} {A A' X X':List Nat} {r d l:Nat} {s s':Rp} {k k':Dk}
/-- the value that [:n:n] of a row gives -/
def clipV (v:Value) (n:Nat):Value:=match v with | .slice ao _ _=>.slice ao n n | x=>x
theorem isE_len {v:Value} {es:List Ent} (h:IsE w A v es):∃ao c,v = .slice ao es.length c∧es.length≤c∧c≤9223372036854775807∧(ao=none→c=0)∧∀p,ao=some p→∃g,p=⟨g,0,none⟩:=by
 rcases h with ⟨rfl,rfl⟩ | ⟨g,c,cur,rfl,h1,h2,h3,h4,h5⟩
 ·exact ⟨none,0,rfl,by simp,by decide,fun _=>rfl,(fun p hp=>by cases hp)⟩
 ·exact ⟨_,c,rfl,h1,h2,(fun h=>by cases h),(fun p hp=>⟨g,by cases hp;rfl⟩)⟩
theorem append_ent {v u:Value} {es:List Ent} (h:IsE w A v es) (n:Nat) (hn:n≤es.length) (hb:es.length≤1000000) {H:Nat} {x:Ent} (hH:w.heap[H]? = some (.cells #[.int .i64 x.term,u] 68 (0,0))) (hu:Imm w A u x.bs) (hA:∀b∈A,b<w.heap.size) (ty:TypeId) :
  ∃c cur,(Builtin.append_ #[62,62] ty #[clipV v n,.slice (some ⟨H,0,none⟩) 1 1]).run Try.prog w = .ok (.slice (some ⟨w.heap.size,0,none⟩) (n+1) c) (w.drew.alloc (.cells cur 68))∧IsE (w.drew.alloc (.cells cur 68)) A (.slice (some ⟨w.heap.size,0,none⟩) (n+1) c) (es.take n++[x]):=by
 obtain ⟨i0,hi0,hz0,hz1,hz2⟩:=info_parts info68
 have hnews:∀j v,([Value.int .i64 x.term,u]:List Value)[j]? = some v→w.cell? ((⟨H,0,none⟩:Addr).add j)=some v:=by
  intro j v hj
  rw [Addr.add_lit,Nat.zero_add,cell_heap hH]
  match j,hj with
  | 0,hj=>simpa using hj
  | 1,hj=>simpa using hj
  | j+2,hj=>simp at hj
 rcases h with ⟨rfl,rfl⟩ | ⟨g,c,cur,rfl,h1,h2,h3,h4,h5⟩
 ·obtain rfl:n=0:=by simpa using hn
  have hr:=run_append_nil (P:=Try.prog) (w:=w) 62 ty 68 i0 (.agg #[.int .i64 0,.slice none 0 0]) Try.underlying62 hi0 hz0 ⟨H,0,none⟩ 1 1 [.int .i64 x.term,u] (by rw [hz1];rfl) hnews (by omega) (by omega) (by rw [hz2];omega)
  refine ⟨_,_,hr,.inr ⟨w.heap.size,_,_,rfl,?_,?_,fun hm=>?_,heap_new w.drew _,fun i hi=>?_⟩⟩
  ·simpa using grownCap_ge w 1 0 68
  ·exact Nat.le_trans (grownCap_le_maxLen w 1 0 68 (by unfold maxLen;omega)) (by unfold maxLen;omega)
  ·have:=hA _ hm;omega
  ·obtain rfl:i=0:=by simp at hi;omega
   exact ⟨u,by rw [Array.getElem?_append_left (by simp)];simp,by rw [Array.getElem?_append_left (by simp)];simp,hu.below (below_drewN w 1 |>.alloc (Nat.le_refl _) _)⟩
 ·have hcells:∀i,(hi:i<es.length)→∃u,cur[2*i]? = some (.int .i64 es[i].term)∧cur[2*i+1]? = some u∧Imm w A u es[i].bs:=fun i hi=>(h5 i hi).ex
  have hsz:2*es.length≤cur.size:=by
   rcases Nat.eq_zero_or_pos es.length with h0 | h0
   ·omega
   ·obtain ⟨u,_,k2,_⟩:=hcells (es.length - 1) (by omega)
    have:=(Array.getElem?_eq_some_iff.1 k2).1
    omega
  have hlo:(cur.toList.take (n*2)).length=n*2:=by rw [List.length_take,Array.length_toList];omega
  have hr:=run_append_grow (P:=Try.prog) (w:=w) 62 ty 68 i0 (.agg #[.int .i64 0,.slice none 0 0]) Try.underlying62 hi0 hz0 ⟨g,0,none⟩ n n (cur.toList.take (n*2)) (by rw [hz1];exact hlo)
   (by
    intro j v hj
    rw [Addr.add_lit,Nat.zero_add,cell_heap h4]
    rw [List.getElem?_take] at hj
    split at hj
    ·simpa using hj
    ·cases hj) ⟨H,0,none⟩ 1 1 [.int .i64 x.term,u] (by rw [hz1];rfl) hnews (by omega) (by omega) (growslice_fits (by omega) (by rw [hz2];omega))
  refine ⟨_,_,hr,.inr ⟨w.heap.size,grownCap w (n+1) n 68,_,?_,?_,?_,fun hm=>?_,heap_new w.drew _,fun i hi=>?_⟩⟩
  ·simp [Nat.min_eq_left hn]
  ·simpa [Nat.min_eq_left hn] using grownCap_ge w (n+1) n 68
  ·exact Nat.le_trans (grownCap_le_maxLen w (n+1) n 68 (by unfold maxLen;omega)) (by unfold maxLen;omega)
  ·have:=hA _ hm;omega
  ·have hi':i<n+1:=by simpa [Nat.min_eq_left hn] using hi
   have hbw:Below w.heap.size w (w.drew.alloc (.cells ((cur.toList.take (n*2)).toArray++[Value.int .i64 x.term,u].toArray++Builtin.zeroCells (Value.agg #[.int .i64 0,.slice none 0 0]).cells (grownCap w (n+1) n 68 - (n+1))) 68)):=below_drewN w 1 |>.alloc (Nat.le_refl _) _
   by_cases hlt:i<n
   ·obtain ⟨u1,k1,k2,k3⟩:=hcells i (by omega)
    refine ⟨u1,?_,?_,?_⟩
    ·rw [Array.append_assoc,Array.getElem?_append_left (by simp [hlo];omega)]
     simp only [List.getElem?_toArray,List.getElem?_take]
     rw [if_pos (by omega),Array.getElem?_toList,k1]
     simp [List.getElem_append_left,Nat.min_eq_left hn,hlt]
    ·rw [Array.append_assoc,Array.getElem?_append_left (by simp [hlo];omega)]
     simp only [List.getElem?_toArray,List.getElem?_take]
     rw [if_pos (by omega),Array.getElem?_toList,k2]
    ·have e:(es.take n++[x])[i]=es[i]:=by simp [List.getElem_append_left,Nat.min_eq_left hn,hlt]
     rw [e]
     exact k3.below hbw
   ·obtain rfl:i=n:=by omega
    have hl2:(cur.toList.take (i*2)).toArray.size=2*i:=by simp [hlo];omega
    have e:(es.take i++[x])[i]=x:=by simp [List.getElem_append_right,Nat.min_eq_left hn]
    rw [e]
    refine ⟨u,?_,?_,hu.below hbw⟩
    ·rw [Array.append_assoc,Array.getElem?_append_right (by omega),hl2,Nat.sub_self]
     rw [Array.getElem?_append_left (by simp)];simp
    ·rw [Array.append_assoc,Array.getElem?_append_right (by omega),hl2,show 2*i+1 - 2*i=1 by omega]
     rw [Array.getElem?_append_left (by simp)];simp
theorem wpList_append_ent {ops:Array Oper} {rest:List Oper} {o:Oper} {a:Act} {Q:Exit→Act→World→Prop} (hgd:o.guard=none) (sx x:Operand)
  (ho:o.op = .call { callee:=.builtin .append,args:=#[sx,x],argTypes:=#[62,62]})
  {v u:Value} {es:List Ent} (h:IsE w A v es) (n:Nat) (hn:n≤es.length) (hb:es.length≤1000000) {H:Nat} {y:Ent} (hH:w.heap[H]? = some (.cells #[.int .i64 y.term,u] 68 (0,0))) (hu:Imm w A u y.bs) (hA:∀b∈A,b<w.heap.size)
  (hs:a.eval sx=clipV v n) (hx:a.eval x = .slice (some ⟨H,0,none⟩) 1 1)
  (hk:∀c cur,IsE (w.drew.alloc (.cells cur 68)) A (.slice (some ⟨w.heap.size,0,none⟩) (n+1) c) (es.take n++[y])→wpList Try.prog ops Q rest (a.put o.dst (.slice (some ⟨w.heap.size,0,none⟩) (n+1) c)) (w.drew.alloc (.cells cur 68))):wpList Try.prog ops Q (o::rest) a w:=by
 obtain ⟨c,cur,hr,h2⟩:=append_ent h n hn hb hH hu hA o.type
 refine wpList_plain hgd fun K hK=>?_
 unfold Oper.wp
 simp [execOp,ho,resolve,invoke,builtin,hs,hx,hr,Result.andThen]
 exact hK _ _ (hk c cur h2)
end
end Go.Proofs.Ytnicaicjgaoolaa
namespace Go.Proofs.Ytnicaicjgaoolaa
open Go.RowKit Go.ChangeMaps Go.WideMaps Go.Maps
set_option maxRecDepth 20000
section
variable (p:String)
def z0jx0:Oper:=⟨some 7,.move (.tmp 0),39,p,#[],none⟩
def z0jx1:Oper:=⟨some 8,.move (.tmp 1),3,p,#[],none⟩
def z0jx2:Oper:=⟨some 9,.fieldAddr 68 (.tmp 5) 0,0,p,#[],none⟩
def z0jx3:Oper:=⟨some 10,.load 2 (.tmp 9),2,p,#[⟨2,.data⟩],none⟩
def z0jx4:Oper:=⟨some 13,.fieldAddr 68 (.tmp 5) 1,0,p,#[],none⟩
def z0jx5:Oper:=⟨some 14,.load 29 (.tmp 13),29,p,#[⟨6,.data⟩],none⟩
def z0jx6:Oper:=⟨some 15,.convert 29 9 (.tmp 14),9,p,#[⟨7,.data⟩],none⟩
def z0jx7:Oper:=⟨some 11,.buildSlice 49 3 #[(0,Operand.const (Value.int IntKind.i64 2)),(1,.tmp 8),(2,.tmp 10)],49,p,#[⟨1,.data⟩,⟨3,.data⟩],none⟩
def z0jx8:Oper:=⟨some 12,.call { callee:=Callee.value (Operand.func 51),args:=#[Operand.const (Value.slice none 0 0),.tmp 11],argTypes:=#[29,49]},29,p,#[⟨4,.data⟩],none⟩
def z0jx9:Oper:=⟨some 16,.call { callee:=Callee.value (Operand.func 66),args:=#[.tmp 12,.tmp 15],argTypes:=#[29,9]},29,p,#[⟨5,.data⟩,⟨8,.data⟩,⟨5,.chain⟩],none⟩
def z0jx10:Oper:=⟨some 17,.call { callee:=Callee.value (Operand.func 50),args:=#[.tmp 7,.tmp 16],argTypes:=#[39,29]},4,p,#[⟨0,.data⟩,⟨9,.data⟩,⟨9,.chain⟩],none⟩
def z0jx11:Oper:=⟨some 18,.unOp UnOp.not 4 (.tmp 17),4,p,#[⟨10,.data⟩],none⟩
def z0jx12:Oper:=⟨some 19,.move (.tmp 0),39,p,#[],none⟩
def z0jx13:Oper:=⟨some 20,.move (.tmp 0),39,p,#[],none⟩
def z0jx14:Oper:=⟨some 21,.nilCheck (.tmp 20),0,p,#[⟨1,.data⟩],none⟩
def z0jx15:Oper:=⟨some 22,.fieldAddr 66 (.tmp 21) 8,0,p,#[⟨2,.data⟩],none⟩
def z0jx16:Oper:=⟨some 24,.move (.tmp 1),3,p,#[],none⟩
def z0jx17:Oper:=⟨some 25,.move (.tmp 1),3,p,#[],none⟩
def z0jx18:Oper:=⟨some 27,.load 68 (.tmp 5),68,p,#[],none⟩
def z0jx19:Oper:=⟨some 23,.load 62 (.tmp 22),62,p,#[⟨3,.data⟩],none⟩
def z0jx20:Oper:=⟨some 28,.buildSlice 62 1 #[(0,.tmp 27)],62,p,#[⟨8,.data⟩],none⟩
def z0jx21:Oper:=⟨some 26,.slice 62 (.tmp 23) none (some (.tmp 24)) (some (.tmp 25)),62,p,#[⟨4,.data⟩,⟨5,.data⟩,⟨6,.data⟩],none⟩
def z0jx22:Oper:=⟨some 29,.call { callee:=Callee.builtin Builtin.append,args:=#[.tmp 26,.tmp 28],argTypes:=#[62,62]},62,p,#[⟨7,.data⟩,⟨9,.data⟩],none⟩
def z0jx23:Oper:=⟨some 30,.nilCheck (.tmp 19),0,p,#[⟨0,.data⟩,⟨0,.phase⟩,⟨1,.phase⟩,⟨2,.phase⟩,⟨3,.phase⟩,⟨4,.phase⟩,⟨5,.phase⟩,⟨6,.phase⟩,⟨7,.phase⟩,⟨8,.phase⟩,⟨9,.phase⟩,⟨10,.phase⟩],none⟩
def z0jx24:Oper:=⟨some 31,.fieldAddr 66 (.tmp 30) 8,0,p,#[⟨11,.data⟩,⟨0,.phase⟩,⟨1,.phase⟩,⟨2,.phase⟩,⟨3,.phase⟩,⟨4,.phase⟩,⟨5,.phase⟩,⟨6,.phase⟩,⟨7,.phase⟩,⟨8,.phase⟩,⟨9,.phase⟩,⟨10,.phase⟩],none⟩
def z0jx25:Oper:=⟨none,.store 62 (.tmp 31) (.tmp 29),0,p,#[⟨12,.data⟩,⟨10,.data⟩,⟨10,.chain⟩,⟨0,.phase⟩,⟨1,.phase⟩,⟨2,.phase⟩,⟨3,.phase⟩,⟨4,.phase⟩,⟨5,.phase⟩,⟨6,.phase⟩,⟨7,.phase⟩,⟨8,.phase⟩,⟨9,.phase⟩,⟨10,.phase⟩],none⟩
end
attribute [go_sem,reducible] z0jx0 z0jx1 z0jx2 z0jx3 z0jx4 z0jx5 z0jx6 z0jx7 z0jx8 z0jx9 z0jx10 z0jx11 z0jx12 z0jx13 z0jx14 z0jx15 z0jx16 z0jx17 z0jx18 z0jx19 z0jx20 z0jx21 z0jx22 z0jx23 z0jx24 z0jx25
theorem z0jxm0 {p:Prop} (h:p:=by
 refine qr1 10 (z0jx22 _) rfl fun K hK=>?_
 unfold z0jx22
 refine step_of_list rfl fun Q' hQ=>?_
 refine wpList_append_ent rfl (.tmp 26) (.tmp 28) rfl HC5.out.log p HLP2.out.1 HLP2.out.2 (y:=x) HX5.out HU5.out HC5.out.wd.alt (by rfl) (by rfl) ?_
 intro c7 cur7 he7
 refine hQ _ _ ?_
 clear hQ Q'
 have hB7:Below w5.heap.size w5 (w5.drew.alloc (.cells cur7 68)):=(below_drewN w5 1).alloc (Nat.le_refl _) _
 have HC7:=Lib.hid (HC5.out.below hB7)
 have HE7:=Lib.hid he7
 have HB7:=Lib.hid (HB5.out.trans (hB7.mono HB5.out.size))
 have hk7:=HS4.out _ HB7.out
 clear hB7 he7
 refine hK.out _ _ hk7 (fun hHeld=>?_)
 clear hK K
 refine qsp ?_
 generalize hw7:w5.drew.alloc (.cells cur7 68)=w7 at *
 have hsz7:w5.heap.size<w7.heap.size:=by rw [←hw7];simp
 clear hw7 hk7
 refine qtl 11 (z0jx23 _) rfl ?_
 refine qtl 12 (z0jx24 _) rfl ?_
 refine qr1 13 (z0jx25 _) rfl fun K hK=>?_
 unfold z0jx25
 have hy8:w7.cell? ⟨r,8,none⟩=some (.slice al s1.log.length cl):=by rw [cell_heap HC7.out.cell];rfl
 have hz8:=free_heap HC7.out.cell 8
 go_simp
 clear hy8 hz8
 have hk8:=HS5.out w7 _ HB7.out ((Only.refl [r] _).setCell (p:=⟨r,8,none⟩) (by simp) (.slice (some ⟨w5.heap.size,0,none⟩) (p+1) c7))
 refine hK.out _ _ hk8 (fun hHeld=>?_)
 clear hK K
 refine qsp ?_
 clear hk8
 refine qdn ?_
 go_wp2_with fail
 go_ret
 rw [HE.out]
 exact ⟨rfl,NdP.trans HM0.out (NdP.trans HM4.out (place_fin HX4.out HB7.out HC7.out HE7.out (Nat.le_of_lt hsz5) hsz7))⟩):p:=h
section
variable {w w':World} {A A' X X':List Nat} {r d l:Nat} {s s':Rp} {k k':Dk}
theorem strB_txt (l:List UInt8):txt (strB l)=be8 (l.length:Int)++l:=by unfold txt;rfl
theorem noteE_len (p:Nat) (x:Ent):(noteE p x).length=32+x.bs.length:=by unfold noteE;rw [List.length_append,List.length_append,be8s_len,be8_len];simp;omega
def entV (x:Ent) (u:Value):Value:=.agg #[.int .i64 x.term,u]
theorem place_fin {w4 w7:World} {A4 X4 D L R:List Nat} {s1:Rp} {k1:Dk} {vl:Value} {gv gn gm gh g c p:Nat} {x:Ent} (hX:∀b,b∈X4↔b∈D∨b∈L∨b∈R) (hb:Below w4.heap.size w4 w7) (h:NdC w7 A4 D L R r d l s1 k1 vl gv gn gm gh)
  (he:IsE w7 A4 (.slice (some ⟨g,0,none⟩) (p+1) c) (s1.log.take p++[x])) (hg:w4.heap.size≤g) (hg7:g<w7.heap.size) :
  NdP w4 (w7.setCell ⟨r,8,none⟩ (.slice (some ⟨g,0,none⟩) (p+1) c)) A4 X4 r d l { s1 with log:=s1.log.take p++[x]} k1:=by
 have ho:Only [r] w7 (w7.setCell ⟨r,8,none⟩ (.slice (some ⟨g,0,none⟩) (p+1) c)):=(Only.refl _ _).setCell (by simp) _
 have hS:∀b∈[r],b∈R:=fun b hb=>by rw [List.mem_singleton.1 hb];exact h.rR
 have hn:NdC (w7.setCell ⟨r,8,none⟩ (.slice (some ⟨g,0,none⟩) (p+1) c)) A4 D L R r d l { s1 with log:=s1.log.take p++[x]} k1 (.slice (some ⟨g,0,none⟩) (p+1) c) gv gn gm gh :=
  ⟨h.wd_only ho hS,by rw [heap_set h.cell];rfl,he.step ho (fun b hb=>h.rA b (hS b hb)) (Ext.refl _ _),ho.keeps h.votes (by simpa using heap_ne h.votes h.cell (by decide)),ho.keeps h.next (by simpa using heap_ne h.next h.cell (by decide)),ho.keeps h.mat (by simpa using heap_ne h.mat h.cell (by decide)),ho.keeps h.heard (by simpa using heap_ne h.heard h.cell (by decide)),h.nm,h.rR,h.vR,h.nR,h.mR,h.hR,h.dRD,h.dRL,h.rA⟩
 exact (hn.nd hX).ndp ((Mv.below hb).trans (Mv.only ho (fun b hb=>(hX b).2 (.inr (.inr (hS b hb))))))
set_option maxHeartbeats 2000000 in
theorem place_any (h:Nd w A X r d l s k) (hw:Wf s k) (p:Nat) (x:Ent) (hp:p≤s.log.length) (hx:x.bs.length≤8000) (u:Value) (hu:Imm w A u x.bs) :
  Calls Try.prog 46 #[.pointer (some ⟨r,0,none⟩),.int .i64 (p:Int),entV x u] w fun e w'=>e = .returned (.bool (placeM s k p x).1)∧NdP w w' A X r d l (placeM s k p x).2.1 (placeM s k p x).2.2:=by
 obtain ⟨ao,c,rfl,hu1,hu2,hu3⟩:=hu
 have HU:Hid (Imm w A (.slice ao x.bs.length c) x.bs):=Lib.hid ⟨ao,c,rfl,hu1,hu2,hu3⟩
 have HWA:=Lib.hid (show ∀b∈A,b<(w.alloc (.cells #[.int .i64 x.term,.slice ao x.bs.length c] 68)).heap.size from fun b hb=>by have:=h.alt b hb;simp;omega)
 have hbw0:Below w.heap.size w (w.alloc (.cells #[.int .i64 x.term,.slice ao x.bs.length c] 68)):=(Below.refl _ _).alloc (Nat.le_refl _) _
 have H0:=Lib.hid (h.below hbw0)
 have HM0:Hid (Mv A A X X w (w.alloc (.cells #[.int .i64 x.term,.slice ao x.bs.length c] 68))):=Lib.hid (Mv.below hbw0)
 have HU0:=Lib.hid (HU.out.below hbw0)
 have hbox:=Lib.hid (heap_new w (.cells #[.int .i64 x.term,.slice ao x.bs.length c] 68))
 have HP:Hid (∀W',Below (w.alloc (.cells #[.int .i64 x.term,.slice ao x.bs.length c] 68)).heap.size (w.alloc (.cells #[.int .i64 x.term,.slice ao x.bs.length c] 68)) W'→∀a3 c3,Imm W' A (.slice a3 (32+x.bs.length) c3) (noteE p x)→Calls Try.prog 50 #[.pointer (some ⟨r,0,none⟩),.slice a3 (32+x.bs.length) c3] W' fun e w'=>e = .returned (.bool (!(writeM s k (noteE p x)).1.done))∧NdP (w.alloc (.cells #[.int .i64 x.term,.slice ao x.bs.length c] 68)) w' A X r d l (writeM s k (noteE p x)).1 (writeM s k (noteE p x)).2):=Lib.hid (fun W' hb a3 c3 hi =>
  (write_any (H0.out.below hb) a3 _ c3 _ hi (by omega) (Nat.le_trans hw.big (by omega)) hw.room hw.tot hw.fl).mono (by rintro e w' ⟨h1,h2⟩;exact ⟨h1,h2.trans (Mv.below hb)⟩))
 have HNE:Hid (noteE p x=be8s [2,(p:Int),x.term]++txt (strB x.bs)):=Lib.hid (by rw [strB_txt];rfl)
 have HNL:=Lib.hid (noteE_len p x)
 have HSZ:Hid ((strB x.bs).size≤8000):=Lib.hid hx
 have HE:Hid (placeM s k p x=(let q:=writeM s k (noteE p x)
  if q.1.done then (false,q.1,q.2) else (true,{ q.1 with log:=q.1.log.take p++[x]},q.2))):=Lib.hid rfl
 have HXA:=Lib.hid h.xA
 have HLG:Hid ((writeM s k (noteE p x)).1.log=s.log):=Lib.hid (by unfold writeM;split<;>rfl)
 have HLP:Hid (p≤s.log.length∧s.log.length≤1000000):=Lib.hid ⟨hp,Nat.le_trans hw.logb (by omega)⟩
 have hlt:w.heap.size<(w.alloc (.cells #[.int .i64 x.term,.slice ao x.bs.length c] 68)).heap.size:=by simp
 have HLT:Hid (∀b∈X,b≠w.heap.size):=Lib.hid (fun b hb e=>by have:=h.alt b (h.xA b hb);omega)
 have HS1:Hid (∀w',Below (w.alloc (.cells #[.int .i64 x.term,.slice ao x.bs.length c] 68)).heap.size (w.alloc (.cells #[.int .i64 x.term,.slice ao x.bs.length c] 68)) w'→w'.cell? ⟨w.heap.size,0,none⟩=some (.int .i64 x.term)∧w'.cell? ⟨w.heap.size,1,none⟩=some (.slice ao x.bs.length c)∧(convert 29 9 (.slice ao x.bs.length c)).run Try.prog w' = .ok (.string (strB x.bs)) w'):=Lib.hid (fun w' hb=>by
  have hb2:=heap_below3 hb hlt hbox.out
  refine ⟨by rw [cell_heap hb2];rfl,by rw [cell_heap hb2];rfl,conv_any _ _ _ _ _ ?_⟩
  obtain ⟨ao',c',e,h1,_⟩:=HU0.out.below hb
  cases e
  exact h1)
 have HS2:Hid (∀w3 w4,Below (w.alloc (.cells #[.int .i64 x.term,.slice ao x.bs.length c] 68)).heap.size (w.alloc (.cells #[.int .i64 x.term,.slice ao x.bs.length c] 68)) w3→NdP (w.alloc (.cells #[.int .i64 x.term,.slice ao x.bs.length c] 68)) w4 A X r d l (writeM s k (noteE p x)).1 (writeM s k (noteE p x)).2→w4.cell? ⟨w.heap.size,0,none⟩=some (.int .i64 x.term)∧w4.cell? ⟨w.heap.size,1,none⟩=some (.slice ao x.bs.length c)∧(convert 29 9 (.slice ao x.bs.length c)).run Try.prog w4 = .ok (.string (strB x.bs)) w4):=Lib.hid (fun w3 w4 hb hn=>by
  obtain ⟨A4,X4,h4,m4⟩:=hn
  have hb2:=m4.mv.only.keeps hbox.out (fun hm=>HLT.out _ hm rfl)
  refine ⟨by rw [cell_heap hb2];rfl,by rw [cell_heap hb2];rfl,conv_any _ _ _ _ _ ?_⟩
  obtain ⟨ao',c',e,h1,_⟩:=HU0.out.step m4.mv.only HXA.out m4.ext
  cases e
  exact h1)
 clear h hw hu1 hu2 hu3 hx hp hbw0 hlt
 generalize writeM s k (noteE p x)=q at *
 obtain ⟨s1,k1⟩:=q
 unfold entV
 generalize x.bs.length=n at *
 simp only at HE HP HS2
 cases hd1:s1.done with
 | true =>
  rw [if_pos hd1] at HE
  rw [hd1] at HP
  go_enter Try.func46,Try.ntmps46
  go_upto_region 1 with (fail)
  generalize hW:w.alloc (.cells #[.int .i64 x.term,.slice ao n c] 68)=W at *
  refine wp_region_held_drew (S:=fun w'=>w'.cell? ⟨w.heap.size,0,none⟩=some (.int .i64 x.term)∧w'.cell? ⟨w.heap.size,1,none⟩=some (.slice ao n c)∧(convert 29 9 (.slice ao n c)).run Try.prog w' = .ok (.string (strB x.bs)) w') (by kernel_rfl) (HS1.out _ (below_drewN W 1)) (fun hHeld=>?_)
  refine qtl 0 (z0jx0 _) rfl ?_
  refine qtl 1 (z0jx1 _) rfl ?_
  refine qtl 2 (z0jx2 _) rfl ?_
  refine qtl 3 (z0jx3 _) rfl ?_
  refine qtl 6 (z0jx4 _) rfl ?_
  refine qtl 7 (z0jx5 _) rfl ?_
  refine qtl 8 (z0jx6 _) rfl ?_
  have HB0:Hid (Below W.heap.size W W.drew):=Lib.hid (below_drewN W 1)
  generalize W.drew=V at *
  refine qr1 4 (z0jx7 _) rfl fun K hK=>?_
  unfold z0jx7
  go_simp
  refine hK.out _ _ (HS1.out _ (HB0.out.alloc HB0.out.size _)) (fun hHeld=>?_)
  clear hK K
  refine qsp ?_
  refine qr1 5 (z0jx8 _) rfl fun K hK=>?_
  unfold z0jx8
  go_simp
  refine (pall_any none 0 0 [] (some ⟨V.heap.size,0,none⟩) 3 3 [2,(p:Int),x.term] _ (isB_nil _) (isI_new V [2,(p:Int),x.term] #[.int .i64 2,.int .i64 (p:Int),.int .i64 x.term] rfl 2 (0,0) V.heap.size rfl 3 rfl 3) (by omega) (by omega)).mono ?_
  rintro e w2 ⟨v2,rfl,ho2,hb2⟩
  have hbw:Below W.heap.size W w2:=(HB0.out.alloc HB0.out.size _).trans (hb2.mono (by have:=HB0.out.size;simp;omega))
  rw [List.nil_append] at ho2
  obtain ⟨a2,c2,e2,hi2⟩:=ho2.isB
  have hl24:(be8s [2,(p:Int),x.term]).length=24:=by rw [be8s_len];rfl
  rw [hl24] at e2 hi2
  subst e2
  have HI2:=Lib.hid hi2
  have HB2:=Lib.hid hbw
  clear ho2 hi2 hb2 hbw hl24
  go_wp2_with fail
  refine hK.out _ _ (HS1.out _ (HB2.out)) (fun hHeld=>?_)
  clear hK K
  refine qsp ?_
  refine qr1 9 (z0jx9 _) rfl fun K hK=>?_
  unfold z0jx9
  go_simp
  refine (text_any a2 24 c2 _ (strB x.bs) _ HI2.out (by omega) (by have:=HSZ.out;omega)).mono ?_
  rintro e w3 ⟨v3,rfl,ho3,hb3⟩
  have hbw:Below W.heap.size W w3:=HB2.out.trans (hb3.mono HB2.out.size)
  have himm:Imm w3 A v3 (noteE p x):=by
    rw [HNE.out]
    exact Imm.new (ho3.mono HB2.out.size) HWA.out
  obtain ⟨a3,c3,e3,_⟩:=id himm
  rw [HNL.out] at e3
  subst e3
  have HI3:=Lib.hid himm
  have HB3:=Lib.hid hbw
  clear ho3 hb3 hbw himm
  go_wp2_with fail
  refine hK.out _ _ (HS1.out _ (HB3.out)) (fun hHeld=>?_)
  clear hK K
  refine qsp ?_
  refine qr1 10 (z0jx10 _) rfl fun K hK=>?_
  unfold z0jx10
  go_simp
  refine (HP.out _ HB3.out _ _ HI3.out).mono ?_
  rintro e w4 ⟨rfl,hn4⟩
  have HN4:=Lib.hid hn4
  have HK4:=Lib.hid (HS2.out _ _ HB3.out hn4)
  clear hn4
  go_wp2_with fail
  refine hK.out _ _ HK4.out (fun hHeld=>?_)
  clear hK K
  refine qsp ?_
  refine qtl 11 (z0jx11 _) rfl ?_
  refine qdn ?_
  go_wp2_with fail
  go_ret
  rw [HE.out]
  exact ⟨rfl,HN4.out.trans HM0.out⟩
 | false =>
  rw [if_neg (by rw [hd1];decide)] at HE
  rw [hd1] at HP
  go_enter Try.func46,Try.ntmps46
  go_upto_region 1 with (fail)
  generalize hW:w.alloc (.cells #[.int .i64 x.term,.slice ao n c] 68)=W at *
  refine wp_region_held_drew (S:=fun w'=>w'.cell? ⟨w.heap.size,0,none⟩=some (.int .i64 x.term)∧w'.cell? ⟨w.heap.size,1,none⟩=some (.slice ao n c)∧(convert 29 9 (.slice ao n c)).run Try.prog w' = .ok (.string (strB x.bs)) w') (by kernel_rfl) (HS1.out _ (below_drewN W 1)) (fun hHeld=>?_)
  refine qtl 0 (z0jx0 _) rfl ?_
  refine qtl 1 (z0jx1 _) rfl ?_
  refine qtl 2 (z0jx2 _) rfl ?_
  refine qtl 3 (z0jx3 _) rfl ?_
  refine qtl 6 (z0jx4 _) rfl ?_
  refine qtl 7 (z0jx5 _) rfl ?_
  refine qtl 8 (z0jx6 _) rfl ?_
  have HB0:Hid (Below W.heap.size W W.drew):=Lib.hid (below_drewN W 1)
  generalize W.drew=V at *
  refine qr1 4 (z0jx7 _) rfl fun K hK=>?_
  unfold z0jx7
  go_simp
  refine hK.out _ _ (HS1.out _ (HB0.out.alloc HB0.out.size _)) (fun hHeld=>?_)
  clear hK K
  refine qsp ?_
  refine qr1 5 (z0jx8 _) rfl fun K hK=>?_
  unfold z0jx8
  go_simp
  refine (pall_any none 0 0 [] (some ⟨V.heap.size,0,none⟩) 3 3 [2,(p:Int),x.term] _ (isB_nil _) (isI_new V [2,(p:Int),x.term] #[.int .i64 2,.int .i64 (p:Int),.int .i64 x.term] rfl 2 (0,0) V.heap.size rfl 3 rfl 3) (by omega) (by omega)).mono ?_
  rintro e w2 ⟨v2,rfl,ho2,hb2⟩
  have hbw:Below W.heap.size W w2:=(HB0.out.alloc HB0.out.size _).trans (hb2.mono (by have:=HB0.out.size;simp;omega))
  rw [List.nil_append] at ho2
  obtain ⟨a2,c2,e2,hi2⟩:=ho2.isB
  have hl24:(be8s [2,(p:Int),x.term]).length=24:=by rw [be8s_len];rfl
  rw [hl24] at e2 hi2
  subst e2
  have HI2:=Lib.hid hi2
  have HB2:=Lib.hid hbw
  clear ho2 hi2 hb2 hbw hl24
  go_wp2_with fail
  refine hK.out _ _ (HS1.out _ (HB2.out)) (fun hHeld=>?_)
  clear hK K
  refine qsp ?_
  refine qr1 9 (z0jx9 _) rfl fun K hK=>?_
  unfold z0jx9
  go_simp
  refine (text_any a2 24 c2 _ (strB x.bs) _ HI2.out (by omega) (by have:=HSZ.out;omega)).mono ?_
  rintro e w3 ⟨v3,rfl,ho3,hb3⟩
  have hbw:Below W.heap.size W w3:=HB2.out.trans (hb3.mono HB2.out.size)
  have himm:Imm w3 A v3 (noteE p x):=by
    rw [HNE.out]
    exact Imm.new (ho3.mono HB2.out.size) HWA.out
  obtain ⟨a3,c3,e3,_⟩:=id himm
  rw [HNL.out] at e3
  subst e3
  have HI3:=Lib.hid himm
  have HB3:=Lib.hid hbw
  clear ho3 hb3 hbw himm
  go_wp2_with fail
  refine hK.out _ _ (HS1.out _ (HB3.out)) (fun hHeld=>?_)
  clear hK K
  refine qsp ?_
  refine qr1 10 (z0jx10 _) rfl fun K hK=>?_
  unfold z0jx10
  go_simp
  refine (HP.out _ HB3.out _ _ HI3.out).mono ?_
  rintro e w4 ⟨rfl,hn4⟩
  have HN4:=Lib.hid hn4
  have HK4:=Lib.hid (HS2.out _ _ HB3.out hn4)
  clear hn4
  go_wp2_with fail
  refine hK.out _ _ HK4.out (fun hHeld=>?_)
  clear hK K
  refine qsp ?_
  refine qtl 11 (z0jx11 _) rfl ?_
  refine qdn ?_
  obtain ⟨A4,X4,h4,m4⟩:=HN4.out
  have HM4:=Lib.hid m4
  have HU4:=Lib.hid (HU0.out.step m4.mv.only HXA.out m4.ext)
  have HBX4:=Lib.hid (m4.mv.only.keeps hbox.out (fun hm=>HLT.out _ hm rfl))
  obtain ⟨D,L,R,vl,gv,gn,gm,gh,h4,hX4⟩:=h4
  have HX4:=Lib.hid hX4
  have HC4:=Lib.hid h4
  have HCD:Hid (NdC w4.drew A4 D L R r d l s1 k1 vl gv gn gm gh):=Lib.hid (h4.below (below_drewN w4 1))
  have HHA:Hid (∀b∈R,b≠w.heap.size):=Lib.hid (fun b hb e=>by
    rcases m4.mv.gr b ((hX4 b).2 (.inr (.inr hb))) with h1 | h1
    ·exact HLT.out b h1 e
    ·have:=lt_of_heap hbox.out;omega)
  have HS4:Hid (∀w',Below w4.heap.size w4 w'→w'.cell? ⟨w.heap.size,0,none⟩=some (.int .i64 x.term)∧w'.cell? ⟨w.heap.size,1,none⟩=some (.slice ao n c)):=Lib.hid (fun w' hb=>by
    have hb2:=heap_below3 hb (lt_of_heap HBX4.out) HBX4.out
    exact ⟨by rw [cell_heap hb2];rfl,by rw [cell_heap hb2];rfl⟩)
  have HS5:Hid (∀w7 w8,Below w4.heap.size w4 w7→Only [r] w7 w8→w8.cell? ⟨w.heap.size,0,none⟩=some (.int .i64 x.term)∧w8.cell? ⟨w.heap.size,1,none⟩=some (.slice ao n c)):=Lib.hid (fun w7 w8 hb ho=>by
    have hb2:=ho.keeps (heap_below3 hb (lt_of_heap HBX4.out) HBX4.out) (by simpa using (HHA.out r HC4.out.rR).symm)
    exact ⟨by rw [cell_heap hb2];rfl,by rw [cell_heap hb2];rfl⟩)
  have HLP2:Hid (p≤s1.log.length∧s1.log.length≤1000000):=Lib.hid (by rw [HLG.out];exact HLP.out)
  obtain ⟨al,cl,evl,hcl,hcm,hcn,hcg⟩:=isE_len h4.log
  subst evl
  have hll:p≤cl:=Nat.le_trans HLP2.out.1 hcl
  clear h4 m4 hX4 HN4
  go_upto_region 3 with (fail)
  refine wp_region_held_drew (S:=fun w'=>w'.cell? ⟨w.heap.size,0,none⟩=some (.int .i64 x.term)∧w'.cell? ⟨w.heap.size,1,none⟩=some (.slice ao n c)) (by kernel_rfl) (HS4.out _ (below_drewN w4 1)) (fun hHeld=>?_)
  refine qtl 0 (z0jx12 _) rfl ?_
  refine qtl 1 (z0jx13 _) rfl ?_
  refine qtl 2 (z0jx14 _) rfl ?_
  refine qtl 3 (z0jx15 _) rfl ?_
  refine qtl 5 (z0jx16 _) rfl ?_
  refine qtl 6 (z0jx17 _) rfl ?_
  refine qtl 8 (z0jx18 _) rfl ?_
  have HB44:Hid (Below w4.heap.size w4 w4.drew):=Lib.hid (below_drewN w4 1)
  generalize w4.drew=V4 at *
  refine qr2 4 9 (z0jx19 _) (z0jx20 _) rfl rfl (fun K hK=>?_) fun K hK=>?_
  ·unfold z0jx19
   have hy8:V4.cell? ⟨r,8,none⟩=some (.slice al s1.log.length cl):=by rw [cell_heap HCD.out.cell];rfl
   go_simp
   clear hy8
   refine hK.out _ _ hHeld (fun hHeld=>?_)
   clear hK K
   refine qsp ?_
   refine qtl 7 (z0jx21 _) rfl ?_
   refine qr1 9 (z0jx20 _) rfl fun K hK=>?_
   unfold z0jx20
   go_simp
   have hB1:Below w4.heap.size w4 (V4.alloc (.cells #[.int .i64 x.term,.slice ao n c] 68)):=HB44.out.alloc HB44.out.size _
   have HC5:=Lib.hid (HC4.out.below hB1)
   have HU5:=Lib.hid (HU4.out.below hB1)
   have HX5:=Lib.hid (heap_new V4 (.cells #[.int .i64 x.term,.slice ao n c] 68))
   have HB5:=Lib.hid hB1
   have hk5:=HS4.out _ hB1
   clear hB1
   refine hK.out _ _ hk5 (fun hHeld=>?_)
   clear hK K
   refine qsp ?_
   generalize hw5:V4.alloc (.cells #[.int .i64 x.term,.slice ao n c] 68)=w5 at *
   have hsz5:w4.heap.size<w5.heap.size:=by have:=HB44.out.size;rw [←hw5];simp;omega
   clear hw5 hk5
   exact z0jxm0
  ·unfold z0jx20
   go_simp
   have hB1:Below w4.heap.size w4 (V4.alloc (.cells #[.int .i64 x.term,.slice ao n c] 68)):=HB44.out.alloc HB44.out.size _
   have HC5:=Lib.hid (HC4.out.below hB1)
   have HU5:=Lib.hid (HU4.out.below hB1)
   have HX5:=Lib.hid (heap_new V4 (.cells #[.int .i64 x.term,.slice ao n c] 68))
   have HB5:=Lib.hid hB1
   have hk5:=HS4.out _ hB1
   clear hB1
   refine hK.out _ _ hk5 (fun hHeld=>?_)
   clear hK K
   refine qsp ?_
   generalize hw5:V4.alloc (.cells #[.int .i64 x.term,.slice ao n c] 68)=w5 at *
   have hsz5:w4.heap.size<w5.heap.size:=by have:=HB44.out.size;rw [←hw5];simp;omega
   clear hw5 hk5
   refine qr1 4 (z0jx19 _) rfl fun K hK=>?_
   unfold z0jx19
   have hy8:w5.cell? ⟨r,8,none⟩=some (.slice al s1.log.length cl):=by rw [cell_heap HC5.out.cell];rfl
   go_simp
   clear hy8
   refine hK.out _ _ hHeld (fun hHeld=>?_)
   clear hK K
   refine qsp ?_
   refine qtl 7 (z0jx21 _) rfl ?_
   exact z0jxm0
end
end Go.Proofs.Ytnicaicjgaoolaa
namespace Go.Proofs.Ytnicaicjgaoolaa
open Go.RowKit Go.ChangeMaps Go.WideMaps Go.Maps
set_option maxRecDepth 20000
section
variable (p:String)
def z0kx0:Oper:=⟨some 5,.move (.tmp 0),39,p,#[],none⟩
def z0kx1:Oper:=⟨some 6,.move (.tmp 0),39,p,#[],none⟩
def z0kx2:Oper:=⟨some 7,.nilCheck (.tmp 6),0,p,#[⟨1,.data⟩],none⟩
def z0kx3:Oper:=⟨some 8,.fieldAddr 66 (.tmp 7) 8,0,p,#[⟨2,.data⟩],none⟩
def z0kx4:Oper:=⟨some 9,.load 62 (.tmp 8),62,p,#[⟨3,.data⟩],none⟩
def z0kx5:Oper:=⟨some 11,.load 68 (.tmp 3),68,p,#[],none⟩
def z0kx6:Oper:=⟨some 10,.call { callee:=Callee.builtin Builtin.len,args:=#[.tmp 9],argTypes:=#[62]},3,p,#[⟨4,.data⟩],none⟩
def z0kx7:Oper:=⟨some 12,.call { callee:=Callee.value (Operand.func 46),args:=#[.tmp 5,.tmp 10,.tmp 11],argTypes:=#[39,3,68]},4,p,#[⟨0,.data⟩,⟨5,.data⟩,⟨6,.data⟩],none⟩
def z0kx8:Oper:=⟨some 13,.move (.tmp 12),4,p,#[⟨7,.data⟩,⟨7,.chain⟩],none⟩
def z0kx9:Oper:=⟨some 14,.move (.tmp 0),39,p,#[⟨8,.guard⟩],some (8,true)⟩
def z0kx10:Oper:=⟨some 15,.call { callee:=Callee.value (Operand.func 47),args:=#[.tmp 14],argTypes:=#[39]},4,p,#[⟨9,.data⟩,⟨8,.chain⟩,⟨8,.guard⟩],some (8,true)⟩
def z0kx11:Oper:=⟨some 16,.pick (.tmp 13) (.tmp 15) (Operand.const (Value.bool false)),4,p,#[⟨8,.data⟩,⟨10,.data⟩],none⟩
def z0kx12:Oper:=⟨some 4,.assign (.tmp 16),4,p,#[⟨11,.data⟩,⟨10,.chain⟩,⟨0,.phase⟩,⟨1,.phase⟩,⟨2,.phase⟩,⟨3,.phase⟩,⟨4,.phase⟩,⟨5,.phase⟩,⟨6,.phase⟩,⟨7,.phase⟩,⟨8,.phase⟩,⟨9,.phase⟩,⟨10,.phase⟩,⟨11,.phase⟩],none⟩
end
attribute [go_sem,reducible] z0kx0 z0kx1 z0kx2 z0kx3 z0kx4 z0kx5 z0kx6 z0kx7 z0kx8 z0kx9 z0kx10 z0kx11 z0kx12
theorem z0kxm0 {p:Prop} (h:p:=by
 refine qr1 7 (z0kx7 _) rfl fun K hK=>?_
 unfold z0kx7
 go_simp
 refine (HP.out _ (below_drewN _ _)).mono ?_
 rintro e w2 ⟨rfl,hn2⟩
 have HN2:=Lib.hid hn2
 clear hn2
 go_wp2_with fail
 refine hK.out _ _ trivial (fun hHeld=>?_)
 clear hK K
 refine qsp ?_
 refine qtl 8 (z0kx8 _) rfl ?_
 refine qtu 9 (z0kx9 _) rfl ?_
 refine qtu 10 (z0kx10 _) rfl ?_
 refine qtl 11 (z0kx11 _) rfl ?_
 refine qtl 12 (z0kx12 _) rfl ?_
 refine qdn ?_
 go_wp2_with fail
 go_ret
 rw [HE.out]
 exact ⟨rfl,HN2.out⟩):p:=h
theorem z0kxm1 {p:Prop} (h:p:=by
 refine qr1 7 (z0kx7 _) rfl fun K hK=>?_
 unfold z0kx7
 go_simp
 refine (HP.out _ (below_drewN _ _)).mono ?_
 rintro e w2 ⟨rfl,hn2⟩
 have HN2:=Lib.hid hn2
 clear hn2
 go_wp2_with fail
 refine hK.out _ _ trivial (fun hHeld=>?_)
 clear hK K
 refine qsp ?_
 refine qtl 8 (z0kx8 _) rfl ?_
 refine qtl 9 (z0kx9 _) rfl ?_
 refine qr1 10 (z0kx10 _) rfl fun K hK=>?_
 unfold z0kx10
 obtain ⟨A2,X2,h2,m2⟩:=HN2.out
 go_simp
 refine (HS.out _ _ _ h2).mono ?_
 rintro e w3 ⟨rfl,hn3⟩
 have HN3:=Lib.hid (hn3.trans m2)
 clear hn3 h2 m2
 go_wp2_with fail
 refine hK.out _ _ trivial (fun hHeld=>?_)
 clear hK K
 refine qsp ?_
 refine qtl 11 (z0kx11 _) rfl ?_
 refine qtl 12 (z0kx12 _) rfl ?_
 refine qdn ?_
 go_wp2_with fail
 go_ret
 rw [HE.out]
 exact ⟨rfl,HN3.out⟩):p:=h
section
variable {w w':World} {A A' X X':List Nat} {r d l:Nat} {s s':Rp} {k k':Dk}
theorem Nd.loglen (h:Nd w A X r d l s k):∃ao c,w.cell? ⟨r,8,none⟩=some (.slice ao s.log.length c)∧s.log.length≤c∧c≤9223372036854775807:=by
 obtain ⟨D,L,R,vl,gv,gn,gm,gh,h,hX⟩:=h
 obtain ⟨ao,c,e,h1,h2,_⟩:=isE_len h.log
 exact ⟨ao,c,by rw [cell_heap h.cell,←e];rfl,h1,h2⟩
set_option maxHeartbeats 2000000 in
theorem put_any (h:Nd w A X r d l s k) (hw:Wf s k) (x:Ent) (hx:x.bs.length≤8000) (u:Value) (hu:Imm w A u x.bs) :
  Calls Try.prog 28 #[.pointer (some ⟨r,0,none⟩),entV x u] w fun e w'=>e = .returned (.bool (putM s k x).1)∧NdP w w' A X r d l (putM s k x).2.1 (putM s k x).2.2:=by
 obtain ⟨al,cl,hc8,hl1,hl2⟩:=h.loglen
 have hbw0:Below w.heap.size w (w.alloc (.cells #[.int .i64 x.term,u] 68)):=(Below.refl _ _).alloc (Nat.le_refl _) _
 have HP:Hid (∀W',Below (w.alloc (.cells #[.int .i64 x.term,u] 68)).heap.size (w.alloc (.cells #[.int .i64 x.term,u] 68)) W'→Calls Try.prog 46 #[.pointer (some ⟨r,0,none⟩),.int .i64 (s.log.length:Int),entV x u] W' fun e w'=>e = .returned (.bool (placeM s k s.log.length x).1)∧NdP w w' A X r d l (placeM s k s.log.length x).2.1 (placeM s k s.log.length x).2.2):=Lib.hid (fun W' hb =>
  (place_any ((h.below hbw0).below hb) hw s.log.length x (Nat.le_refl _) hx u ((hu.below hbw0).below hb)).mono (by rintro e w' ⟨h1,h2⟩;exact ⟨h1,h2.trans ((Mv.below hbw0).trans (Mv.below hb))⟩))
 have HE:Hid (putM s k x=(let p:=placeM s k s.log.length x
  if p.1 then (let q:=syncM p.2.1 p.2.2;(!q.1.done,q.1,q.2)) else p)):=Lib.hid rfl
 have hu1:u.oneCell'=true:=by
  obtain ⟨ao,c,rfl,_⟩:=hu
  rfl
 have hlt:r<w.heap.size:=h.alt r (h.xA r h.rX)
 have hcr:(w.alloc (.cells #[.int .i64 x.term,u] 68)).cell? ⟨r,8,none⟩=some (.slice al s.log.length cl):=by
  rw [World.cell?_of_block (hbw0.block r hlt)];exact hc8
 have hbx:=heap_new w (.cells #[.int .i64 x.term,u] 68)
 have hb0:(w.alloc (.cells #[.int .i64 x.term,u] 68)).cell? ⟨w.heap.size,0,none⟩=some (.int .i64 x.term):=by rw [cell_heap hbx];rfl
 have hb1:(w.alloc (.cells #[.int .i64 x.term,u] 68)).cell? ⟨w.heap.size,1,none⟩=some u:=by rw [cell_heap hbx];rfl
 clear h hw hu hbw0 hc8 hbx hx
 generalize placeM s k s.log.length x=q at *
 obtain ⟨ok,s1,k1⟩:=q
 unfold entV at *
 generalize s.log.length=n at *
 simp only at HE HP
 cases ok with
 | false =>
  rw [if_neg (by simp)] at HE
  go_enter Try.func28,Try.ntmps28
  go_upto_region 1 with (fail)
  generalize w.alloc (.cells #[.int .i64 x.term,u] 68)=W at *
  refine wp_region_held_drew (S:=fun _=>True) (by kernel_rfl) trivial (fun hHeld=>?_)
  refine qtl 0 (z0kx0 _) rfl ?_
  refine qtl 1 (z0kx1 _) rfl ?_
  refine qtl 2 (z0kx2 _) rfl ?_
  refine qtl 3 (z0kx3 _) rfl ?_
  refine qr2 4 6 (z0kx4 _) (z0kx5 _) rfl rfl (fun K hK=>?_) fun K hK=>?_
  ·unfold z0kx4
   go_simp
   refine hK.out _ _ trivial (fun hHeld=>?_)
   clear hK K
   refine qsp ?_
   refine qtl 5 (z0kx6 _) rfl ?_
   refine qr1 6 (z0kx5 _) rfl fun K hK=>?_
   unfold z0kx5
   go_simp
   refine hK.out _ _ trivial (fun hHeld=>?_)
   clear hK K
   refine qsp ?_
   exact z0kxm0
  ·unfold z0kx5
   go_simp
   refine hK.out _ _ trivial (fun hHeld=>?_)
   clear hK K
   refine qsp ?_
   refine qr1 4 (z0kx4 _) rfl fun K hK=>?_
   unfold z0kx4
   go_simp
   refine hK.out _ _ trivial (fun hHeld=>?_)
   clear hK K
   refine qsp ?_
   refine qtl 5 (z0kx6 _) rfl ?_
   exact z0kxm0
 | true =>
  rw [if_pos rfl] at HE
  have HS:=Lib.hid (fun (W:World) (A1 X1:List Nat) (h:Nd W A1 X1 r d l s1 k1)=>sync_any h)
  generalize syncM s1 k1=q at *
  obtain ⟨s2,k2⟩:=q
  simp only at HE HS
  go_enter Try.func28,Try.ntmps28
  go_upto_region 1 with (fail)
  generalize w.alloc (.cells #[.int .i64 x.term,u] 68)=W at *
  refine wp_region_held_drew (S:=fun _=>True) (by kernel_rfl) trivial (fun hHeld=>?_)
  refine qtl 0 (z0kx0 _) rfl ?_
  refine qtl 1 (z0kx1 _) rfl ?_
  refine qtl 2 (z0kx2 _) rfl ?_
  refine qtl 3 (z0kx3 _) rfl ?_
  refine qr2 4 6 (z0kx4 _) (z0kx5 _) rfl rfl (fun K hK=>?_) fun K hK=>?_
  ·unfold z0kx4
   go_simp
   refine hK.out _ _ trivial (fun hHeld=>?_)
   clear hK K
   refine qsp ?_
   refine qtl 5 (z0kx6 _) rfl ?_
   refine qr1 6 (z0kx5 _) rfl fun K hK=>?_
   unfold z0kx5
   go_simp
   refine hK.out _ _ trivial (fun hHeld=>?_)
   clear hK K
   refine qsp ?_
   exact z0kxm1
  ·unfold z0kx5
   go_simp
   refine hK.out _ _ trivial (fun hHeld=>?_)
   clear hK K
   refine qsp ?_
   refine qr1 4 (z0kx4 _) rfl fun K hK=>?_
   unfold z0kx4
   go_simp
   refine hK.out _ _ trivial (fun hHeld=>?_)
   clear hK K
   refine qsp ?_
   refine qtl 5 (z0kx6 _) rfl ?_
   exact z0kxm1
end
end Go.Proofs.Ytnicaicjgaoolaa
namespace Go.Proofs.Ytnicaicjgaoolaa
open Go.RowKit Go.ChangeMaps Go.WideMaps Go.Maps
set_option maxRecDepth 20000
section
variable {w w':World} {A A' X X':List Nat} {r d l:Nat} {s s':Rp} {k k':Dk}
structure LogC (w:World) (A:List Nat) (r:Nat) (es:List Ent) (g c:Nat) (i:Nat) (u:Value):Prop where
 c8:w.cell? ⟨r,8,none⟩=some (.slice (some ⟨g,0,none⟩) es.length c)
 le:es.length≤c
 cm:c≤9223372036854775807
 t:w.cell? ⟨g,i*2,none⟩=some (.int .i64 ((es.map Ent.term).getD i 0))
 b:w.cell? ⟨g,i*2+1,none⟩=some u
 im:Imm w A u ((es.map Ent.bs).getD i [])
theorem Nd.logC (h:Nd w A X r d l s k) (i:Nat) (hi:i<s.log.length):∃g c u,LogC w A r s.log g c i u:=by
 obtain ⟨D,L,R,vl,gv,gn,gm,gh,h,hX⟩:=h
 rcases h.log with ⟨_,h0⟩ | ⟨g,c,cur,rfl,h1,h2,h3,h4,h5⟩
 ·rw [h0] at hi;cases hi
 ·obtain ⟨u,k1,k2,k3⟩:=h5 i hi
  refine ⟨g,c,u,?_,h1,h2,?_,?_,?_⟩
  ·rw [cell_heap h.cell];rfl
  ·rw [cell_heap h4,Nat.mul_comm,k1];simp [List.getD,hi]
  ·rw [cell_heap h4,Nat.mul_comm,k2]
  ·have e:(s.log.map Ent.bs).getD i []=s.log[i].bs:=by simp [List.getD,hi]
   rw [e];exact k3
theorem lastTerm_any (h:Nd w A X r d l s k) (n:Nat) (hn:n≤s.log.length) (hb:s.log.length≤1000000):Calls Try.prog 45 #[.pointer (some ⟨r,0,none⟩),.int .i64 (n:Int)] w fun e w'=>e = .returned (.int .i64 (lastTermM s.log n))∧w=w':=by
 cases n with
 | zero =>
  clear h
  go_enter Try.func45,Try.ntmps45
  go_wp2_with fail
  go_ret
  exact ⟨rfl,rfl⟩
 | succ i =>
  obtain ⟨g,c,u,hc⟩:=h.logC i hn
  have h8:=hc.c8
  have ht:=hc.t
  have hL:Hid (lastTermM s.log (i+1)=(s.log.map Ent.term).getD i 0):=Lib.hid (by unfold lastTermM;rw [if_neg (by omega)];rfl)
  rw [hL.out]
  generalize (s.log.map Ent.term).getD i 0=t at *
  generalize s.log.length=n at *
  have q0:((i:Int)+1==0)=false:=by simp;omega
  have q1:IntKind.i64.wrap ((i:Int)+1 - 1)=(i:Int):=by rw [show (i:Int)+1 - 1=(i:Int) by omega];exact IntWalk.i64_in _ (by omega)
  have q2:(i:Int)<(n:Int):=by omega
  have q3:0≤(i:Int):=by omega
  clear h hc hL
  go_enter Try.func45,Try.ntmps45
  go_wp2_with fail
  go_ret
  exact ⟨rfl,rfl⟩
theorem most_any (h:Nd w A X r d l s k) (hn:s.n≤5) (m:Nat) (hm:m≤1000000):Calls Try.prog 48 #[.pointer (some ⟨r,0,none⟩),.int .i64 (m:Int)] w fun e w'=>e = .returned (.bool (mostM s m))∧w=w':=by
 obtain ⟨D,L,R,vl,gv,gn,gm,gh,h,hX⟩:=h
 have hc:w.cell? ⟨r,1,none⟩=some (.int .i64 (s.n:Int)):=by rw [cell_heap h.cell];rfl
 have q1:IntKind.i64.wrap (2*(m:Int))=2*(m:Int):=IntWalk.i64_in _ (by omega)
 have q2:Hid (decide ((s.n:Int)<2*(m:Int))=mostM s m):=Lib.hid (by unfold mostM;congr 1;exact propext ⟨fun h=>by omega,fun h=>by omega⟩)
 clear h hX
 go_enter Try.func48,Try.ntmps48
 go_wp2_with fail
 go_ret
 exact ⟨by rw [←q2.out];rfl,rfl⟩
theorem fits_any (h:Nd w A X r d l s k) (f t:Int) (hf:0≤f) (hb:s.log.length≤1000000):Calls Try.prog 54 #[.pointer (some ⟨r,0,none⟩),.int .i64 f,.int .i64 t] w fun e w'=>e = .returned (.bool (fitsM s f t))∧w=w':=by
 obtain ⟨al,cl,hc8,hl1,hl2⟩:=h.loglen
 have H:=Lib.hid h
 clear h
 by_cases hle:f≤(s.log.length:Int)
 ·obtain ⟨n,rfl⟩:∃n:Nat,f=(n:Int):=⟨f.toNat,by omega⟩
  have hL:=Lib.hid (lastTerm_any H.out n (by omega) hb)
  have hF:Hid (fitsM s (n:Int) t=(lastTermM s.log n==t)):=Lib.hid (by unfold fitsM;rw [decide_eq_true hle,Int.toNat_natCast];rfl)
  rw [hF.out]
  generalize lastTermM s.log n=lt at *
  go_enter Try.func54,Try.ntmps54
  go_wp2_with fail
  refine hL.out.mono ?_
  rintro e w1 ⟨rfl,rfl⟩
  go_wp2_with fail
  go_ret
  exact ⟨rfl,rfl⟩
 ·have hF:Hid (fitsM s f t=false):=Lib.hid (by unfold fitsM;rw [decide_eq_false hle];rfl)
  go_enter Try.func54,Try.ntmps54
  go_wp2_with fail
  go_ret
  exact ⟨by rw [hF.out];rfl,rfl⟩
end
end Go.Proofs.Ytnicaicjgaoolaa
namespace Go.Proofs.Ytnicaicjgaoolaa
open Go.RowKit Go.ChangeMaps Go.WideMaps Go.Maps
set_option maxRecDepth 20000
def agr (s:Rp) (a:Nat):Rp:={ s with agreed:=a,many:=s.many+(recs ((s.log.take a).drop s.agreed)).length }
theorem agr_self (s:Rp):agr s s.agreed=s:=by
 unfold agr
 rw [List.drop_eq_nil_of_le (by rw [List.length_take];omega)]
 rfl
theorem agreeM_le (s:Rp) (n:Nat) (h:s.agreed<n):agreeM s n=agr s n:=by unfold agreeM agr;rw [if_pos h]
theorem agreeM_ge (s:Rp) (n:Nat) (h:¬s.agreed<n):agreeM s n=s:=by unfold agreeM;rw [if_neg h]
theorem agr_step (s:Rp) (a:Nat) (h:s.agreed≤a) (hl:a<s.log.length):agr s (a+1)={ agr s a with agreed:=a+1,many:=(agr s a).many+(if ((s.log.map Ent.bs).getD a []).length=0 then 0 else 1)}:=by
 have e:(s.log.take (a+1)).drop s.agreed=(s.log.take a).drop s.agreed++[s.log[a]]:=by
  rw [←List.take_append_getElem hl,List.drop_append_of_le_length (by rw [List.length_take];omega)]
 have e2:(s.log.map Ent.bs).getD a []=s.log[a].bs:=by simp [List.getD,hl]
 unfold agr
 rw [e,e2]
 unfold recs
 rw [List.filter_append,List.map_append,List.length_append]
 cases hb:s.log[a].bs with
 | nil=>simp [hb]
 | cons x y=>simp [hb];omega
def leftA (w:World) (r n:Nat):Nat:=match w.cell? ⟨r,9,none⟩ with | some v=>((n:Int) - intOf v).toNat | none=>0
section
variable {w w':World} {A A' X X':List Nat} {r d l:Nat} {s s':Rp} {k k':Dk}
theorem Nd.only_scal (h:Nd w A X r d l s k) (ho:Only [r] w w') (hc:∀vl gv gn gm gh,w.heap[r]? = some (.cells (rpCells d l s vl gv gn gm gh) 66 (0,0))→w'.heap[r]? = some (.cells (rpCells d l s' vl gv gn gm gh) 66 (0,0)))
  (h1:s'.wl=s.wl) (h2:s'.log=s.log) (h3:s'.votes=s.votes) (h4:s'.next=s.next) (h5:s'.mat=s.mat) (h6:s'.heard=s.heard):Nd w' A X r d l s' k:=by
 obtain ⟨D,L,R,vl,gv,gn,gm,gh,h,hX⟩:=h
 exact (h.only_r ho (hc _ _ _ _ _ h.cell) h1 h2 h3 h4 h5 h6).nd hX
set_option maxHeartbeats 1000000 in
theorem agree_any (h:Nd w A X r d l s k) (n:Nat) (hn:n≤s.log.length) (hb:s.log.length≤1000000) (hm:s.many≤s.agreed):Calls Try.prog 49 #[.pointer (some ⟨r,0,none⟩),.int .i64 (n:Int)] w fun e w'=>Nd w' A X r d l (agreeM s n) k∧Only [r] w w'∧e = .returned (.tuple #[]):=by
 by_cases hlt:s.agreed<n
 ·have HE:=Lib.hid (agreeM_le s n hlt)
  have H0:=Lib.hid h
  have HN:=Lib.hid hn
  have HB:=Lib.hid hb
  have HM:Hid (∀a,(agr s a).many≤s.agreed+(a - s.agreed)):=Lib.hid (fun a=>by
   show s.many+_≤_
   have h1:(recs ((s.log.take a).drop s.agreed)).length≤a - s.agreed:=by
    unfold recs
    rw [List.length_map]
    refine Nat.le_trans (List.length_filter_le _ _) ?_
    rw [List.length_drop,List.length_take];omega
   omega)
  clear h hn hb hm
  go_enter Try.func49,Try.ntmps49
  go_wp2_with fail
  go_loopw [] (fun wr=>∃a,s.agreed≤a∧a≤n∧Nd wr A X r d l (agr s a) k∧Only [r] w wr) (fun wr=>leftA wr r n)
  case atStart=>exact ⟨s.agreed,Nat.le_refl _,by omega,by rw [agr_self];exact H0.out,Only.refl _ _⟩
  case round =>
   obtain ⟨a,ha1,ha2,hnd,ho⟩:=hrel
   have hma:=HM.out a
   have hnn:=HN.out
   have hbb:=HB.out
   obtain ⟨vl,gv,gn,gm,gh,hcell⟩:=hnd.cells
   have hc9:wr.cell? ⟨r,9,none⟩=some (.int .i64 (a:Int)):=by rw [cell_heap hcell];rfl
   have hc10:wr.cell? ⟨r,10,none⟩=some (.int .i64 ((agr s a).many:Int)):=by rw [cell_heap hcell];rfl
   have hz9:=free_heap hcell 9
   have hz10:=free_heap hcell 10
   have HND:=Lib.hid hnd
   have HO:=Lib.hid ho
   clear hnd ho hcell
   by_cases hlt2:a<n
   ·obtain ⟨g,c,u,hc⟩:=HND.out.logC a (show a<s.log.length by omega)
    have h8:=hc.c8
    have hu:=hc.b
    obtain ⟨au,cu,e,_⟩:=hc.im
    subst e
    have HST:=Lib.hid (agr_step s a ha1 (by omega))
    have e3:(agr s a).log=s.log:=rfl
    rw [e3] at h8 hu
    have HMN:∃mn,mn=(agr s a).many:=⟨_,rfl⟩
    obtain ⟨mn,hmn⟩:=HMN
    rw [←hmn] at hma hc10 HST
    have HMN:=Lib.hid hmn
    clear hmn
    generalize hsl:s.log.length=sl at *
    have q1:(a:Int)<(sl:Int):=by omega
    have q2:0≤(a:Int):=by omega
    have q3:(a:Int)<(n:Int):=by omega
    have q4:IntKind.i64.wrap ((a:Int)+1)=(a:Int)+1:=IntWalk.i64_in _ (by omega)
    have q5:IntKind.i64.wrap ((mn:Int)+1)=(mn:Int)+1:=IntWalk.i64_in _ (by omega)
    by_cases hz:((s.log.map Ent.bs).getD a []).length=0
    ·rw [if_pos hz] at HST
     generalize ((s.log.map Ent.bs).getD a []).length=bl at *
     subst hz
     go_wp2_with fail
     go_quiet (fail)
     go_wp2_with fail
     have oo:Only [r] wr ((wr.drewN nq).setCell ⟨r,9,none⟩ (.int .i64 ((a:Int)+1))):=((Only.refl _ _).drewN nq).setCell (by simp) _
     refine ⟨⟨a+1,by omega,by omega,?_,HO.out.trans oo⟩,?_⟩
     ·rw [HST.out]
      refine Nd.only_scal HND.out oo ?_ rfl rfl rfl rfl rfl rfl
      intro vl gv gn gm gh hc
      rw [setc hc]
      simp [rpCells,HMN.out]
     ·obtain ⟨vl,gv,gn,gm,gh,hcell⟩:=HND.out.cells
      unfold leftA
      rw [hc9,cell_heap (setc hcell nq 9 _)]
      simp [rpCells,intOf];omega
    ·rw [if_neg hz] at HST
     generalize ((s.log.map Ent.bs).getD a []).length=bl at *
     have g1:decide (0<bl)=true:=decide_eq_true (by omega)
     clear hz
     go_wp2_with fail
     go_quiet (fail)
     go_wp2_with fail
     have oo:Only [r] wr (((wr.drewN nq).setCell ⟨r,10,none⟩ (.int .i64 ((mn:Int)+1))).setCell ⟨r,9,none⟩ (.int .i64 ((a:Int)+1))):=(((Only.refl _ _).drewN nq).setCell (by simp) _).setCell (by simp) _
     refine ⟨⟨a+1,by omega,by omega,?_,HO.out.trans oo⟩,?_⟩
     ·rw [HST.out]
      refine Nd.only_scal HND.out oo ?_ rfl rfl rfl rfl rfl rfl
      intro vl gv gn gm gh hc
      rw [heap_set (setc hc nq 10 _)]
      simp [rpCells]
     ·obtain ⟨vl,gv,gn,gm,gh,hcell⟩:=HND.out.cells
      unfold leftA
      rw [hc9,cell_heap (heap_set (setc hcell nq 10 _) 9 _)]
      simp [rpCells,intOf];omega
   ·have ha:a=n:=by omega
    subst ha
    go_wp2_with fail
    go_end0
    rw [HE.out]
    exact ⟨HND.out,HO.out,rfl⟩
 ·have HE:=Lib.hid (agreeM_ge s n hlt)
  have H0:=Lib.hid h
  obtain ⟨vl,gv,gn,gm,gh,hcell⟩:=h.cells
  have hc9:w.cell? ⟨r,9,none⟩=some (.int .i64 (s.agreed:Int)):=by rw [cell_heap hcell];rfl
  clear h hcell
  go_enter Try.func49,Try.ntmps49
  go_wp2_with fail
  go_loopw [] (fun wr=>wr=w) (fun wr=>0)
  case atStart=>rfl
  case round =>
   subst hrel
   go_wp2_with fail
   go_end0
   rw [HE.out]
   exact ⟨H0.out,Only.refl _ _,rfl⟩
end
end Go.Proofs.Ytnicaicjgaoolaa
