/-
  What the proof of the law leans on: contracts of the program's functions, one behind another. No condition.
-/
import Derived.Deep.OwnRows
import Derived.Laws.IdiomStrings
import Derived.Test.YtnicaicjgaoolaaT14
import Derived.Test.YtnicaicjgaoolaaT3
set_option linter.unusedVariables false
set_option linter.unusedSimpArgs false
namespace Go.Proofs.Ytnicaicjgaoolaa
open Go.RowKit Go.ChangeMaps Go.WideMaps Go.Maps
set_option maxRecDepth 20000
section
variable (p:String)
def z09x0:Oper:=⟨some 3,.load 39 (.tmp 1),39,p,#[],none⟩
def z09x1:Oper:=⟨some 4,.nilCheck (.tmp 3),0,p,#[⟨0,.data⟩],none⟩
def z09x2:Oper:=⟨some 5,.fieldAddr 66 (.tmp 4) 6,0,p,#[⟨1,.data⟩],none⟩
def z09x3:Oper:=⟨some 6,.load 2 (.tmp 5),2,p,#[⟨2,.data⟩],none⟩
def z09x4:Oper:=⟨some 7,.binOp BinOp.geq 2 (.tmp 6) (Operand.const (Value.int IntKind.i64 1099511627776)) 2,4,p,#[⟨3,.data⟩],none⟩
def z09x5:Oper:=⟨some 8,.move (.tmp 7),4,p,#[⟨4,.data⟩],none⟩
def z09x6:Oper:=⟨some 9,.load 39 (.tmp 1),39,p,#[⟨5,.guard⟩],some (5,false)⟩
def z09x7:Oper:=⟨some 10,.load 39 (.tmp 1),39,p,#[⟨5,.guard⟩],some (5,false)⟩
def z09x8:Oper:=⟨some 11,.nilCheck (.tmp 10),0,p,#[⟨7,.data⟩,⟨5,.guard⟩],some (5,false)⟩
def z09x9:Oper:=⟨some 12,.fieldAddr 66 (.tmp 11) 6,0,p,#[⟨8,.data⟩,⟨5,.guard⟩],some (5,false)⟩
def z09x10:Oper:=⟨some 13,.load 2 (.tmp 12),2,p,#[⟨9,.data⟩,⟨5,.guard⟩],some (5,false)⟩
def z09x11:Oper:=⟨some 14,.binOp BinOp.add 2 (.tmp 13) (Operand.const (Value.int IntKind.i64 1)) 2,2,p,#[⟨10,.data⟩,⟨5,.guard⟩],some (5,false)⟩
def z09x12:Oper:=⟨some 15,.load 39 (.tmp 1),39,p,#[⟨5,.guard⟩],some (5,false)⟩
def z09x13:Oper:=⟨some 16,.nilCheck (.tmp 15),0,p,#[⟨12,.data⟩,⟨5,.guard⟩],some (5,false)⟩
def z09x14:Oper:=⟨some 17,.fieldAddr 66 (.tmp 16) 0,0,p,#[⟨13,.data⟩,⟨5,.guard⟩],some (5,false)⟩
def z09x15:Oper:=⟨some 18,.load 3 (.tmp 17),3,p,#[⟨14,.data⟩,⟨5,.guard⟩],some (5,false)⟩
def z09x16:Oper:=⟨some 19,.call { callee:=Callee.value (Operand.func 34),args:=#[.tmp 9,.tmp 14,.tmp 18],argTypes:=#[39,2,3]},4,p,#[⟨6,.data⟩,⟨11,.data⟩,⟨15,.data⟩,⟨5,.chain⟩,⟨5,.guard⟩],some (5,false)⟩
def z09x17:Oper:=⟨some 20,.unOp UnOp.not 4 (.tmp 19),4,p,#[⟨16,.data⟩,⟨5,.guard⟩],some (5,false)⟩
def z09x18:Oper:=⟨some 21,.pick (.tmp 8) (Operand.const (Value.bool true)) (.tmp 20),4,p,#[⟨5,.data⟩,⟨17,.data⟩],none⟩
def z09x19:Oper:=⟨some 25,.load 39 (.tmp 1),39,p,#[],none⟩
def z09x20:Oper:=⟨some 26,.load 39 (.tmp 1),39,p,#[],none⟩
def z09x21:Oper:=⟨some 27,.nilCheck (.tmp 26),0,p,#[⟨1,.data⟩],none⟩
def z09x22:Oper:=⟨some 28,.fieldAddr 66 (.tmp 27) 1,0,p,#[⟨2,.data⟩],none⟩
def z09x23:Oper:=⟨some 29,.load 3 (.tmp 28),3,p,#[⟨3,.data⟩],none⟩
def z09x24:Oper:=⟨some 30,.makeSlice 34 (.tmp 29) (.tmp 29),34,p,#[⟨4,.data⟩,⟨4,.data⟩],none⟩
def z09x25:Oper:=⟨some 31,.nilCheck (.tmp 25),0,p,#[⟨0,.data⟩,⟨0,.phase⟩,⟨1,.phase⟩,⟨2,.phase⟩,⟨3,.phase⟩,⟨4,.phase⟩,⟨5,.phase⟩],none⟩
def z09x26:Oper:=⟨some 32,.fieldAddr 66 (.tmp 31) 12,0,p,#[⟨6,.data⟩,⟨0,.phase⟩,⟨1,.phase⟩,⟨2,.phase⟩,⟨3,.phase⟩,⟨4,.phase⟩,⟨5,.phase⟩],none⟩
def z09x27:Oper:=⟨none,.store 34 (.tmp 32) (.tmp 30),0,p,#[⟨7,.data⟩,⟨5,.data⟩,⟨0,.phase⟩,⟨1,.phase⟩,⟨2,.phase⟩,⟨3,.phase⟩,⟨4,.phase⟩,⟨5,.phase⟩],none⟩
def z09x28:Oper:=⟨some 33,.load 39 (.tmp 1),39,p,#[],none⟩
def z09x29:Oper:=⟨some 34,.nilCheck (.tmp 33),0,p,#[⟨0,.data⟩],none⟩
def z09x30:Oper:=⟨some 35,.fieldAddr 66 (.tmp 34) 12,0,p,#[⟨1,.data⟩],none⟩
def z09x31:Oper:=⟨some 36,.load 34 (.tmp 35),34,p,#[⟨2,.data⟩],none⟩
def z09x32:Oper:=⟨some 37,.load 39 (.tmp 1),39,p,#[],none⟩
def z09x33:Oper:=⟨some 38,.nilCheck (.tmp 37),0,p,#[⟨4,.data⟩],none⟩
def z09x34:Oper:=⟨some 39,.fieldAddr 66 (.tmp 38) 0,0,p,#[⟨5,.data⟩],none⟩
def z09x35:Oper:=⟨some 40,.load 3 (.tmp 39),3,p,#[⟨6,.data⟩],none⟩
def z09x36:Oper:=⟨some 41,.indexAddr 34 (.tmp 36) (.tmp 40),0,p,#[⟨3,.data⟩,⟨7,.data⟩,⟨0,.phase⟩,⟨1,.phase⟩,⟨2,.phase⟩,⟨3,.phase⟩,⟨4,.phase⟩,⟨5,.phase⟩,⟨6,.phase⟩,⟨7,.phase⟩],none⟩
def z09x37:Oper:=⟨none,.store 4 (.tmp 41) (Operand.const (Value.bool true)),0,p,#[⟨8,.data⟩,⟨0,.phase⟩,⟨1,.phase⟩,⟨2,.phase⟩,⟨3,.phase⟩,⟨4,.phase⟩,⟨5,.phase⟩,⟨6,.phase⟩,⟨7,.phase⟩],none⟩
end
attribute [go_sem,reducible] z09x0 z09x1 z09x2 z09x3 z09x4 z09x5 z09x6 z09x7 z09x8 z09x9 z09x10 z09x11 z09x12 z09x13 z09x14 z09x15 z09x16 z09x17 z09x18 z09x19 z09x20 z09x21 z09x22 z09x23 z09x24 z09x25 z09x26 z09x27 z09x28 z09x29 z09x30 z09x31 z09x32 z09x33 z09x34 z09x35 z09x36 z09x37
theorem z09xm0 {p:Prop} (h:p:=by
 refine qr1 16 (z09x16 _) rfl fun K hK=>?_
 unfold z09x16
 go_simp
 refine (HEN.out _ (below_drewN _ 1)).mono ?_
 rintro e w2 ⟨rfl,hn2⟩
 have HN2:=Lib.hid hn2
 have hk2:=HKP.out w2 hn2
 clear hn2
 go_wp2_with fail
 refine hK.out _ _ hk2 (fun hHeld=>?_)
 clear hK K
 refine qsp ?_
 refine qtl 17 (z09x17 _) rfl ?_
 refine qtl 18 (z09x18 _) rfl ?_
 refine qdn ?_
 clear hHeld
 go_wp2_with fail
 go_ret
 rw [HE.out]
 exact MsP.none (NdP.trans HM0.out HN2.out)):p:=h
theorem z09xm1 {p:Prop} (h:p:=by
 refine qr1 16 (z09x16 _) rfl fun K hK=>?_
 unfold z09x16
 go_simp
 refine (HEN.out _ (below_drewN _ 1)).mono ?_
 rintro e w2 ⟨rfl,hn2⟩
 have HN2:=Lib.hid hn2
 have hk2:=HKP.out w2 hn2
 clear hn2
 go_wp2_with fail
 refine hK.out _ _ hk2 (fun hHeld=>?_)
 clear hK K
 refine qsp ?_
 refine qtl 17 (z09x17 _) rfl ?_
 refine qtl 18 (z09x18 _) rfl ?_
 refine qdn ?_
 clear hHeld
 go_wp2_with fail
 go_meet
 exact ⟨rfl,HN2.out,hk2⟩):p:=h
theorem info4:(Try.prog.info? 4).map (fun i=>(i.zero,i.size,i.bytes))=some (some (.bool false),1,1):=by kernel_rfl
theorem make_bools (n:Nat) (hn:n≤5) (w:World):(Instr.makeSlice 34 (.int .i64 (n:Int)) (.int .i64 (n:Int))).run Try.prog w = .ok (.slice (some ⟨w.heap.size,0,none⟩) n n) (w.alloc (.cells (boolsA (List.replicate n false)) 4)):=by
 have h:=run_make_row' (P:=Try.prog) 34 4 (.bool false) 1 Try.underlying34 info4 rfl .i64 .i64 n (by omega) (by omega) w
 rw [h]
 have e:madeCells #[Value.bool false] n=boolsA (List.replicate n false):=by
  apply Array.ext'
  rw [toList_madeCells_one]
  simp [boolsA]
 rw [e]
section
variable {w w':World} {A A' X X':List Nat} {r d l:Nat} {s s':Rp} {k k':Dk}
theorem Nd.new_votes (h:Nd w A X r d l s k) (bs:List Bool):NdP w ((w.alloc (.cells (boolsA bs) 4)).setCell ⟨r,12,none⟩ (rowV w.heap.size s.n)) A X r d l { s with votes:=bs } k:=by
 have hrX:=h.rX
 obtain ⟨D,L,R,vl,gv,gn,gm,gh,h,hX⟩:=h
 have hb:Below w.heap.size w (w.alloc (.cells (boolsA bs) 4)):=(Below.refl _ _).alloc (Nat.le_refl _) _
 have h1:=h.below hb
 have hnew:=heap_new w (.cells (boolsA bs) 4)
 generalize w.alloc (.cells (boolsA bs) 4)=w1 at *
 have ho:Only [r] w1 (w1.setCell ⟨r,12,none⟩ (rowV w.heap.size s.n)):=(Only.refl _ _).setCell (by simp) _
 have hS:∀b∈[r],b∈R:=fun b hb=>by rw [List.mem_singleton.1 hb];exact h.rR
 have he:Ext A (A++[w.heap.size]) w:=fun b hb=>by
  rcases List.mem_append.1 hb with hb | hb
  ·exact .inl hb
  ·exact .inr (by rw [List.mem_singleton.1 hb];exact Nat.le_refl _)
 have hrA:∀b∈[r],b∈A:=fun b hb=>h.rA b (hS b hb)
 have oo:Only [r] w (w1.setCell ⟨r,12,none⟩ (rowV w.heap.size s.n)):=(Only.ofBelow hb _).trans ho
 have hlt:∀b∈A,b<w.heap.size:=h.wd.alt
 refine ⟨A++[w.heap.size],w.heap.size::X,⟨D,L,w.heap.size::R,vl,w.heap.size,gn,gm,gh,⟨⟨h.wd.wl.keep oo (h.disL hS) hrA he,h.wd.dk.keep oo (h.disD hS),h.wd.dis,fun b hb=>List.mem_append_left _ (h.wd.dA b hb),fun b hb=>List.mem_append_left _ (h.wd.lA b hb),fun b hb2=>?_⟩,by rw [heap_set h1.cell];rfl,h.log.step oo hrA he,ho.keeps hnew (by simpa using heap_ne hnew h1.cell (by decide)),ho.keeps h1.next (by simpa using heap_ne h1.next h1.cell (by decide)),ho.keeps h1.mat (by simpa using heap_ne h1.mat h1.cell (by decide)),ho.keeps h1.heard (by simpa using heap_ne h1.heard h1.cell (by decide)),h.nm,by simp [h.rR],by simp,by simp [h.nR],by simp [h.mR],by simp [h.hR],fun b hb hd=>?_,fun b hb hd=>?_,fun b hb=>?_⟩,fun b=>?_⟩,⟨⟨oo.mono (by simpa using hrX),fun b hb=>?_,fun b hb=>List.mem_cons_of_mem _ hb⟩,he,fun b hb=>List.mem_append_left _ hb⟩⟩
 ·have hsz:=oo.size
  rcases List.mem_append.1 hb2 with h3 | h3
  ·have:=hlt b h3;omega
  ·have:=lt_of_heap (ho.keeps hnew (by simpa using heap_ne hnew h1.cell (by decide)));rw [List.mem_singleton.1 h3];exact this
 ·rcases List.mem_cons.1 hb with rfl | hb
  ·have:=h.wd.dk.lt _ hd;omega
  ·exact h.dRD b hb hd
 ·rcases List.mem_cons.1 hb with rfl | hb
  ·have:=h.wd.wl.lt _ hd;omega
  ·exact h.dRL b hb hd
 ·rcases List.mem_cons.1 hb with rfl | hb
  ·simp
  ·exact List.mem_append_left _ (h.rA b hb)
 ·simp only [List.mem_cons,hX b]
  constructor
  ·rintro (h3 | h3 | h3 | h3)
   ·exact .inr (.inr (.inl h3))
   ·exact .inl h3
   ·exact .inr (.inl h3)
   ·exact .inr (.inr (.inr h3))
  ·rintro (h3 | h3 | h3 | h3)
   ·exact .inr (.inl h3)
   ·exact .inr (.inr (.inl h3))
   ·exact .inl h3
   ·exact .inr (.inr (.inr h3))
 ·rcases List.mem_cons.1 hb with rfl | hb
  ·exact .inr (Nat.le_refl _)
  ·exact .inl hb
theorem enter_same (term who:Int):(enterM s k term who).2.1.n=s.n∧(enterM s k term who).2.1.own=s.own∧(enterM s k term who).2.1.log=s.log∧(enterM s k term who).2.1.clock=s.clock∧(enterM s k term who).2.1.votes=s.votes:=by
 have h1:=write_same (s:=s) (k:=k) (noteT term who)
 unfold enterM
 generalize writeM s k (noteT term who)=p at *
 simp only
 split
 ·rw [h1];exact ⟨rfl,rfl,rfl,rfl,rfl⟩
 ·have h2:=sync_same (s:=p.1) (k:=p.2)
  generalize syncM p.1 p.2=q at *
  split
  ·rw [h2,h1];exact ⟨rfl,rfl,rfl,rfl,rfl⟩
  ·simp only
   rw [h2,h1];exact ⟨rfl,rfl,rfl,rfl,rfl⟩
theorem Nd.new_votes' (h:Nd w A X r d l s k) (bs:List Bool) (n:Nat) (hn:s.n=n) (W:World) (hW:W=(w.alloc (.cells (boolsA bs) 4)).setCell ⟨r,12,none⟩ (.slice (some ⟨w.heap.size,0,none⟩) n n)):NdP w W A X r d l { s with votes:=bs } k:=by
 subst hn hW
 exact h.new_votes bs
set_option maxHeartbeats 4000000 in
theorem stand_any (h:Nd w A X r d l s k) (hw:Wf s k):Calls Try.prog 42 #[.pointer (some ⟨r,0,none⟩)] w fun e w'=>MsP w w' A X r d l e (standM s k):=by
 have hbw:Below w.heap.size w (w.alloc (.cells #[.pointer (some ⟨r,0,none⟩)] 39)):=(Below.refl _ _).alloc (Nat.le_refl _) _
 have hbx:=heap_new w (.cells #[.pointer (some ⟨r,0,none⟩)] 39)
 have h1:=h.below hbw
 have hXlt:∀b∈X,b<w.heap.size:=fun b hb=>h.alt b (h.xA b hb)
 have HM0:Hid (Mv A A X X w (w.alloc (.cells #[.pointer (some ⟨r,0,none⟩)] 39))):=Lib.hid (Mv.below hbw)
 have hP0:(w.alloc (.cells #[.pointer (some ⟨r,0,none⟩)] 39)).cell? ⟨w.heap.size,0,none⟩=some (.pointer (some ⟨r,0,none⟩)):=by rw [cell_heap hbx];rfl
 have HE:Hid (standM s k=(if 1099511627776≤s.term then ([],s,k) else
  let p:=enterM s k (s.term+1) (s.own:Int)
  if p.1 then
   let s1:Rp:={ p.2.1 with ticks:=0,votes:=(List.replicate s.n false).set s.own true }
   if chosenM s1 then leadM s1 p.2.2 else (othersM s1 (telling s1 1),s1,p.2.2)
  else ([],p.2))):=Lib.hid rfl
 obtain ⟨vl,gv,gn,gm,gh,hcell⟩:=h1.cells
 have hc6:(w.alloc (.cells #[.pointer (some ⟨r,0,none⟩)] 39)).cell? ⟨r,6,none⟩=some (.int .i64 s.term):=by rw [cell_heap hcell];rfl
 have hc0:(w.alloc (.cells #[.pointer (some ⟨r,0,none⟩)] 39)).cell? ⟨r,0,none⟩=some (.int .i64 (s.own:Int)):=by rw [cell_heap hcell];rfl
 have HKP:Hid (∀w2 s2 k2,NdP (w.alloc (.cells #[.pointer (some ⟨r,0,none⟩)] 39)) w2 A X r d l s2 k2→w2.cell? ⟨w.heap.size,0,none⟩=some (.pointer (some ⟨r,0,none⟩))):=Lib.hid (fun w2 s2 k2 hn=>by
  obtain ⟨A2,X2,h2,m2⟩:=hn
  exact m2.mv.only.cell hP0 (fun hm=>by have:=hXlt _ hm;simp at this))
 have HW:=Lib.hid hw
 have HPN:Hid (∀b∈X,b≠w.heap.size):=Lib.hid (fun b hb e=>by have:=hXlt b hb;omega)
 have hPW:w.heap.size<(w.alloc (.cells #[.pointer (some ⟨r,0,none⟩)] 39)).heap.size:=by simp
 have HN1:=Lib.hid h1
 have ht0:=hw.term0
 have hn5:=hw.n5
 clear h hbx hbw hcell hXlt h1
 go_enter Try.func42,Try.ntmps42
 go_upto_region 1 with (fail)
 generalize w.alloc (.cells #[.pointer (some ⟨r,0,none⟩)] 39)=W at *
 generalize w.heap.size=P at *
 by_cases htm:1099511627776≤s.term
 ·rw [if_pos htm] at HE
  have HNW:Hid (NdP w W.drew A X r d l s k):=Lib.hid (NdP.trans HM0.out ((HN1.out.below (below_drewN W 1)).ndp (Mv.below (below_drewN W 1))))
  have g1:decide (1099511627776≤s.term)=true:=decide_eq_true htm
  have hP1:W.drew.cell? ⟨P,0,none⟩=some (.pointer (some ⟨r,0,none⟩)):=hP0
  refine wp_region_held_drew (S:=fun w'=>w'.cell? ⟨P,0,none⟩=some (.pointer (some ⟨r,0,none⟩))) (by kernel_rfl) hP1 (fun hHeld=>?_)
  refine qtl 0 (z09x0 _) rfl ?_
  refine qtl 1 (z09x1 _) rfl ?_
  refine qtl 2 (z09x2 _) rfl ?_
  refine qr1 3 (z09x3 _) rfl fun K hK=>?_
  unfold z09x3
  go_simp
  refine hK.out _ _ hHeld (fun hHeld=>?_)
  clear hK K
  refine qsp ?_
  refine qtl 4 (z09x4 _) rfl ?_
  refine qtl 5 (z09x5 _) rfl ?_
  refine qtu 6 (z09x6 _) rfl ?_
  refine qtu 7 (z09x7 _) rfl ?_
  refine qtu 8 (z09x8 _) rfl ?_
  refine qtu 9 (z09x9 _) rfl ?_
  refine qtu 10 (z09x10 _) rfl ?_
  refine qtu 11 (z09x11 _) rfl ?_
  refine qtu 12 (z09x12 _) rfl ?_
  refine qtu 13 (z09x13 _) rfl ?_
  refine qtu 14 (z09x14 _) rfl ?_
  refine qtu 15 (z09x15 _) rfl ?_
  refine qtu 16 (z09x16 _) rfl ?_
  refine qtu 17 (z09x17 _) rfl ?_
  refine qtl 18 (z09x18 _) rfl ?_
  refine qdn ?_
  clear hHeld
  go_wp2_with fail
  go_ret
  rw [HE.out]
  exact MsP.none HNW.out
 ·rw [if_neg htm] at HE
  have g1:decide (1099511627776≤s.term)=false:=decide_eq_false htm
  have q1:IntKind.i64.wrap (s.term+1)=s.term+1:=IntWalk.i64_in _ (by omega)
  have hP1:W.drew.cell? ⟨P,0,none⟩=some (.pointer (some ⟨r,0,none⟩)):=hP0
  have HEN:=Lib.hid (fun W' (hb:Below W.heap.size W W')=>(enter_any (HN1.out.below hb) HW.out (s.term+1) (s.own:Int)).mono (R':=fun e w'=>e = .returned (.bool (enterM s k (s.term+1) (s.own:Int)).1)∧NdP W w' A X r d l (enterM s k (s.term+1) (s.own:Int)).2.1 (enterM s k (s.term+1) (s.own:Int)).2.2) (by rintro e w' ⟨h1,h2⟩;exact ⟨h1,h2.trans (Mv.below hb)⟩))
  have HWE:=Lib.hid (wf_enter HW.out (s.term+1) (s.own:Int) (by omega) (by omega) (by omega) (by have:=HW.out.own;omega))
  have HSE:=Lib.hid (enter_same (s:=s) (k:=k) (s.term+1) (s.own:Int))
  have HWV:=Lib.hid (wf_scal HWE.out (enterM s k (s.term+1) (s.own:Int)).2.1.lives 0 (enterM s k (s.term+1) (s.own:Int)).2.1.clock ((List.replicate s.n false).set s.own true) (Nat.zero_le _) (by rw [HSE.out.1];simp) (Nat.le_refl _))
  simp only at HE
  generalize enterM s k (s.term+1) (s.own:Int)=p at *
  obtain ⟨ok,s2,k2⟩:=p
  (try simp only at HE);(try simp only at HEN);(try simp only at HWE);(try simp only at HSE);(try simp only at HWV)
  have HKP:=Lib.hid (fun w2=>HKP.out w2 s2 k2)
  cases ok with
  | false =>
   rw [if_neg (by simp)] at HE
   refine wp_region_held_drew (S:=fun w'=>w'.cell? ⟨P,0,none⟩=some (.pointer (some ⟨r,0,none⟩))) (by kernel_rfl) hP1 (fun hHeld=>?_)
   refine qtl 0 (z09x0 _) rfl ?_
   refine qtl 1 (z09x1 _) rfl ?_
   refine qtl 2 (z09x2 _) rfl ?_
   refine qr1 3 (z09x3 _) rfl fun K hK=>?_
   unfold z09x3
   go_simp
   refine hK.out _ _ hHeld (fun hHeld=>?_)
   clear hK K
   refine qsp ?_
   refine qtl 4 (z09x4 _) rfl ?_
   refine qtl 5 (z09x5 _) rfl ?_
   refine qtl 6 (z09x6 _) rfl ?_
   refine qtl 7 (z09x7 _) rfl ?_
   refine qtl 8 (z09x8 _) rfl ?_
   refine qtl 9 (z09x9 _) rfl ?_
   refine qtl 12 (z09x12 _) rfl ?_
   refine qtl 13 (z09x13 _) rfl ?_
   refine qtl 14 (z09x14 _) rfl ?_
   refine qr2 10 15 (z09x10 _) (z09x15 _) rfl rfl (fun K hK=>?_) fun K hK=>?_
   ·unfold z09x10
    go_simp
    refine hK.out _ _ hHeld (fun hHeld=>?_)
    clear hK K
    refine qsp ?_
    refine qtl 11 (z09x11 _) rfl ?_
    refine qr1 15 (z09x15 _) rfl fun K hK=>?_
    unfold z09x15
    go_simp
    refine hK.out _ _ hHeld (fun hHeld=>?_)
    clear hK K
    refine qsp ?_
    exact z09xm0
   ·unfold z09x15
    go_simp
    refine hK.out _ _ hHeld (fun hHeld=>?_)
    clear hK K
    refine qsp ?_
    refine qr1 10 (z09x10 _) rfl fun K hK=>?_
    unfold z09x10
    go_simp
    refine hK.out _ _ hHeld (fun hHeld=>?_)
    clear hK K
    refine qsp ?_
    refine qtl 11 (z09x11 _) rfl ?_
    exact z09xm0
  | true =>
   rw [if_pos rfl] at HE
   go_cut [21] (fun v wx=>v = .bool false∧NdP W wx A X r d l s2 k2∧wx.cell? ⟨P,0,none⟩=some (.pointer (some ⟨r,0,none⟩)))
   case first =>
     refine wp_region_held_drew (S:=fun w'=>w'.cell? ⟨P,0,none⟩=some (.pointer (some ⟨r,0,none⟩))) (by kernel_rfl) hP1 (fun hHeld=>?_)
     refine qtl 0 (z09x0 _) rfl ?_
     refine qtl 1 (z09x1 _) rfl ?_
     refine qtl 2 (z09x2 _) rfl ?_
     refine qr1 3 (z09x3 _) rfl fun K hK=>?_
     unfold z09x3
     go_simp
     refine hK.out _ _ hHeld (fun hHeld=>?_)
     clear hK K
     refine qsp ?_
     refine qtl 4 (z09x4 _) rfl ?_
     refine qtl 5 (z09x5 _) rfl ?_
     refine qtl 6 (z09x6 _) rfl ?_
     refine qtl 7 (z09x7 _) rfl ?_
     refine qtl 8 (z09x8 _) rfl ?_
     refine qtl 9 (z09x9 _) rfl ?_
     refine qtl 12 (z09x12 _) rfl ?_
     refine qtl 13 (z09x13 _) rfl ?_
     refine qtl 14 (z09x14 _) rfl ?_
     refine qr2 10 15 (z09x10 _) (z09x15 _) rfl rfl (fun K hK=>?_) fun K hK=>?_
     ·unfold z09x10
      go_simp
      refine hK.out _ _ hHeld (fun hHeld=>?_)
      clear hK K
      refine qsp ?_
      refine qtl 11 (z09x11 _) rfl ?_
      refine qr1 15 (z09x15 _) rfl fun K hK=>?_
      unfold z09x15
      go_simp
      refine hK.out _ _ hHeld (fun hHeld=>?_)
      clear hK K
      refine qsp ?_
      exact z09xm1
     ·unfold z09x15
      go_simp
      refine hK.out _ _ hHeld (fun hHeld=>?_)
      clear hK K
      refine qsp ?_
      refine qr1 10 (z09x10 _) rfl fun K hK=>?_
      unfold z09x10
      go_simp
      refine hK.out _ _ hHeld (fun hHeld=>?_)
      clear hK K
      refine qsp ?_
      refine qtl 11 (z09x11 _) rfl ?_
      exact z09xm1
   case rest =>
   obtain ⟨rfl,hn3,hP3⟩:=hcut
   rename World=>w3
   obtain ⟨A3,X3,h3,m3⟩:=hn3
   have H3:=Lib.hid h3
   have M3:=Lib.hid (HM0.out.trans m3)
   obtain ⟨vl,gv,gn,gm,gh,hcell⟩:=h3.cells
   have hc15:w3.cell? ⟨r,15,none⟩=some (.int .i64 (s2.ticks:Int)):=by rw [cell_heap hcell];rfl
   have hz15:=free_heap hcell 15
   have hrlt:=lt_of_heap hcell
   have HPX:Hid (∀b∈X3,b≠P):=Lib.hid (fun b hb e=>by
     subst e
     rcases m3.mv.gr b hb with h4 | h4
     · exact HPN.out b h4 rfl
     · omega)
   have HT:Hid (NdP w3 (w3.setCell ⟨r,15,none⟩ (.int .i64 0)) A3 X3 r d l { s2 with ticks:=0 } k2):=Lib.hid (by
     refine Nd.scal h3 ((Only.refl _ _).setCell (by simp) _) ?_ rfl rfl rfl rfl rfl rfl
     intro vl gv gn gm gh hc
     rw [heap_set hc]
     rfl)
   have hrP:r≠P:=HPX.out r h3.rX
   have HP3:Hid (P<w3.heap.size):=Lib.hid (by have:=m3.mv.only.size;omega)
   clear h3 m3 hcell hc0 hc6 hP0 hP1 g1 q1 HEN HKP
   go_upto_region 4 with (fail)
   have ho4:Only [r] w3 (w3.setCell ⟨r,15,none⟩ (.int .i64 0)):=(Only.refl _ _).setCell (by simp) _
   have hP4:=ho4.cell hP3 (by simpa using hrP.symm)
   obtain ⟨A4,X4,h4,m4⟩:=HT.out
   have M4:=Lib.hid (M3.out.trans m4)
   have HPX4:Hid (∀b∈X4,b≠P):=Lib.hid (fun b hb e=>by
     rcases m4.mv.gr b hb with h5 | h5
     · exact HPX.out b h5 e
     · have:=ho4.size;have:=HP3.out;omega)
   have HP4s:Hid (P<(w3.setCell ⟨r,15,none⟩ (.int .i64 0)).heap.size):=Lib.hid (by have:=ho4.size;have:=HP3.out;omega)
   clear ho4 hc15 hz15 hP3 m4
   generalize w3.setCell ⟨r,15,none⟩ (.int .i64 0)=W4 at *
   have h4:=h4.below (below_drewN W4 1)
   have M4:=Lib.hid (M4.out.trans (Mv.below (A:=A4) (X:=X4) (below_drewN W4 1)))
   have hP4:W4.drew.cell? ⟨P,0,none⟩=some (.pointer (some ⟨r,0,none⟩)):=hP4
   have HP4s:Hid (P<W4.drew.heap.size):=HP4s
   have hsn:s2.n=s.n:=HSE.out.1
   have hso:s2.own=s.own:=HSE.out.2.1
   change Nd W4.drew A4 X4 r d l { s2 with ticks:=0 } k2 at h4
   change Hid (Mv A A4 X X4 w W4.drew) at M4
   have HM4:=Lib.hid (fun W=>Nd.new_votes' h4 (List.replicate s.n false) s.n hsn W)
   obtain ⟨vl,gv,gn,gm,gh,hcell⟩:=h4.cells
   have hc1:W4.drew.cell? ⟨r,1,none⟩=some (.int .i64 (s.n:Int)):=by rw [cell_heap hcell,←hsn];rfl
   have hc12:W4.drew.cell? ⟨r,12,none⟩=some (rowV gv s2.n):=by rw [cell_heap hcell];rfl
   have hz12:=free_heap hcell 12
   have hmk:=make_bools s.n hn5
   have hrl4:=lt_of_heap hcell
   have HK4:Hid (∀v,(W4.drew.alloc (.cells (boolsA (List.replicate s.n false)) 4)).cell? ⟨P,0,none⟩=some (.pointer (some ⟨r,0,none⟩))∧(W4.drew.alloc (.cells (boolsA (List.replicate s.n false)) 4)).cell? ⟨r,1,none⟩=some (.int .i64 (s.n:Int))∧((W4.drew.alloc (.cells (boolsA (List.replicate s.n false)) 4)).setCell ⟨r,12,none⟩ v).cell? ⟨P,0,none⟩=some (.pointer (some ⟨r,0,none⟩))∧((W4.drew.alloc (.cells (boolsA (List.replicate s.n false)) 4)).setCell ⟨r,12,none⟩ v).cell? ⟨r,1,none⟩=some (.int .i64 (s.n:Int))):=Lib.hid (fun v=>by
     have hb:Below W4.drew.heap.size W4.drew (W4.drew.alloc (.cells (boolsA (List.replicate s.n false)) 4)):=(Below.refl _ _).alloc (Nat.le_refl _) _
     have e1:=cell_later hb hP4
     have ho:Only [r] (W4.drew.alloc (.cells (boolsA (List.replicate s.n false)) 4)) ((W4.drew.alloc (.cells (boolsA (List.replicate s.n false)) 4)).setCell ⟨r,12,none⟩ v):=(Only.refl _ _).setCell (by simp) _
     have hh:=heap_old hcell (.cells (boolsA (List.replicate s.n false)) 4)
     refine ⟨e1,cell_later hb hc1,ho.cell e1 (by simpa using hrP.symm),?_⟩
     rw [cell_heap (heap_set hh 12 v),←hsn]
     rfl)
   have hcz:(W4.drew.alloc (.cells (boolsA (List.replicate s.n false)) 4)).cell? ⟨r,12,none⟩=some (rowV gv s2.n):=by rw [cell_heap (heap_old hcell (.cells (boolsA (List.replicate s.n false)) 4))];rfl
   have hzz:(W4.drew.alloc (.cells (boolsA (List.replicate s.n false)) 4)).frozen? ⟨r,12,none⟩=false:=free_heap (heap_old hcell (.cells (boolsA (List.replicate s.n false)) 4)) 12
   clear h4 hcell hc12 hz12
   refine wp_region_held_drew (S:=fun w'=>w'.cell? ⟨P,0,none⟩=some (.pointer (some ⟨r,0,none⟩))∧w'.cell? ⟨r,1,none⟩=some (.int .i64 (s.n:Int))) (by kernel_rfl) ⟨hP4,hc1⟩ (fun hHeld=>?_)
   refine qtl 0 (z09x19 _) rfl ?_
   refine qtl 1 (z09x20 _) rfl ?_
   refine qtl 2 (z09x21 _) rfl ?_
   refine qtl 3 (z09x22 _) rfl ?_
   refine qtl 4 (z09x23 _) rfl ?_
   generalize W4.drew=V4 at *
   refine qr1 5 (z09x24 _) rfl fun K hK=>?_
   unfold z09x24
   go_simp
   refine hK.out _ _ ⟨(HK4.out undef).1,(HK4.out undef).2.1⟩ (fun hHeld=>?_)
   clear hK K
   refine qsp ?_
   generalize hv5:V4.alloc (.cells (boolsA (List.replicate s.n false)) 4)=V5 at *
   have hnv:V5.heap.size=V4.heap.size+1:=by rw [←hv5];simp
   refine qtl 6 (z09x25 _) rfl ?_
   refine qtl 7 (z09x26 _) rfl ?_
   refine qr1 8 (z09x27 _) rfl fun K hK=>?_
   unfold z09x27
   go_simp
   refine hK.out _ _ ⟨(HK4.out _).2.2.1,(HK4.out _).2.2.2⟩ (fun hHeld=>?_)
   clear hK K
   refine qsp ?_
   refine qdn ?_
   clear hHeld
   obtain ⟨A5,X5,h5,m5⟩:=HM4.out _ rfl
   have hP5:=(HK4.out (.slice (some ⟨V4.heap.size,0,none⟩) s.n s.n)).2.2.1
   have M5:=Lib.hid (M4.out.trans m5)
   have HPX5:Hid (∀b∈X5,b≠P):=Lib.hid (fun b hb e=>by
     rcases m5.mv.gr b hb with h6 | h6
     · exact HPX4.out b h6 e
     · have:=HP4s.out;omega)
   go_upto_region 5 with (fail)
   clear hcz hzz HM4 HK4 hc1 hP4 hmk
   generalize V5.setCell ⟨r,12,none⟩ (.slice (some ⟨V4.heap.size,0,none⟩) s.n s.n)=W5 at *
   have h5:=h5.below (below_drewN W5 1)
   have M5:=Lib.hid (M5.out.trans (Mv.below (A:=A5) (X:=X5) (below_drewN W5 1)))
   have hP5:(W5.drewN 1).cell? ⟨P,0,none⟩=some (.pointer (some ⟨r,0,none⟩)):=hP5
   change (W5.drew).cell? ⟨P,0,none⟩=some (.pointer (some ⟨r,0,none⟩)) at hP5
   change Nd W5.drew A5 X5 r d l { s2 with ticks:=0,votes:=List.replicate s.n false } k2 at h5
   change Hid (Mv A A5 X X5 w W5.drew) at M5
   obtain ⟨D,L,R,vl,gv,gn,gm,gh,h6,hX6⟩:=h5
   have hc12:W5.drew.cell? ⟨r,12,none⟩=some (.slice (some ⟨gv,0,none⟩) s.n s.n):=by rw [cell_heap h6.cell,←hsn];rfl
   have hc0:W5.drew.cell? ⟨r,0,none⟩=some (.int .i64 (s.own:Int)):=by rw [cell_heap h6.cell,←hso];rfl
   have hown:(s.own:Int)<(s.n:Int):=by have:=HW.out.own;omega
   have hcv:W5.drew.cell? ⟨gv,s.own,none⟩=some (.bool ((List.replicate s.n false).getD s.own false)):=by rw [cell_heap h6.votes];exact boolsA_at _ _ (by simp;omega)
   have hzv:=free_heap h6.votes s.own
   have hPgv:P≠gv:=fun e=>HPX5.out gv ((hX6 gv).2 (.inr (.inr h6.vR))) e.symm
   have hrgv:r≠gv:=heap_ne h6.cell h6.votes (by decide)
   have HK5:Hid (∀v,(W5.drew.setCell ⟨gv,s.own,none⟩ v).cell? ⟨P,0,none⟩=some (.pointer (some ⟨r,0,none⟩))∧(W5.drew.setCell ⟨gv,s.own,none⟩ v).cell? ⟨r,12,none⟩=some (.slice (some ⟨gv,0,none⟩) s.n s.n)∧(W5.drew.setCell ⟨gv,s.own,none⟩ v).cell? ⟨r,0,none⟩=some (.int .i64 (s.own:Int))):=Lib.hid (fun v=>by
     have ho:Only [gv] W5.drew (W5.drew.setCell ⟨gv,s.own,none⟩ v):=(Only.refl _ _).setCell (by simp) _
     exact ⟨ho.cell hP5 (by simpa using hPgv),ho.cell hc12 (by simpa using hrgv),ho.cell hc0 (by simpa using hrgv)⟩)
   have H7:Hid (NdP W5.drew (W5.drew.setCell ⟨gv,s.own,none⟩ (.bool true)) A5 X5 r d l { s2 with ticks:=0,votes:=(List.replicate s.n false).set s.own true } k2):=Lib.hid ((h6.set_votes s.own true).ndpR hX6 (S:=[gv]) ((Only.refl _ _).setCell (by simp) _) (fun b hb=>by rw [List.mem_singleton.1 hb];exact h6.vR))
   clear h6 hX6 hPgv hrgv
   refine wp_region_held_drew (S:=fun w'=>w'.cell? ⟨P,0,none⟩=some (.pointer (some ⟨r,0,none⟩))∧w'.cell? ⟨r,12,none⟩=some (.slice (some ⟨gv,0,none⟩) s.n s.n)∧w'.cell? ⟨r,0,none⟩=some (.int .i64 (s.own:Int))) (by kernel_rfl) ⟨hP5,hc12,hc0⟩ (fun hHeld=>?_)
   refine qtl 0 (z09x28 _) rfl ?_
   refine qtl 1 (z09x29 _) rfl ?_
   refine qtl 2 (z09x30 _) rfl ?_
   refine qtl 3 (z09x31 _) rfl ?_
   refine qtl 4 (z09x32 _) rfl ?_
   refine qtl 5 (z09x33 _) rfl ?_
   refine qtl 6 (z09x34 _) rfl ?_
   refine qtl 7 (z09x35 _) rfl ?_
   refine qtl 8 (z09x36 _) rfl ?_
   generalize W5.drew=V5b at *
   refine qr1 9 (z09x37 _) rfl fun K hK=>?_
   unfold z09x37
   go_simp
   refine hK.out _ _ (HK5.out _) (fun hHeld=>?_)
   clear hK K
   refine qsp ?_
   refine qdn ?_
   clear hHeld
   have hP8:=(HK5.out (.bool true)).1
   generalize V5b.setCell ⟨gv,s.own,none⟩ (.bool true)=W8 at *
   obtain ⟨A7,X7,h7,m7⟩:=H7.out
   have H7:=Lib.hid h7
   have M7:=Lib.hid (M5.out.trans m7)
   clear h7 m7 hc12 hc0 hcv hzv hP5
   have HWV:Hid (Wf { s2 with ticks:=0,votes:=(List.replicate s.n false).set s.own true } k2):=HWV
   have hlog:s2.log.length≤1000000:=by have:=HWV.out.logb;have h9:s2.log.length≤87381:=this;omega
   have HCH:=Lib.hid (chosen_any H7.out HWV.out.n5 HWV.out.vl)
   (try simp only at HE)
   generalize hs7:({ s2 with ticks:=0,votes:=(List.replicate s.n false).set s.own true }:Rp)=s7 at *
   have HLG:Hid (s7.log.length≤1000000):=Lib.hid (by rw [←hs7];exact hlog)
   clear hs7
   go_wp2_with fail
   refine HCH.out.mono ?_
   rintro e w9 ⟨rfl,rfl⟩
   cases hch:chosenM s7 with
   | true =>
     rw [hch,if_pos rfl] at HE
     go_wp2_with fail
     refine (lead_any H7.out HWV.out).mono ?_
     rintro e w9 hms
     obtain ⟨v9,A9,X9,rfl,h9,ho9,m9⟩:=hms
     have HF:=Lib.hid (MsP.trans M7.out ⟨v9,A9,X9,rfl,h9,ho9,m9⟩)
     clear h9 ho9 m9
     go_wp2_with fail
     go_ret
     rw [HE.out]
     exact HF.out
   | false =>
     rw [hch,if_neg (by simp)] at HE
     go_wp2_with fail
     refine (others_stand1 H7.out HWV.out.n5 HLG.out P hP8).mono ?_
     rintro e w9 ⟨v9,rfl,ho9,hb9⟩
     have HF:=Lib.hid (MsP.trans M7.out (others_fin H7.out ho9 hb9))
     clear ho9 hb9
     go_wp2_with fail
     go_ret
     rw [HE.out]
     exact HF.out
end
end Go.Proofs.Ytnicaicjgaoolaa
namespace Go.Proofs.Ytnicaicjgaoolaa
open Go.RowKit Go.ChangeMaps Go.WideMaps Go.Maps
set_option maxRecDepth 20000
section
variable {w w':World} {A A' X X':List Nat} {r d l:Nat} {s s':Rp} {k k':Dk}
theorem tickM_done (h:doneM s k=true):tickM s k=([],doneS s k,k):=by
 unfold tickM
 simp only
 rw [if_pos (by exact h)]
theorem tickM_leads (h:doneM s k=false) (hl:s.leads=true):tickM s k=(othersM { doneS s k with clock:=s.clock+1 } (layingM { doneS s k with clock:=s.clock+1 }),{ doneS s k with clock:=s.clock+1 },k):=by
 unfold tickM
 simp only
 rw [if_neg (by show ¬doneM s k=true;rw [h];decide),if_pos (by exact hl)]
 rfl
def tkS (s:Rp) (k:Dk):Rp:={ doneS s k with clock:=s.clock+1,ticks:=s.ticks+1 }
theorem tickM_not (h:doneM s k=false) (hl:s.leads=false):tickM s k=(if 8≤s.ticks+1∧bestM (tkS s k)=true then standM (tkS s k) k else if 4≤s.ticks+1 then (othersM (tkS s k) (telling (tkS s k) 5),tkS s k,k) else ([],tkS s k,k)):=by
 unfold tickM
 simp only
 rw [if_neg (by show ¬doneM s k=true;rw [h];decide),if_neg (by show ¬s.leads=true;rw [hl];decide)]
 rfl
set_option maxHeartbeats 4000000 in
theorem tick_any (h:Nd w A X r d l s k) (hw:Wf s k) (hck:s.clock+1≤1000000):Calls Try.prog 22 #[.pointer (some ⟨r,0,none⟩)] w fun e w'=>MsP w w' A X r d l e (tickM s k):=by
 have hbw:Below w.heap.size w (w.alloc (.cells #[.pointer (some ⟨r,0,none⟩)] 39)):=(Below.refl _ _).alloc (Nat.le_refl _) _
 have hbx:=heap_new w (.cells #[.pointer (some ⟨r,0,none⟩)] 39)
 have h1:=h.below hbw
 have HM0:Hid (Mv A A X X w (w.alloc (.cells #[.pointer (some ⟨r,0,none⟩)] 39))):=Lib.hid (Mv.below hbw)
 have hP0:(w.alloc (.cells #[.pointer (some ⟨r,0,none⟩)] 39)).cell? ⟨w.heap.size,0,none⟩=some (.pointer (some ⟨r,0,none⟩)):=by rw [cell_heap hbx];rfl
 have hrP:r≠w.heap.size:=by have:=h.alt r (h.xA r h.rX);omega
 have HRX:=Lib.hid h.rX
 have HD:=Lib.hid (done_any h1)
 have HWD:=Lib.hid (wf_doneS hw)
 have HTD:=Lib.hid (tickM_done (s:=s) (k:=k))
 have HTL:=Lib.hid (tickM_leads (s:=s) (k:=k))
 have HTN:=Lib.hid (tickM_not (s:=s) (k:=k))
 have htk:=hw.tick
 clear h hbw hbx h1 hw
 go_enter Try.func22,Try.ntmps22
 go_wp2_with fail
 generalize w.alloc (.cells #[.pointer (some ⟨r,0,none⟩)] 39)=W at *
 generalize w.heap.size=P at *
 refine HD.out.mono ?_
 rintro e w2 ⟨rfl,hn2,ho2⟩
 have hP2:=ho2.cell hP0 (by simpa using hrP.symm)
 have H2:=Lib.hid hn2
 have M2:=Lib.hid (HM0.out.trans (Mv.only (A:=A) ho2 (by simpa using HRX.out)))
 obtain ⟨vl,gv,gn,gm,gh,hcell⟩:=hn2.cells
 have hc16:w2.cell? ⟨r,16,none⟩=some (.int .i64 (s.clock:Int)):=by rw [cell_heap hcell];rfl
 have hc15:w2.cell? ⟨r,15,none⟩=some (.int .i64 (s.ticks:Int)):=by rw [cell_heap hcell];rfl
 have hc11:w2.cell? ⟨r,11,none⟩=some (.bool s.leads):=by rw [cell_heap hcell];rfl
 have hz16:=free_heap hcell 16
 have hz15:=free_heap hcell 15
 have q1:IntKind.i64.wrap ((s.clock:Int)+1)=(s.clock:Int)+1:=IntWalk.i64_in _ (by omega)
 have q2:IntKind.i64.wrap ((s.ticks:Int)+1)=(s.ticks:Int)+1:=IntWalk.i64_in _ (by omega)
 clear hn2 ho2 hP0 HD hcell
 cases hdn:doneM s k with
 | true =>
  have HE:=Lib.hid (HTD.out hdn)
  go_wp2_with fail
  go_ret
  rw [HE.out]
  exact MsP.none (H2.out.ndp M2.out)
 | false =>
  cases hld:s.leads with
  | true =>
   have HE:=Lib.hid (HTL.out hdn hld)
   rw [hld] at hc11
   have HW3:=Lib.hid (wf_scal HWD.out s.lives s.ticks (s.clock+1) s.votes (Nat.le_succ_of_le htk) HWD.out.vl (Nat.le_succ _))
   have H3:Hid (NdP w2 (w2.setCell ⟨r,16,none⟩ (.int .i64 ((s.clock:Int)+1))) A X r d l { doneS s k with clock:=s.clock+1 } k):=Lib.hid (by
    refine Nd.scal H2.out ((Only.refl _ _).setCell (by simp) _) ?_ rfl rfl rfl rfl rfl rfl
    intro vl gv gn gm gh hc
    rw [heap_set hc]
    rfl)
   have HLD:Hid (({ doneS s k with clock:=s.clock+1 }:Rp).leads=true):=Lib.hid hld
   have HW3:Hid (Wf { doneS s k with clock:=s.clock+1 } k):=HW3
   go_wp2_with fail
   obtain ⟨A3,X3,h3,m3⟩:=H3.out
   have M3:=Lib.hid (M2.out.trans m3)
   refine (others_laying h3 HW3.out.n5 HW3.out (fun i _=>(HW3.out.lead HLD.out i).1)).mono ?_
   rintro e w4 ⟨v4,rfl,ho4,hb4⟩
   have HF:=Lib.hid (MsP.trans M3.out (others_fin h3 ho4 hb4))
   clear ho4 hb4 h3 m3
   go_wp2_with fail
   go_ret
   rw [HE.out]
   exact HF.out
  | false =>
   have HE:=Lib.hid (HTN.out hdn hld)
   rw [hld] at hc11
   have HW3:Hid (Wf (tkS s k) k):=Lib.hid (wf_scal HWD.out s.lives (s.ticks+1) (s.clock+1) s.votes (by omega) HWD.out.vl (Nat.le_succ _))
   have H3:Hid (NdP w2 ((w2.setCell ⟨r,16,none⟩ (.int .i64 ((s.clock:Int)+1))).setCell ⟨r,15,none⟩ (.int .i64 ((s.ticks:Int)+1))) A X r d l (tkS s k) k):=Lib.hid (by
    refine Nd.scal H2.out (((Only.refl _ _).setCell (by simp) _).setCell (by simp) _) ?_ rfl rfl rfl rfl rfl rfl
    intro vl gv gn gm gh hc
    rw [heap_set (heap_set hc 16 _) 15 _]
    rfl)
   have hP3:((w2.setCell ⟨r,16,none⟩ (.int .i64 ((s.clock:Int)+1))).setCell ⟨r,15,none⟩ (.int .i64 ((s.ticks:Int)+1))).cell? ⟨P,0,none⟩=some (.pointer (some ⟨r,0,none⟩)):=(((Only.refl [r] _).setCell (p:=⟨r,16,none⟩) (by simp) _).setCell (p:=⟨r,15,none⟩) (by simp) _).cell hP2 (by simpa using hrP.symm)
   have HCK:Hid ((tkS s k).clock≤1000000):=Lib.hid hck
   have HLG:Hid ((tkS s k).log.length≤1000000):=Lib.hid (by have:=HW3.out.logb;omega)
   by_cases h8:8≤s.ticks+1
   ·have g8:(8:Int)≤(s.ticks:Int)+1:=by omega
    have g4:(4:Int)≤(s.ticks:Int)+1:=by omega
    go_wp2_with fail
    obtain ⟨A3,X3,h3,m3⟩:=H3.out
    have H3:=Lib.hid h3
    have M3:=Lib.hid (M2.out.trans m3)
    refine (best_any h3 HW3.out HCK.out).mono ?_
    rintro e w4 ⟨rfl,hb4⟩
    have H4:=Lib.hid (H3.out.below hb4)
    have M4:=Lib.hid (M3.out.trans (Mv.below (A:=A3) (X:=X3) hb4))
    have hP4:=cell_later hb4 hP3
    obtain ⟨vl,gv,gn,gm,gh,hcell⟩:=H4.out.cells
    have hk15:w4.cell? ⟨r,15,none⟩=some (.int .i64 ((s.ticks:Int)+1)):=by rw [cell_heap hcell];rfl
    clear h3 m3 hb4 hcell hP3 hc15 hc16 hc11 hz15 hz16
    cases hbs:bestM (tkS s k) with
    | true =>
     rw [if_pos ⟨h8,hbs⟩] at HE
     go_wp2_with fail
     refine (stand_any H4.out HW3.out).mono ?_
     rintro e w5 ⟨v5,A5,X5,rfl,h5,ho5,m5⟩
     have HF:=Lib.hid (MsP.trans M4.out ⟨v5,A5,X5,rfl,h5,ho5,m5⟩)
     clear h5 ho5 m5
     go_wp2_with fail
     go_ret
     rw [HE.out]
     exact HF.out
    | false =>
     rw [if_neg (by rw [hbs];simp),if_pos (by omega)] at HE
     go_wp2_with fail
     refine (others_tick1 H4.out HW3.out.n5 HLG.out P hP4).mono ?_
     rintro e w5 ⟨v5,rfl,ho5,hb5⟩
     have HF:=Lib.hid (MsP.trans M4.out (others_fin H4.out ho5 hb5))
     clear ho5 hb5
     go_wp2_with fail
     go_ret
     rw [HE.out]
     exact HF.out
   ·have g8:¬(8:Int)≤(s.ticks:Int)+1:=by omega
    rw [if_neg (fun h=>h8 h.1)] at HE
    by_cases h4:4≤s.ticks+1
    ·have g4:(4:Int)≤(s.ticks:Int)+1:=by omega
     rw [if_pos h4] at HE
     obtain ⟨A3,X3,h3,m3⟩:=H3.out
     have H3:=Lib.hid h3
     have M3:=Lib.hid (M2.out.trans m3)
     clear h3 m3
     go_wp2_with fail
     refine (others_tick1 H3.out HW3.out.n5 HLG.out P hP3).mono ?_
     rintro e w5 ⟨v5,rfl,ho5,hb5⟩
     have HF:=Lib.hid (MsP.trans M3.out (others_fin H3.out ho5 hb5))
     clear ho5 hb5
     go_wp2_with fail
     go_ret
     rw [HE.out]
     exact HF.out
    ·have g4:¬(4:Int)≤(s.ticks:Int)+1:=by omega
     rw [if_neg h4] at HE
     go_wp2_with fail
     go_ret
     rw [HE.out]
     exact MsP.none (NdP.trans M2.out H3.out)
end
end Go.Proofs.Ytnicaicjgaoolaa
namespace Go.Proofs.Ytnicaicjgaoolaa
open Go.RowKit Go.ChangeMaps Go.WideMaps Go.Maps
set_option maxRecDepth 20000
section
variable {w w':World} {A A' X X':List Nat} {r d l:Nat} {s s':Rp} {k k':Dk}
/-- Leads: what it answers; what the replica is behind it -/
def leadsM (s:Rp) (k:Dk):Bool×Rp:=if s.leads then (!doneM s k,doneS s k) else (false,s)
theorem leads_any (h:Nd w A X r d l s k):Calls Try.prog 15 #[.pointer (some ⟨r,0,none⟩)] w fun e w'=>e = .returned (.bool (leadsM s k).1)∧Nd w' A X r d l (leadsM s k).2 k∧Only [r] w w':=by
 obtain ⟨vl,gv,gn,gm,gh,hcell⟩:=h.cells
 have hc11:w.cell? ⟨r,11,none⟩=some (.bool s.leads):=by rw [cell_heap hcell];rfl
 have HD:=Lib.hid (done_any h)
 have H:=Lib.hid h
 clear h hcell
 cases hl:s.leads with
 | true =>
  have HE:Hid (leadsM s k=(!doneM s k,doneS s k)):=Lib.hid (by unfold leadsM;rw [if_pos hl])
  rw [hl] at hc11
  go_enter Try.func15,Try.ntmps15
  go_wp2_with fail
  refine HD.out.mono ?_
  rintro e w2 ⟨rfl,hn2,ho2⟩
  have HN2:=Lib.hid hn2
  have HO2:=Lib.hid ho2
  clear hn2 ho2
  go_wp2_with fail
  go_ret
  rw [HE.out]
  exact ⟨rfl,HN2.out,HO2.out⟩
 | false =>
  have HE:Hid (leadsM s k=(false,s)):=Lib.hid (by unfold leadsM;rw [if_neg (by rw [hl];decide)])
  rw [hl] at hc11
  go_enter Try.func15,Try.ntmps15
  go_wp2_with fail
  go_ret
  rw [HE.out]
  exact ⟨rfl,H.out,Only.refl _ _⟩
end
end Go.Proofs.Ytnicaicjgaoolaa
namespace Go.Proofs.Ytnicaicjgaoolaa
open Go.RowKit Go.ChangeMaps Go.WideMaps Go.Maps
set_option maxRecDepth 20000
theorem conv_str (w:World) (t:ByteArray):∃c w',(convert 9 29 (.string t)).run Try.prog w = .ok (.slice (some ⟨w.heap.size,0,none⟩) t.size c) w'∧Below w.heap.size w w'∧∀A,(∀b∈A,b<w.heap.size)→Imm w' A (.slice (some ⟨w.heap.size,0,none⟩) t.size c) t.data.toList:=by
 have hr:=run_bytes_of_string (P:=Try.prog) w 9 29 5 t (by kernel_rfl) (by kernel_rfl) (by kernel_rfl)
 refine ⟨_,_,hr,(below_drewN w 1).alloc (Nat.le_refl _) _,fun A hA=>?_⟩
 have hl:t.data.toList.length=t.size:=Array.length_toList
 have hhp:(w.drew.alloc (.cells (bytesRow t (grownCap w t.size 0 5)) 5 ((bytesRow t (grownCap w t.size 0 5)).size,(bytesRow t (grownCap w t.size 0 5)).size+1))).heap[w.heap.size]? = _:=heap_new w.drew _
 refine ⟨some ⟨w.heap.size,0,none⟩,_,by rw [hl],?_,?_,fun p hp=>?_⟩
 ·rw [hl]
  refine ⟨hl,(fun e=>by cases e),?_⟩
  refine .inr ⟨w.heap.size,0,rfl,fun i hi=>?_⟩
  rw [cell_heap hhp,Nat.zero_add,bytesRow_at t _ i hi]
  rw [List.getD_eq_getElem?_getD,Array.getElem?_toList,Array.getElem?_eq_getElem hi]
  rfl
 ·rw [hl];exact grownCap_ge w t.size 0 5
 ·cases hp
  exact ⟨fun hm=>by have:=hA _ hm;simp at this,by simp⟩
theorem noteT_parts (t who:Int):noteT t who=be8 1++(be8 t++(be8 who++[])):=by unfold noteT be8s;rfl
theorem noteE_parts (p:Nat) (x:Ent):noteE p x=be8 2++(be8 (p:Int)++(be8 x.term++(txt (strB x.bs)++[]))):=by
 rw [strB_txt]
 unfold noteE be8s
 simp [List.append_assoc]
section
variable {w0 w w':World} {A A' X X':List Nat} {r d l:Nat} {s s':Rp} {k k':Dk} {T:Nat→Prop}
set_option maxHeartbeats 4000000 in
theorem noteT_any (h:Nd w0 A X r d l s k) (hb:Below w0.heap.size w0 w) (a:Nat) (ha:w0.heap.size≤a) (t who:Int) (hr:IsR w a T (noteT t who) false) (h1:s.term≤t) (h10:0≤t) (h2:t≤1099511627776) (h3 : -1≤who) (h4:who<s.n) (h5:s.n≤5) :
  Calls Try.prog 63 #[.pointer (some ⟨r,0,none⟩),.pointer (some ⟨a,0,none⟩)] w fun e w'=>e = .returned (.bool true)∧NdP w0 w' A X r d l { s with term:=t,choice:=who } k:=by
 have H:=Lib.hid h
 have HS:Hid (∀w1 w2,Below w0.heap.size w0 w1→Only [a] w1 w2→Below w0.heap.size w0 w2):=Lib.hid (fun w1 w2 hb ho=>hb.trans (ho.below hb.size (by simpa using ha)))
 have HB:=Lib.hid hb
 have HR:=Lib.hid hr
 rw [noteT_parts] at HR
 clear h hb hr
 go_enter Try.func63,Try.ntmps63
 go_wp2_with fail
 refine (rdI64_any a _ false w HR.out (by simp [be8_len])).mono ?_
 rintro e w1 ⟨rfl,hr1,ho1⟩
 rw [rI_be8 1 _ false (by omega) (by omega)] at hr1 ⊢
 have HR1:=Lib.hid hr1
 have HB1:=Lib.hid (HS.out _ _ HB.out ho1)
 clear hr1 ho1
 go_wp2_with fail
 refine (rdI64_any a _ false w1 HR1.out (by simp [be8_len])).mono ?_
 rintro e w2 ⟨rfl,hr2,ho2⟩
 rw [rI_be8 t _ false (by omega) (by omega)] at hr2 ⊢
 have HR2:=Lib.hid hr2
 have HB2:=Lib.hid (HS.out _ _ HB1.out ho2)
 clear hr2 ho2
 go_wp2_with fail
 refine (rdI64_any a _ false w2 HR2.out (by simp [be8_len])).mono ?_
 rintro e w3 ⟨rfl,hr3,ho3⟩
 rw [rI_be8 who _ false (by omega) (by omega)] at hr3 ⊢
 have HR3:=Lib.hid hr3
 have HB3:=Lib.hid (HS.out _ _ HB2.out ho3)
 clear hr3 ho3
 go_wp2_with fail
 refine (end_any a _ false w3 HR3.out).mono ?_
 rintro e w4 ⟨rfl,rfl⟩
 have H3:=Lib.hid (H.out.below HB3.out)
 have HBX:=HB3
 obtain ⟨vl,gv,gn,gm,gh,hcell⟩:=H3.out.cells
 have hc6:w3.cell? ⟨r,6,none⟩=some (.int .i64 s.term):=by rw [cell_heap hcell];rfl
 have hc7:w3.cell? ⟨r,7,none⟩=some (.int .i64 s.choice):=by rw [cell_heap hcell];rfl
 have hc1:w3.cell? ⟨r,1,none⟩=some (.int .i64 (s.n:Int)):=by rw [cell_heap hcell];rfl
 have hz6:=free_heap hcell 6
 have hz7:=free_heap hcell 7
 have g1:¬t<s.term:=by omega
 have g2:¬(1099511627776:Int)<t:=by omega
 have g3:¬who < -1:=by omega
 have g4:¬(s.n:Int)≤who:=by omega
 clear hcell HB HB1 HB2 HR HR1 HR2 HR3 h1 h10 h2 h3 h4 h5 HS
 go_wp2_with fail
 go_ret
 refine ⟨rfl,NdP.trans (Mv.below HBX.out) (Nd.scal H3.out ?_ ?_ rfl rfl rfl rfl rfl rfl)⟩
 ·exact ((Only.refl _ _).setCell (by simp) _).setCell (by simp) _
 ·intro vl gv gn gm gh hc
  rw [heap_set (heap_set hc 6 _) 7 _]
  simp [rpCells]
set_option maxHeartbeats 4000000 in
theorem noteE_any (h:Nd w0 A X r d l s k) (hb:Below w0.heap.size w0 w) (a:Nat) (ha:w0.heap.size≤a) (p:Nat) (x:Ent) (hr:IsR w a T (noteE p x) false) (h1:p≤s.log.length) (h2:1≤x.term) (h3:x.term≤s.term) (h4:x.bs.length≤8000) (h5:s.log.length≤1000000) (h6:s.term≤1099511627776) :
  Calls Try.prog 63 #[.pointer (some ⟨r,0,none⟩),.pointer (some ⟨a,0,none⟩)] w fun e w'=>e = .returned (.bool true)∧NdP w0 w' A X r d l { s with log:=s.log.take p++[x]} k:=by
 have H:=Lib.hid h
 have HS:Hid (∀w1 w2,Below w0.heap.size w0 w1→Only [a] w1 w2→Below w0.heap.size w0 w2):=Lib.hid (fun w1 w2 hb ho=>hb.trans (ho.below hb.size (by simpa using ha)))
 have HB:=Lib.hid hb
 have HR:=Lib.hid hr
 rw [noteE_parts] at HR
 have hts:(strB x.bs).size=x.bs.length:=strB_size _
 have htl:(strB x.bs).data.toList=x.bs:=by simp [strB]
 have HTL:=Lib.hid htl
 have hlen:(be8 2++(be8 (p:Int)++(be8 x.term++(txt (strB x.bs)++[])))).length≤100000:=by rw [←noteE_parts,noteE_len];omega
 have hlen1:(be8 (p:Int)++(be8 x.term++(txt (strB x.bs)++[]))).length≤100000:=by rw [List.length_append] at hlen;omega
 have hlen2:(be8 x.term++(txt (strB x.bs)++[])).length≤100000:=by rw [List.length_append] at hlen1;omega
 have hlen3:(txt (strB x.bs)++[]).length≤100000:=by rw [List.length_append] at hlen2;omega
 have HXB:Hid (x.bs.length≤8000):=Lib.hid h4
 have HPL:Hid (p≤s.log.length∧s.log.length≤1000000):=Lib.hid ⟨h1,h5⟩
 clear h hb hr htl
 generalize htb:strB x.bs=tb at *
 have htb2:tb.size≤8000:=by omega
 clear htb hts
 go_enter Try.func63,Try.ntmps63
 go_wp2_with fail
 refine (rdI64_any a _ false w HR.out (by omega)).mono ?_
 rintro e w1 ⟨rfl,hr1,ho1⟩
 rw [rI_be8 2 _ false (by omega) (by omega)] at hr1 ⊢
 have HR1:=Lib.hid hr1
 have HB1:=Lib.hid (HS.out _ _ HB.out ho1)
 clear hr1 ho1
 go_wp2_with fail
 refine (rdI64_any a _ false w1 HR1.out (by omega)).mono ?_
 rintro e w2 ⟨rfl,hr2,ho2⟩
 rw [rI_be8 (p:Int) _ false (by omega) (by omega)] at hr2 ⊢
 have HR2:=Lib.hid hr2
 have HB2:=Lib.hid (HS.out _ _ HB1.out ho2)
 clear hr2 ho2
 go_wp2_with fail
 refine (rdI64_any a _ false w2 HR2.out (by omega)).mono ?_
 rintro e w3 ⟨rfl,hr3,ho3⟩
 rw [rI_be8 x.term _ false (by omega) (by omega)] at hr3 ⊢
 have HR3:=Lib.hid hr3
 have HB3:=Lib.hid (HS.out _ _ HB2.out ho3)
 clear hr3 ho3
 go_wp2_with fail
 refine (rdText_any a _ false 8000 w3 HR3.out (by omega)).mono ?_
 rintro e w4 ⟨rfl,hr4,ho4⟩
 rw [rT_txt tb [] false 8000 (by omega) (by omega)] at hr4 ⊢
 have HR4:=Lib.hid hr4
 have HB4:=Lib.hid (HS.out _ _ HB3.out ho4)
 clear hr4 ho4
 go_wp2_with fail
 refine (end_any a _ false w4 HR4.out).mono ?_
 rintro e w5 ⟨rfl,rfl⟩
 obtain ⟨D,L,R,vl,gv,gn,gm,gh,h4n,hX4⟩:=H.out.below HB4.out
 have HX4:=Lib.hid hX4
 have HC4:=Lib.hid h4n
 have hc6:w4.cell? ⟨r,6,none⟩=some (.int .i64 s.term):=by rw [cell_heap h4n.cell];rfl
 obtain ⟨al,cl,evl,hcl,hcm,hcn,hcg⟩:=isE_len h4n.log
 subst evl
 have hc8:w4.cell? ⟨r,8,none⟩=some (.slice al s.log.length cl):=by rw [cell_heap h4n.cell];rfl
 have g1:¬(p:Int)<0:=by omega
 have g2:¬(s.log.length:Int)<(p:Int):=by omega
 have g3:¬x.term<1:=by omega
 have g4:¬s.term<x.term:=by omega
 have hpc:p≤cl:=Nat.le_trans h1 hcl
 have HCN:=Lib.hid hcn
 have HCG:=Lib.hid hcg
 have HAL:=Lib.hid h4n.wd.alt
 have HK8:Hid (∀w',Below w4.heap.size w4 w'→w'.cell? ⟨r,8,none⟩=some (.slice al s.log.length cl)):=Lib.hid (fun w' hb=>cell_later hb hc8)
 clear HB HB1 HB2 HB3 HR HR1 HR2 HR3 HR4 hlen hlen1 hlen2 hlen3 h2 h3 h5 h6 HS h4n hX4 hcn hcg
 obtain ⟨c5,W5,hcv,hb5,hi5⟩:=conv_str w4 tb
 have hk8:=HK8.out _ hb5
 have HC5:=Lib.hid (HC4.out.below hb5)
 have HU5:=Lib.hid (hi5 A HAL.out)
 rw [HTL.out] at HU5
 have HB5:=Lib.hid hb5
 have HSZ:Hid (w4.heap.size≤W5.heap.size):=Lib.hid hb5.size
 clear hb5 hi5
 go_upto_region 12 with (fail)
 have HB6:Hid (Below W5.heap.size W5 (W5.alloc (.cells #[.int .i64 x.term,.slice (some ⟨w4.heap.size,0,none⟩) tb.size c5] 68))):=Lib.hid ((Below.refl _ _).alloc (Nat.le_refl _) _)
 have HX6:=Lib.hid (heap_new W5 (.cells #[.int .i64 x.term,.slice (some ⟨w4.heap.size,0,none⟩) tb.size c5] 68))
 have HC6:=Lib.hid (HC5.out.below HB6.out)
 have HU6:=Lib.hid (HU5.out.below HB6.out)
 go_wp2_with (at_builtin;refine wpList_append_ent rfl (.tmp 96) (.tmp 101) rfl HC6.out.log p HPL.out.1 HPL.out.2 (y:=x) HX6.out HU6.out HC6.out.wd.alt (by rfl) (by rfl) ?_)
 intro c7 cur7 he7
 have HE7:=Lib.hid he7
 have hB7a:=(HB5.out.alloc HB5.out.size (.cells #[.int .i64 x.term,.slice (some ⟨w4.heap.size,0,none⟩) tb.size c5] 68))
 have hB7b:=hB7a.alloc hB7a.size (.cells cur7 68)
 have hC7a:NdC ((W5.alloc (.cells #[.int .i64 x.term,.slice (some ⟨w4.heap.size,0,none⟩) tb.size c5] 68)).alloc (.cells cur7 68)) A D L R r d l s k (.slice al s.log.length cl) gv gn gm gh:=HC6.out.below ((Below.refl _ _).alloc (Nat.le_refl _) _)
 have HC7:=Lib.hid (hC7a.below (below_drewN _ 1))
 have HB7:=Lib.hid (hB7b.trans ((below_drewN _ 1).mono hB7b.size))
 have hs1:w4.heap.size≤W5.heap.size+1:=by have:=HSZ.out;omega
 have hs2:W5.heap.size+1<(((W5.alloc (.cells #[.int .i64 x.term,.slice (some ⟨w4.heap.size,0,none⟩) tb.size c5] 68)).alloc (.cells cur7 68)).drewN 1).heap.size:=by simp
 have hy8:(((W5.alloc (.cells #[.int .i64 x.term,.slice (some ⟨w4.heap.size,0,none⟩) tb.size c5] 68)).alloc (.cells cur7 68)).drewN 1).cell? ⟨r,8,none⟩=some (.slice al s.log.length cl):=by rw [cell_heap HC7.out.cell];rfl
 have hz8:=free_heap HC7.out.cell 8
 have HE7:Hid (IsE (((W5.alloc (.cells #[.int .i64 x.term,.slice (some ⟨w4.heap.size,0,none⟩) tb.size c5] 68)).alloc (.cells cur7 68)).drewN 1) A (.slice (some ⟨W5.heap.size+1,0,none⟩) (p+1) c7) (s.log.take p++[x])):=HE7
 clear he7 hB7a hB7b hC7a hk8
 change wpList _ _ _ _ _ (((W5.alloc (.cells #[.int .i64 x.term,.slice (some ⟨w4.heap.size,0,none⟩) tb.size c5] 68)).alloc (.cells cur7 68)).drewN 1)
 generalize ((W5.alloc (.cells #[.int .i64 x.term,.slice (some ⟨w4.heap.size,0,none⟩) tb.size c5] 68)).alloc (.cells cur7 68)).drewN 1=w7 at *
 go_wp2_with fail
 go_ret
 exact ⟨rfl,NdP.trans (Mv.below HB4.out) (place_fin HX4.out HB7.out HC7.out HE7.out hs1 hs2)⟩
end
end Go.Proofs.Ytnicaicjgaoolaa
