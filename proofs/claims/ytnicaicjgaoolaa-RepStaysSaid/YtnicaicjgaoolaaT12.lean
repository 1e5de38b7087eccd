/-
  What the proof of the law leans on: contracts of the program's functions, one behind another. No condition.
-/
import Derived.Test.YtnicaicjgaoolaaT11
import Derived.Test.YtnicaicjgaoolaaT3
set_option linter.unusedVariables false
set_option linter.unusedSimpArgs false
namespace Go.Proofs.Ytnicaicjgaoolaa
open Go.RowKit Go.ChangeMaps Go.WideMaps Go.Maps
set_option maxRecDepth 20000
section
variable (p:String)
def z05x0:Oper:=⟨some 4,.load 39 (.tmp 1),39,p,#[],none⟩
def z05x1:Oper:=⟨some 5,.move (.tmp 0),3,p,#[],none⟩
def z05x2:Oper:=⟨some 6,.load 39 (.tmp 1),39,p,#[],none⟩
def z05x3:Oper:=⟨some 7,.nilCheck (.tmp 6),0,p,#[⟨2,.data⟩],none⟩
def z05x4:Oper:=⟨some 8,.fieldAddr 66 (.tmp 7) 6,0,p,#[⟨3,.data⟩],none⟩
def z05x5:Oper:=⟨some 9,.load 2 (.tmp 8),2,p,#[⟨4,.data⟩],none⟩
def z05x6:Oper:=⟨some 10,.load 39 (.tmp 1),39,p,#[],none⟩
def z05x7:Oper:=⟨some 11,.nilCheck (.tmp 10),0,p,#[⟨6,.data⟩],none⟩
def z05x8:Oper:=⟨some 12,.fieldAddr 66 (.tmp 11) 8,0,p,#[⟨7,.data⟩],none⟩
def z05x9:Oper:=⟨some 13,.load 62 (.tmp 12),62,p,#[⟨8,.data⟩],none⟩
def z05x10:Oper:=⟨some 14,.call { callee:=Callee.builtin Builtin.len,args:=#[.tmp 13],argTypes:=#[62]},3,p,#[⟨9,.data⟩],none⟩
def z05x11:Oper:=⟨some 15,.load 39 (.tmp 1),39,p,#[],none⟩
def z05x12:Oper:=⟨some 16,.load 39 (.tmp 1),39,p,#[],none⟩
def z05x13:Oper:=⟨some 17,.nilCheck (.tmp 16),0,p,#[⟨12,.data⟩],none⟩
def z05x14:Oper:=⟨some 18,.fieldAddr 66 (.tmp 17) 8,0,p,#[⟨13,.data⟩],none⟩
def z05x15:Oper:=⟨some 19,.load 62 (.tmp 18),62,p,#[⟨14,.data⟩],none⟩
def z05x16:Oper:=⟨some 20,.call { callee:=Callee.builtin Builtin.len,args:=#[.tmp 19],argTypes:=#[62]},3,p,#[⟨15,.data⟩],none⟩
def z05x17:Oper:=⟨some 21,.call { callee:=Callee.value (Operand.func 45),args:=#[.tmp 15,.tmp 20],argTypes:=#[39,3]},2,p,#[⟨11,.data⟩,⟨16,.data⟩],none⟩
def z05x18:Oper:=⟨some 22,.buildSlice 49 3 #[(0,.tmp 9),(1,.tmp 14),(2,.tmp 21)],49,p,#[⟨5,.data⟩,⟨10,.data⟩,⟨17,.data⟩],none⟩
def z05x19:Oper:=⟨some 23,.call { callee:=Callee.value (Operand.func 44),args:=#[.tmp 4,.tmp 5,Operand.const (Value.int IntKind.i64 5),.tmp 22],argTypes:=#[39,3,3,49]},51,p,#[⟨0,.data⟩,⟨1,.data⟩,⟨18,.data⟩,⟨17,.chain⟩],none⟩
def z05x20:Oper:=⟨none,.store 51 (.tmp 3) (.tmp 23),0,p,#[⟨19,.data⟩,⟨19,.chain⟩,⟨0,.phase⟩,⟨1,.phase⟩,⟨2,.phase⟩,⟨3,.phase⟩,⟨4,.phase⟩,⟨5,.phase⟩,⟨6,.phase⟩,⟨7,.phase⟩,⟨8,.phase⟩,⟨9,.phase⟩,⟨10,.phase⟩,⟨11,.phase⟩,⟨12,.phase⟩,⟨13,.phase⟩,⟨14,.phase⟩,⟨15,.phase⟩,⟨16,.phase⟩,⟨17,.phase⟩,⟨18,.phase⟩,⟨19,.phase⟩],none⟩
def z05x21:Oper:=⟨some 23,.call { callee:=Callee.value (Operand.func 44),args:=#[.tmp 4,.tmp 5,Operand.const (Value.int IntKind.i64 1),.tmp 22],argTypes:=#[39,3,3,49]},51,p,#[⟨0,.data⟩,⟨1,.data⟩,⟨18,.data⟩,⟨17,.chain⟩],none⟩
end
attribute [go_sem,reducible] z05x0 z05x1 z05x2 z05x3 z05x4 z05x5 z05x6 z05x7 z05x8 z05x9 z05x10 z05x11 z05x12 z05x13 z05x14 z05x15 z05x16 z05x17 z05x18 z05x19 z05x20 z05x21
section
variable {w w':World} {A A' X X':List Nat} {r d l:Nat} {s s':Rp} {k k':Dk}
set_option maxHeartbeats 1000000 in
theorem tick1_any (h:Nd w A X r d l s k) (hb:s.log.length≤1000000) (p q:Nat) (hp:w.cell? ⟨p,0,none⟩=some (.pointer (some ⟨r,0,none⟩))):Calls Try.prog 43 #[.int .i64 (q:Int),.pointer (some ⟨p,0,none⟩)] w fun e w'=>∃v u,e = .returned (msgV (telling s 5 q) v u)∧IsMsg w' A (telling s 5 q) v u∧Below w.heap.size w w':=by
 have HWA:=Lib.hid h.alt
 obtain ⟨al,cl,hc8,hl1,hl2⟩:=h.loglen
 obtain ⟨vl,gv,gn,gm,gh,hcell⟩:=h.cells
 have hc6:w.cell? ⟨r,6,none⟩=some (.int .i64 s.term):=by rw [cell_heap hcell];rfl
 have hbw:∀o,Below w.heap.size w (w.alloc o):=fun o=>(Below.refl _ _).alloc (Nat.le_refl _) _
 have HN:=Lib.hid h
 clear h hcell
 go_enter Try.func43,Try.ntmps43
 go_upto_region 1 with (fail)
 have hbx:=Lib.hid (heap_new w (.cells #[.int .i64 0,.int .i64 0,.int .i64 0,.slice none 0 0,.slice none 0 0] 51))
 have hV:=hbw (.cells #[.int .i64 0,.int .i64 0,.int .i64 0,.slice none 0 0,.slice none 0 0] 51)
 have hVs:w.heap.size<(w.alloc (.cells #[.int .i64 0,.int .i64 0,.int .i64 0,.slice none 0 0,.slice none 0 0] 51)).heap.size:=by simp
 generalize w.alloc (.cells #[.int .i64 0,.int .i64 0,.int .i64 0,.slice none 0 0,.slice none 0 0] 51)=V at *
 have c1:∀w',Below w.heap.size w w'→w'.cell? ⟨p,0,none⟩=some (.pointer (some ⟨r,0,none⟩)):=fun w' hb=>cell_later hb hp
 have c6:∀w',Below w.heap.size w w'→w'.cell? ⟨r,6,none⟩=some (.int .i64 s.term):=fun w' hb=>cell_later hb hc6
 have c8:∀w',Below w.heap.size w w'→w'.cell? ⟨r,8,none⟩=some (.slice al s.log.length cl):=fun w' hb=>cell_later hb hc8
 have HLT:Hid (∀w',Below V.heap.size V w'→Calls Try.prog 45 #[.pointer (some ⟨r,0,none⟩),.int .i64 (s.log.length:Int)] w' fun e w2=>e = .returned (.int .i64 (lastTermM s.log s.log.length))∧w'=w2):=Lib.hid (fun w' hb2=>lastTerm_any (HN.out.below (hV.trans (hb2.mono hV.size))) _ (Nat.le_refl _) hb)
 have HSAY:Hid (∀w',Below V.heap.size V w'→∀dst kind N ao n c,Calls Try.prog 44 #[.pointer (some ⟨r,0,none⟩),.int .i64 dst,.int .i64 kind,.slice ao n c] w' fun e w2=>e = .returned (msgV (sayM s dst kind N) (.slice ao n c) (.slice none 0 0))∧Below w'.heap.size w' w2):=Lib.hid (fun w' hb2 dst kind N ao n c=>say_any (HN.out.below (hV.trans (hb2.mono hV.size))) dst kind N ao n c)
 have HZ3:Hid (∀w',Below V.heap.size V w'→w'.heap[w.heap.size]? = some (.cells #[.int .i64 0,.int .i64 0,.int .i64 0,.slice none 0 0,.slice none 0 0] 51 (0,0))):=Lib.hid (fun w' hb=>heap_below3 hb hVs hbx.out)
 have HVV:Hid (∀w',Below V.heap.size V w'→Below w.heap.size w w'):=Lib.hid (fun w' hb=>hV.trans (hb.mono hV.size))
 have HV18:Hid (∀o,Below V.heap.size V (V.drew.alloc o)):=Lib.hid (fun o=>(below_drewN V 1).alloc (Nat.le_refl _) o)
 have HFIN:Hid (∀w3 row,Below V.heap.size V w3→Below w.heap.size w (w3.setRow w.heap.size row)):=Lib.hid (fun w3 row hb=>by
  have hon:=setRow_only w3 w.heap.size row
  exact (hV.trans (hb.mono hV.size)).trans (hon.below (hV.trans (hb.mono hV.size)).size (by simp)))
 have HVS:=Lib.hid hVs
 have HT:Hid (telling s 5 q=sayM s (q:Int) 5 [s.term,(s.log.length:Int),lastTermM s.log s.log.length]):=Lib.hid rfl
 have HWL:Hid ((s.own:Int)=(s.own:Int)):=Lib.hid rfl
 clear hp hc6 hc8 hV hVs hbw hb hbx
 generalize hlt:lastTermM s.log s.log.length=lt at *
 generalize s.log.length=sl at *
 generalize s.term=st at *
 have HEND:Hid (∀w3 row,Below (V.drew.alloc (.cells #[.int .i64 st,.int .i64 (sl:Int),.int .i64 lt] 2)).heap.size (V.drew.alloc (.cells #[.int .i64 st,.int .i64 (sl:Int),.int .i64 lt] 2)) w3→IsMsg (w3.setRow w.heap.size row) A (sayM s (q:Int) 5 [st,(sl:Int),lt]) (.slice (some ⟨V.heap.size,0,none⟩) 3 3) (.slice none 0 0)):=Lib.hid (fun w3 row hb=>by
  have h1:ImmI (V.drew.alloc (.cells #[.int .i64 st,.int .i64 (sl:Int),.int .i64 lt] 2)) A (.slice (some ⟨V.heap.size,0,none⟩) 3 3) [st,(sl:Int),lt]:=ImmI.fresh (w:=V.drew) [st,(sl:Int),lt] _ rfl 2 3 rfl (by omega) (fun b hb=>by have:=HWA.out b hb;have:=HVS.out;show b<V.heap.size;omega)
  refine ⟨(h1.below hb).avoid (setRow_only _ _ _) (fun p hp=>?_),.inl ⟨rfl,rfl⟩⟩
  cases hp
  have:=HVS.out
  simp;omega)
 refine wp_region_held_drew (S:=fun w'=>Below w.heap.size w w') (by kernel_rfl) (HVV.out _ (below_drewN V 1)) (fun hHeld=>?_)
 refine qtl 0 (z05x0 _) rfl ?_
 refine qtl 1 (z05x1 _) rfl ?_
 refine qtl 2 (z05x2 _) rfl ?_
 refine qtl 3 (z05x3 _) rfl ?_
 refine qtl 4 (z05x4 _) rfl ?_
 refine qtl 5 (z05x5 _) rfl ?_
 refine qtl 6 (z05x6 _) rfl ?_
 refine qtl 7 (z05x7 _) rfl ?_
 refine qtl 8 (z05x8 _) rfl ?_
 refine qtl 9 (z05x9 _) rfl ?_
 refine qtl 10 (z05x10 _) rfl ?_
 refine qtl 11 (z05x11 _) rfl ?_
 refine qtl 12 (z05x12 _) rfl ?_
 refine qtl 13 (z05x13 _) rfl ?_
 refine qtl 14 (z05x14 _) rfl ?_
 refine qtl 15 (z05x15 _) rfl ?_
 refine qtl 16 (z05x16 _) rfl ?_
 refine qr1 17 (z05x17 _) rfl fun K hK=>?_
 unfold z05x17
 go_simp
 refine (HLT.out _ (below_drewN V 1)).mono ?_
 rintro e wa ⟨rfl,rfl⟩
 go_wp2_with fail
 refine hK.out _ _ hHeld (fun hHeld=>?_)
 clear hK K
 refine qsp ?_
 refine qr1 18 (z05x18 _) rfl fun K hK=>?_
 unfold z05x18
 go_simp
 refine hK.out _ _ (HVV.out _ (HV18.out _)) (fun hHeld=>?_)
 clear hK K
 refine qsp ?_
 refine qr1 19 (z05x19 _) rfl fun K hK=>?_
 unfold z05x19
 go_simp
 refine (HSAY.out _ (HV18.out _) _ _ [st,(sl:Int),lt] _ _ _).mono ?_
 rintro e w3 ⟨rfl,hb3⟩
 have HB3:=Lib.hid ((HV18.out _).trans (hb3.mono (HV18.out _).size))
 have HB4:=Lib.hid hb3
 go_wp2_with fail
 refine hK.out _ _ (HVV.out _ HB3.out) (fun hHeld=>?_)
 clear hK K
 refine qsp ?_
 refine qr1 20 (z05x20 _) rfl fun K hK=>?_
 unfold z05x20
 have hz3:=HZ3.out _ HB3.out
 refine step_of_list rfl fun Q' hQ=>?_
 refine wpList_store_row rfl 51 (.tmp 3) (.tmp 23) rfl w.heap.size #[.int .i64 (s.own:Int),.int .i64 (q:Int),.int .i64 5,.slice (some ⟨V.heap.size,0,none⟩) 3 3,.slice none 0 0] rfl rfl 51 _ hz3 size51 rfl (five_ones _ _ _ _ _ _ _ _ _) ?_
 refine hQ _ _ ?_
 clear hQ Q'
 refine hK.out _ _ (HFIN.out _ _ HB3.out) (fun hHeld=>?_)
 clear hK K
 refine qsp ?_
 refine qdn ?_
 go_wp2_with fail
 exact bodyPost_ret (results_cell_row (P:=Try.prog) (fn:=Try.f43) rfl _ _ w.heap.size 51 _ _ _ rfl (setRow_heap _ _ _ _ 51 (0,0) (HZ3.out _ HB3.out)) Try.underlying51 rfl size51) rfl ⟨_,_,rfl,by rw [HT.out];exact HEND.out _ _ HB4.out,HFIN.out _ _ HB3.out⟩
set_option maxHeartbeats 1000000 in
theorem stand1_any (h:Nd w A X r d l s k) (hb:s.log.length≤1000000) (p q:Nat) (hp:w.cell? ⟨p,0,none⟩=some (.pointer (some ⟨r,0,none⟩))):Calls Try.prog 65 #[.int .i64 (q:Int),.pointer (some ⟨p,0,none⟩)] w fun e w'=>∃v u,e = .returned (msgV (telling s 1 q) v u)∧IsMsg w' A (telling s 1 q) v u∧Below w.heap.size w w':=by
 have HWA:=Lib.hid h.alt
 obtain ⟨al,cl,hc8,hl1,hl2⟩:=h.loglen
 obtain ⟨vl,gv,gn,gm,gh,hcell⟩:=h.cells
 have hc6:w.cell? ⟨r,6,none⟩=some (.int .i64 s.term):=by rw [cell_heap hcell];rfl
 have hbw:∀o,Below w.heap.size w (w.alloc o):=fun o=>(Below.refl _ _).alloc (Nat.le_refl _) _
 have HN:=Lib.hid h
 clear h hcell
 go_enter Try.func65,Try.ntmps65
 go_upto_region 1 with (fail)
 have hbx:=Lib.hid (heap_new w (.cells #[.int .i64 0,.int .i64 0,.int .i64 0,.slice none 0 0,.slice none 0 0] 51))
 have hV:=hbw (.cells #[.int .i64 0,.int .i64 0,.int .i64 0,.slice none 0 0,.slice none 0 0] 51)
 have hVs:w.heap.size<(w.alloc (.cells #[.int .i64 0,.int .i64 0,.int .i64 0,.slice none 0 0,.slice none 0 0] 51)).heap.size:=by simp
 generalize w.alloc (.cells #[.int .i64 0,.int .i64 0,.int .i64 0,.slice none 0 0,.slice none 0 0] 51)=V at *
 have c1:∀w',Below w.heap.size w w'→w'.cell? ⟨p,0,none⟩=some (.pointer (some ⟨r,0,none⟩)):=fun w' hb=>cell_later hb hp
 have c6:∀w',Below w.heap.size w w'→w'.cell? ⟨r,6,none⟩=some (.int .i64 s.term):=fun w' hb=>cell_later hb hc6
 have c8:∀w',Below w.heap.size w w'→w'.cell? ⟨r,8,none⟩=some (.slice al s.log.length cl):=fun w' hb=>cell_later hb hc8
 have HLT:Hid (∀w',Below V.heap.size V w'→Calls Try.prog 45 #[.pointer (some ⟨r,0,none⟩),.int .i64 (s.log.length:Int)] w' fun e w2=>e = .returned (.int .i64 (lastTermM s.log s.log.length))∧w'=w2):=Lib.hid (fun w' hb2=>lastTerm_any (HN.out.below (hV.trans (hb2.mono hV.size))) _ (Nat.le_refl _) hb)
 have HSAY:Hid (∀w',Below V.heap.size V w'→∀dst kind N ao n c,Calls Try.prog 44 #[.pointer (some ⟨r,0,none⟩),.int .i64 dst,.int .i64 kind,.slice ao n c] w' fun e w2=>e = .returned (msgV (sayM s dst kind N) (.slice ao n c) (.slice none 0 0))∧Below w'.heap.size w' w2):=Lib.hid (fun w' hb2 dst kind N ao n c=>say_any (HN.out.below (hV.trans (hb2.mono hV.size))) dst kind N ao n c)
 have HZ3:Hid (∀w',Below V.heap.size V w'→w'.heap[w.heap.size]? = some (.cells #[.int .i64 0,.int .i64 0,.int .i64 0,.slice none 0 0,.slice none 0 0] 51 (0,0))):=Lib.hid (fun w' hb=>heap_below3 hb hVs hbx.out)
 have HVV:Hid (∀w',Below V.heap.size V w'→Below w.heap.size w w'):=Lib.hid (fun w' hb=>hV.trans (hb.mono hV.size))
 have HV18:Hid (∀o,Below V.heap.size V (V.drew.alloc o)):=Lib.hid (fun o=>(below_drewN V 1).alloc (Nat.le_refl _) o)
 have HFIN:Hid (∀w3 row,Below V.heap.size V w3→Below w.heap.size w (w3.setRow w.heap.size row)):=Lib.hid (fun w3 row hb=>by
  have hon:=setRow_only w3 w.heap.size row
  exact (hV.trans (hb.mono hV.size)).trans (hon.below (hV.trans (hb.mono hV.size)).size (by simp)))
 have HVS:=Lib.hid hVs
 have HT:Hid (telling s 1 q=sayM s (q:Int) 1 [s.term,(s.log.length:Int),lastTermM s.log s.log.length]):=Lib.hid rfl
 have HWL:Hid ((s.own:Int)=(s.own:Int)):=Lib.hid rfl
 clear hp hc6 hc8 hV hVs hbw hb hbx
 generalize hlt:lastTermM s.log s.log.length=lt at *
 generalize s.log.length=sl at *
 generalize s.term=st at *
 have HEND:Hid (∀w3 row,Below (V.drew.alloc (.cells #[.int .i64 st,.int .i64 (sl:Int),.int .i64 lt] 2)).heap.size (V.drew.alloc (.cells #[.int .i64 st,.int .i64 (sl:Int),.int .i64 lt] 2)) w3→IsMsg (w3.setRow w.heap.size row) A (sayM s (q:Int) 1 [st,(sl:Int),lt]) (.slice (some ⟨V.heap.size,0,none⟩) 3 3) (.slice none 0 0)):=Lib.hid (fun w3 row hb=>by
  have h1:ImmI (V.drew.alloc (.cells #[.int .i64 st,.int .i64 (sl:Int),.int .i64 lt] 2)) A (.slice (some ⟨V.heap.size,0,none⟩) 3 3) [st,(sl:Int),lt]:=ImmI.fresh (w:=V.drew) [st,(sl:Int),lt] _ rfl 2 3 rfl (by omega) (fun b hb=>by have:=HWA.out b hb;have:=HVS.out;show b<V.heap.size;omega)
  refine ⟨(h1.below hb).avoid (setRow_only _ _ _) (fun p hp=>?_),.inl ⟨rfl,rfl⟩⟩
  cases hp
  have:=HVS.out
  simp;omega)
 refine wp_region_held_drew (S:=fun w'=>Below w.heap.size w w') (by kernel_rfl) (HVV.out _ (below_drewN V 1)) (fun hHeld=>?_)
 refine qtl 0 (z05x0 _) rfl ?_
 refine qtl 1 (z05x1 _) rfl ?_
 refine qtl 2 (z05x2 _) rfl ?_
 refine qtl 3 (z05x3 _) rfl ?_
 refine qtl 4 (z05x4 _) rfl ?_
 refine qtl 5 (z05x5 _) rfl ?_
 refine qtl 6 (z05x6 _) rfl ?_
 refine qtl 7 (z05x7 _) rfl ?_
 refine qtl 8 (z05x8 _) rfl ?_
 refine qtl 9 (z05x9 _) rfl ?_
 refine qtl 10 (z05x10 _) rfl ?_
 refine qtl 11 (z05x11 _) rfl ?_
 refine qtl 12 (z05x12 _) rfl ?_
 refine qtl 13 (z05x13 _) rfl ?_
 refine qtl 14 (z05x14 _) rfl ?_
 refine qtl 15 (z05x15 _) rfl ?_
 refine qtl 16 (z05x16 _) rfl ?_
 refine qr1 17 (z05x17 _) rfl fun K hK=>?_
 unfold z05x17
 go_simp
 refine (HLT.out _ (below_drewN V 1)).mono ?_
 rintro e wa ⟨rfl,rfl⟩
 go_wp2_with fail
 refine hK.out _ _ hHeld (fun hHeld=>?_)
 clear hK K
 refine qsp ?_
 refine qr1 18 (z05x18 _) rfl fun K hK=>?_
 unfold z05x18
 go_simp
 refine hK.out _ _ (HVV.out _ (HV18.out _)) (fun hHeld=>?_)
 clear hK K
 refine qsp ?_
 refine qr1 19 (z05x21 _) rfl fun K hK=>?_
 unfold z05x21
 go_simp
 refine (HSAY.out _ (HV18.out _) _ _ [st,(sl:Int),lt] _ _ _).mono ?_
 rintro e w3 ⟨rfl,hb3⟩
 have HB3:=Lib.hid ((HV18.out _).trans (hb3.mono (HV18.out _).size))
 have HB4:=Lib.hid hb3
 go_wp2_with fail
 refine hK.out _ _ (HVV.out _ HB3.out) (fun hHeld=>?_)
 clear hK K
 refine qsp ?_
 refine qr1 20 (z05x20 _) rfl fun K hK=>?_
 unfold z05x20
 have hz3:=HZ3.out _ HB3.out
 refine step_of_list rfl fun Q' hQ=>?_
 refine wpList_store_row rfl 51 (.tmp 3) (.tmp 23) rfl w.heap.size #[.int .i64 (s.own:Int),.int .i64 (q:Int),.int .i64 1,.slice (some ⟨V.heap.size,0,none⟩) 3 3,.slice none 0 0] rfl rfl 51 _ hz3 size51 rfl (five_ones _ _ _ _ _ _ _ _ _) ?_
 refine hQ _ _ ?_
 clear hQ Q'
 refine hK.out _ _ (HFIN.out _ _ HB3.out) (fun hHeld=>?_)
 clear hK K
 refine qsp ?_
 refine qdn ?_
 go_wp2_with fail
 exact bodyPost_ret (results_cell_row (P:=Try.prog) (fn:=Try.f65) rfl _ _ w.heap.size 51 _ _ _ rfl (setRow_heap _ _ _ _ 51 (0,0) (HZ3.out _ HB3.out)) Try.underlying51 rfl size51) rfl ⟨_,_,rfl,by rw [HT.out];exact HEND.out _ _ HB4.out,HFIN.out _ _ HB3.out⟩
end
end Go.Proofs.Ytnicaicjgaoolaa
