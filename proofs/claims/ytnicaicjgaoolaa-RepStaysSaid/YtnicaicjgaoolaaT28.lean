/-
  What the proof of the law leans on: contracts of the program's functions, one behind another. No condition.
-/
import Derived.Test.YtnicaicjgaoolaaT25
import Derived.Test.YtnicaicjgaoolaaT5
import Derived.Test.YtnicaicjgaoolaaT3
set_option linter.unusedVariables false
set_option linter.unusedSimpArgs false
namespace Go.Proofs.Ytnicaicjgaoolaa
open Go.RowKit Go.ChangeMaps Go.WideMaps Go.Maps
set_option maxRecDepth 20000
section
variable (p:String)
def z0mx0:Oper:=⟨some 35,.move (.tmp 3),25,p,#[],none⟩
def z0mx1:Oper:=⟨some 36,.move (.tmp 3),25,p,#[⟨18,.gcOnly Departure.lateStores⟩],none⟩
def z0mx2:Oper:=⟨some 37,.move (.tmp 3),25,p,#[],none⟩
def z0mx3:Oper:=⟨some 38,.nilCheck (.tmp 37),0,p,#[⟨2,.data⟩],none⟩
def z0mx4:Oper:=⟨some 39,.fieldAddr 38 (.tmp 38) 0,0,p,#[⟨3,.data⟩],none⟩
def z0mx5:Oper:=⟨some 41,.move (.tmp 7),39,p,#[],none⟩
def z0mx6:Oper:=⟨some 44,.move (.tmp 3),25,p,#[],none⟩
def z0mx7:Oper:=⟨some 45,.nilCheck (.tmp 44),0,p,#[⟨9,.data⟩],none⟩
def z0mx8:Oper:=⟨some 46,.fieldAddr 38 (.tmp 45) 1,0,p,#[⟨10,.data⟩],none⟩
def z0mx9:Oper:=⟨some 48,.move (.tmp 5),54,p,#[],none⟩
def z0mx10:Oper:=⟨some 40,.load 32 (.tmp 39),32,p,#[⟨4,.data⟩],none⟩
def z0mx11:Oper:=⟨some 42,.buildSlice 32 1 #[(0,.tmp 41)],32,p,#[⟨6,.data⟩],none⟩
def z0mx12:Oper:=⟨some 47,.load 33 (.tmp 46),33,p,#[⟨11,.data⟩],none⟩
def z0mx13:Oper:=⟨some 49,.buildSlice 33 1 #[(0,.tmp 48)],33,p,#[⟨13,.data⟩],none⟩
def z0mx14:Oper:=⟨some 43,.call { callee:=Callee.builtin Builtin.append,args:=#[.tmp 40,.tmp 42],argTypes:=#[32,32]},32,p,#[⟨5,.data⟩,⟨7,.data⟩],none⟩
def z0mx15:Oper:=⟨some 50,.call { callee:=Callee.builtin Builtin.append,args:=#[.tmp 47,.tmp 49],argTypes:=#[33,33]},33,p,#[⟨12,.data⟩,⟨14,.data⟩,⟨8,.chain⟩],none⟩
def z0mx16:Oper:=⟨some 51,.nilCheck (.tmp 35),0,p,#[⟨0,.data⟩,⟨0,.phase⟩,⟨1,.textOnly Departure.lateStores⟩,⟨2,.phase⟩,⟨3,.phase⟩,⟨4,.phase⟩,⟨5,.phase⟩,⟨6,.phase⟩,⟨7,.phase⟩,⟨8,.phase⟩,⟨9,.textOnly Departure.lateStores⟩,⟨10,.textOnly Departure.lateStoresUnsure⟩,⟨11,.textOnly Departure.lateStoresUnsure⟩,⟨12,.phase⟩,⟨13,.textOnly Departure.lateStores⟩,⟨14,.textOnly Departure.lateStoresUnsure⟩,⟨15,.phase⟩],none⟩
def z0mx17:Oper:=⟨some 52,.fieldAddr 38 (.tmp 51) 0,0,p,#[⟨16,.data⟩,⟨0,.phase⟩,⟨1,.textOnly Departure.lateStores⟩,⟨2,.phase⟩,⟨3,.phase⟩,⟨4,.phase⟩,⟨5,.phase⟩,⟨6,.phase⟩,⟨7,.phase⟩,⟨8,.phase⟩,⟨9,.textOnly Departure.lateStores⟩,⟨10,.textOnly Departure.lateStoresUnsure⟩,⟨11,.textOnly Departure.lateStoresUnsure⟩,⟨12,.phase⟩,⟨13,.textOnly Departure.lateStores⟩,⟨14,.textOnly Departure.lateStoresUnsure⟩,⟨15,.phase⟩],none⟩
def z0mx18:Oper:=⟨none,.store 32 (.tmp 52) (.tmp 43),0,p,#[⟨17,.data⟩,⟨8,.data⟩,⟨15,.chain⟩,⟨0,.phase⟩,⟨1,.textOnly Departure.lateStores⟩,⟨2,.phase⟩,⟨3,.phase⟩,⟨4,.phase⟩,⟨5,.phase⟩,⟨6,.phase⟩,⟨7,.phase⟩,⟨8,.phase⟩,⟨9,.textOnly Departure.lateStores⟩,⟨10,.textOnly Departure.lateStoresUnsure⟩,⟨11,.textOnly Departure.lateStoresUnsure⟩,⟨12,.phase⟩,⟨13,.textOnly Departure.lateStores⟩,⟨14,.textOnly Departure.lateStoresUnsure⟩,⟨15,.phase⟩],none⟩
def z0mx19:Oper:=⟨some 53,.nilCheck (.tmp 36),0,p,#[⟨1,.data⟩,⟨0,.phase⟩,⟨1,.phase⟩,⟨2,.phase⟩,⟨3,.phase⟩,⟨4,.phase⟩,⟨5,.phase⟩,⟨6,.phase⟩,⟨7,.phase⟩,⟨8,.phase⟩,⟨9,.phase⟩,⟨10,.phase⟩,⟨11,.phase⟩,⟨12,.phase⟩,⟨13,.phase⟩,⟨14,.phase⟩,⟨15,.phase⟩,⟨16,.phase⟩,⟨17,.phase⟩,⟨18,.phase⟩],none⟩
def z0mx20:Oper:=⟨some 54,.fieldAddr 38 (.tmp 53) 1,0,p,#[⟨19,.data⟩,⟨0,.phase⟩,⟨1,.phase⟩,⟨2,.phase⟩,⟨3,.phase⟩,⟨4,.phase⟩,⟨5,.phase⟩,⟨6,.phase⟩,⟨7,.phase⟩,⟨8,.phase⟩,⟨9,.phase⟩,⟨10,.phase⟩,⟨11,.phase⟩,⟨12,.phase⟩,⟨13,.phase⟩,⟨14,.phase⟩,⟨15,.phase⟩,⟨16,.phase⟩,⟨17,.phase⟩,⟨18,.phase⟩],none⟩
def z0mx21:Oper:=⟨none,.store 33 (.tmp 54) (.tmp 50),0,p,#[⟨20,.data⟩,⟨15,.data⟩,⟨18,.chain⟩,⟨0,.phase⟩,⟨1,.phase⟩,⟨2,.phase⟩,⟨3,.phase⟩,⟨4,.phase⟩,⟨5,.phase⟩,⟨6,.phase⟩,⟨7,.phase⟩,⟨8,.phase⟩,⟨9,.phase⟩,⟨10,.phase⟩,⟨11,.phase⟩,⟨12,.phase⟩,⟨13,.phase⟩,⟨14,.phase⟩,⟨15,.phase⟩,⟨16,.phase⟩,⟨17,.phase⟩,⟨18,.phase⟩],none⟩
end
attribute [go_sem,reducible] z0mx0 z0mx1 z0mx2 z0mx3 z0mx4 z0mx5 z0mx6 z0mx7 z0mx8 z0mx9 z0mx10 z0mx11 z0mx12 z0mx13 z0mx14 z0mx15 z0mx16 z0mx17 z0mx18 z0mx19 z0mx20 z0mx21
theorem z0mxm0 {p:Prop} (h:p:=by
 refine qr1 15 (z0mx15 _) rfl fun K hK=>?_
 unfold z0mx15
 refine step_of_list rfl fun Q' hQ=>?_
 refine wpList_append_p rfl (.tmp 47) (.tmp 49) 33 54 rfl Try.underlying33 info54 (.slice ad i kd) i _ (by rfl) HB3.out.dr bd d (by rfl) HHd hi1000 ?_
 intro vd1 V4 hr1 ho1 hf1
 obtain ⟨a2,c2,e1,_⟩:=rows_form hr1
 subst e1
 refine hQ _ _ ?_
 clear hQ Q'
 refine hK.out _ _ trivial (fun hHeld=>?_)
 clear hK K
 refine qsp ?_
 have HB4:=Lib.hid (HB3.out.appD hr1 ho1 hf1)
 clear hr1 ho1 hf1
 refine qtl 16 (z0mx16 _) rfl ?_
 refine qtl 17 (z0mx17 _) rfl ?_
 refine qr1 18 (z0mx18 _) rfl fun K hK=>?_
 unfold z0mx18
 have hy:=(cell_heap HB4.out.cell 0).trans (show _=some (.slice ar i kr) from rfl)
 have hz:=free_heap HB4.out.cell 0
 go_simp
 clear hy hz
 refine hK.out _ _ trivial (fun hHeld=>?_)
 clear hK K
 refine qsp ?_
 have HB5:=Lib.hid (HB4.out.set 0 (.slice a1 (i+1) c1) (.slice a1 (i+1) c1) (.slice ad i kd) rfl)
 generalize V4.setCell ⟨C,0,none⟩ (.slice a1 (i+1) c1)=V5 at *
 refine qtl 19 (z0mx19 _) rfl ?_
 refine qtl 20 (z0mx20 _) rfl ?_
 refine qr1 21 (z0mx21 _) rfl fun K hK=>?_
 unfold z0mx21
 have hy:=(cell_heap HB5.out.cell 1).trans (show _=some (.slice ad i kd) from rfl)
 have hz:=free_heap HB5.out.cell 1
 go_simp
 clear hy hz
 refine hK.out _ _ trivial (fun hHeld=>?_)
 clear hK K
 refine qsp ?_
 have HB6:=Lib.hid (HB5.out.set 1 (.slice a2 (i+1) c2) (.slice a1 (i+1) c1) (.slice a2 (i+1) c2) rfl)
 generalize V5.setCell ⟨C,1,none⟩ (.slice a2 (i+1) c2)=V6 at *
 refine qdn ?_
 clear hHeld
 go_wp2_with fail
 go_meet
 exact HFIN.out _ _ _ HB6.out):p:=h
theorem z0mxm1 {p:Prop} (h:p:=by
 refine qr1 8 (z0mx14 _) rfl fun K hK=>?_
 unfold z0mx14
 refine step_of_list rfl fun Q' hQ=>?_
 refine wpList_append_p rfl (.tmp 40) (.tmp 42) 32 39 rfl Try.underlying32 info39 (.slice ar i kr) i _ (by rfl) HB2.out.rr br r (by rfl) HHr hi1000 ?_
 intro vr1 V3 hr1 ho1 hf1
 obtain ⟨a1,c1,e1,_⟩:=rows_form hr1
 subst e1
 refine hQ _ _ ?_
 clear hQ Q'
 refine hK.out _ _ trivial (fun hHeld=>?_)
 clear hK K
 refine qsp ?_
 have HB3:=Lib.hid (HB2.out.appR hr1 ho1 hf1)
 have HHd:=HB2.out.oldR HHd (by decide) ho1
 clear hr1 ho1 hf1
 exact z0mxm0):p:=h
theorem z0mxm2 {p:Prop} (h:p:=by
 refine qr2 8 14 (z0mx14 _) (z0mx13 _) rfl rfl (fun K hK=>?_) fun K hK=>?_
 ·unfold z0mx14
  refine step_of_list rfl fun Q' hQ=>?_
  refine wpList_append_p rfl (.tmp 40) (.tmp 42) 32 39 rfl Try.underlying32 info39 (.slice ar i kr) i _ (by rfl) HB1.out.rr br r (by rfl) HHr hi1000 ?_
  intro vr1 V2 hr1 ho1 hf1
  obtain ⟨a1,c1,e1,_⟩:=rows_form hr1
  subst e1
  refine hQ _ _ ?_
  clear hQ Q'
  refine hK.out _ _ trivial (fun hHeld=>?_)
  clear hK K
  refine qsp ?_
  have HB2:=Lib.hid (HB1.out.appR hr1 ho1 hf1)
  clear hr1 ho1 hf1
  refine qr1 14 (z0mx13 _) rfl fun K hK=>?_
  unfold z0mx13
  go_simp
  refine hK.out _ _ trivial (fun hHeld=>?_)
  clear hK K
  refine qsp ?_
  have HB3:=Lib.hid (HB2.out.alloc (.cells #[.pointer (some ⟨d,0,none⟩)] 54))
  have HHd:=heap_new V2 (.cells #[.pointer (some ⟨d,0,none⟩)] 54)
  generalize V2.heap.size=bd at *
  generalize V2.alloc (.cells #[.pointer (some ⟨d,0,none⟩)] 54)=V3 at *
  exact z0mxm0
 ·unfold z0mx13
  go_simp
  refine hK.out _ _ trivial (fun hHeld=>?_)
  clear hK K
  refine qsp ?_
  have HB2:=Lib.hid (HB1.out.alloc (.cells #[.pointer (some ⟨d,0,none⟩)] 54))
  have HHd:=heap_new V1 (.cells #[.pointer (some ⟨d,0,none⟩)] 54)
  replace HHr:=heap_old HHr (.cells #[.pointer (some ⟨d,0,none⟩)] 54)
  generalize V1.heap.size=bd at *
  generalize V1.alloc (.cells #[.pointer (some ⟨d,0,none⟩)] 54)=V2 at *
  exact z0mxm1):p:=h
theorem z0mxm3 {p:Prop} (h:p:=by
 refine qr2 8 12 (z0mx14 _) (z0mx12 _) rfl rfl (fun K hK=>?_) fun K hK=>?_
 ·unfold z0mx14
  refine step_of_list rfl fun Q' hQ=>?_
  refine wpList_append_p rfl (.tmp 40) (.tmp 42) 32 39 rfl Try.underlying32 info39 (.slice ar i kr) i _ (by rfl) HB2.out.rr br r (by rfl) HHr hi1000 ?_
  intro vr1 V3 hr1 ho1 hf1
  obtain ⟨a1,c1,e1,_⟩:=rows_form hr1
  subst e1
  refine hQ _ _ ?_
  clear hQ Q'
  refine hK.out _ _ trivial (fun hHeld=>?_)
  clear hK K
  refine qsp ?_
  have HB3:=Lib.hid (HB2.out.appR hr1 ho1 hf1)
  have HHd:=HB2.out.oldR HHd (by decide) ho1
  clear hr1 ho1 hf1
  refine qr1 12 (z0mx12 _) rfl fun K hK=>?_
  unfold z0mx12
  have hy1:=(cell_heap HB3.out.cell 1).trans (show _=some (.slice ad i kd) from rfl)
  go_simp
  clear hy1
  refine hK.out _ _ trivial (fun hHeld=>?_)
  clear hK K
  refine qsp ?_
  exact z0mxm0
 ·unfold z0mx12
  have hy1:=(cell_heap HB2.out.cell 1).trans (show _=some (.slice ad i kd) from rfl)
  go_simp
  clear hy1
  refine hK.out _ _ trivial (fun hHeld=>?_)
  clear hK K
  refine qsp ?_
  exact z0mxm1):p:=h
theorem z0mxm4 {p:Prop} (h:p:=by
 refine wpAnyH_ready (rs:=[8,12,14]) (by kernel_rfl) (by simp) ?_
 refine AllReadyH.cons (o:=(z0mx14 _)) rfl (fun K hK=>?_) (AllReadyH.cons (o:=(z0mx12 _)) rfl (fun K hK=>?_) (AllReadyH.cons (o:=(z0mx13 _)) rfl (fun K hK=>?_) AllReadyH.nil))
 ·unfold z0mx14
  refine step_of_list rfl fun Q' hQ=>?_
  refine wpList_append_p rfl (.tmp 40) (.tmp 42) 32 39 rfl Try.underlying32 info39 (.slice ar i kr) i _ (by rfl) HB1.out.rr br r (by rfl) HHr hi1000 ?_
  intro vr1 V2 hr1 ho1 hf1
  obtain ⟨a1,c1,e1,_⟩:=rows_form hr1
  subst e1
  refine hQ _ _ ?_
  clear hQ Q'
  refine hK.out _ _ trivial (fun hHeld=>?_)
  clear hK K
  refine qsp ?_
  have HB2:=Lib.hid (HB1.out.appR hr1 ho1 hf1)
  clear hr1 ho1 hf1
  refine qr2 12 14 (z0mx12 _) (z0mx13 _) rfl rfl (fun K hK=>?_) fun K hK=>?_
  ·unfold z0mx12
   have hy1:=(cell_heap HB2.out.cell 1).trans (show _=some (.slice ad i kd) from rfl)
   go_simp
   clear hy1
   refine hK.out _ _ trivial (fun hHeld=>?_)
   clear hK K
   refine qsp ?_
   refine qr1 14 (z0mx13 _) rfl fun K hK=>?_
   unfold z0mx13
   go_simp
   refine hK.out _ _ trivial (fun hHeld=>?_)
   clear hK K
   refine qsp ?_
   have HB3:=Lib.hid (HB2.out.alloc (.cells #[.pointer (some ⟨d,0,none⟩)] 54))
   have HHd:=heap_new V2 (.cells #[.pointer (some ⟨d,0,none⟩)] 54)
   generalize V2.heap.size=bd at *
   generalize V2.alloc (.cells #[.pointer (some ⟨d,0,none⟩)] 54)=V3 at *
   exact z0mxm0
  ·unfold z0mx13
   go_simp
   refine hK.out _ _ trivial (fun hHeld=>?_)
   clear hK K
   refine qsp ?_
   have HB3:=Lib.hid (HB2.out.alloc (.cells #[.pointer (some ⟨d,0,none⟩)] 54))
   have HHd:=heap_new V2 (.cells #[.pointer (some ⟨d,0,none⟩)] 54)
   generalize V2.heap.size=bd at *
   generalize V2.alloc (.cells #[.pointer (some ⟨d,0,none⟩)] 54)=V3 at *
   refine qr1 12 (z0mx12 _) rfl fun K hK=>?_
   unfold z0mx12
   have hy1:=(cell_heap HB3.out.cell 1).trans (show _=some (.slice ad i kd) from rfl)
   go_simp
   clear hy1
   refine hK.out _ _ trivial (fun hHeld=>?_)
   clear hK K
   refine qsp ?_
   exact z0mxm0
 ·unfold z0mx12
  have hy1:=(cell_heap HB1.out.cell 1).trans (show _=some (.slice ad i kd) from rfl)
  go_simp
  clear hy1
  refine hK.out _ _ trivial (fun hHeld=>?_)
  clear hK K
  refine qsp ?_
  exact z0mxm2
 ·unfold z0mx13
  go_simp
  refine hK.out _ _ trivial (fun hHeld=>?_)
  clear hK K
  refine qsp ?_
  have HB2:=Lib.hid (HB1.out.alloc (.cells #[.pointer (some ⟨d,0,none⟩)] 54))
  have HHd:=heap_new V1 (.cells #[.pointer (some ⟨d,0,none⟩)] 54)
  replace HHr:=heap_old HHr (.cells #[.pointer (some ⟨d,0,none⟩)] 54)
  generalize V1.heap.size=bd at *
  generalize V1.alloc (.cells #[.pointer (some ⟨d,0,none⟩)] 54)=V2 at *
  exact z0mxm3):p:=h
theorem z0mxm5 {p:Prop} (h:p:=by
 refine qr1 7 (z0mx11 _) rfl fun K hK=>?_
 unfold z0mx11
 go_simp
 refine hK.out _ _ trivial (fun hHeld=>?_)
 clear hK K
 refine qsp ?_
 have HB2:=Lib.hid (HB1.out.alloc (.cells #[.pointer (some ⟨r,0,none⟩)] 39))
 have HHr:=heap_new V1 (.cells #[.pointer (some ⟨r,0,none⟩)] 39)
 replace HHd:=heap_old HHd (.cells #[.pointer (some ⟨r,0,none⟩)] 39)
 generalize V1.heap.size=br at *
 generalize V1.alloc (.cells #[.pointer (some ⟨r,0,none⟩)] 39)=V2 at *
 exact z0mxm1):p:=h
theorem z0mxm6 {p:Prop} (h:p:=by
 refine qr1 5 (z0mx10 _) rfl fun K hK=>?_
 unfold z0mx10
 have hy0:=(cell_heap HB2.out.cell 0).trans (show _=some (.slice ar i kr) from rfl)
 go_simp
 clear hy0
 refine hK.out _ _ trivial (fun hHeld=>?_)
 clear hK K
 refine qsp ?_
 exact z0mxm1):p:=h
theorem z0mxm7 {p:Prop} (h:p:=by
 refine hK.out _ _ trivial (fun hHeld=>?_)
 clear hK K
 refine qsp ?_
 refine qr2 7 14 (z0mx11 _) (z0mx13 _) rfl rfl (fun K hK=>?_) fun K hK=>?_
 ·unfold z0mx11
  go_simp
  refine hK.out _ _ trivial (fun hHeld=>?_)
  clear hK K
  refine qsp ?_
  have HB1:=Lib.hid (HB0.out.alloc (.cells #[.pointer (some ⟨r,0,none⟩)] 39))
  have HHr:=heap_new V0 (.cells #[.pointer (some ⟨r,0,none⟩)] 39)
  generalize V0.heap.size=br at *
  generalize V0.alloc (.cells #[.pointer (some ⟨r,0,none⟩)] 39)=V1 at *
  exact z0mxm2
 ·unfold z0mx13
  go_simp
  refine hK.out _ _ trivial (fun hHeld=>?_)
  clear hK K
  refine qsp ?_
  have HB1:=Lib.hid (HB0.out.alloc (.cells #[.pointer (some ⟨d,0,none⟩)] 54))
  have HHd:=heap_new V0 (.cells #[.pointer (some ⟨d,0,none⟩)] 54)
  generalize V0.heap.size=bd at *
  generalize V0.alloc (.cells #[.pointer (some ⟨d,0,none⟩)] 54)=V1 at *
  exact z0mxm5):p:=h
theorem z0mxm8 {p:Prop} (h:p:=by
 refine qr2 7 12 (z0mx11 _) (z0mx12 _) rfl rfl (fun K hK=>?_) fun K hK=>?_
 ·unfold z0mx11
  go_simp
  refine hK.out _ _ trivial (fun hHeld=>?_)
  clear hK K
  refine qsp ?_
  have HB2:=Lib.hid (HB1.out.alloc (.cells #[.pointer (some ⟨r,0,none⟩)] 39))
  have HHr:=heap_new V1 (.cells #[.pointer (some ⟨r,0,none⟩)] 39)
  replace HHd:=heap_old HHd (.cells #[.pointer (some ⟨r,0,none⟩)] 39)
  generalize V1.heap.size=br at *
  generalize V1.alloc (.cells #[.pointer (some ⟨r,0,none⟩)] 39)=V2 at *
  exact z0mxm3
 ·unfold z0mx12
  have hy1:=(cell_heap HB1.out.cell 1).trans (show _=some (.slice ad i kd) from rfl)
  go_simp
  clear hy1
  refine hK.out _ _ trivial (fun hHeld=>?_)
  clear hK K
  refine qsp ?_
  exact z0mxm5):p:=h
theorem z0mxm9 {p:Prop} (h:p:=by
 refine qr2 5 14 (z0mx10 _) (z0mx13 _) rfl rfl (fun K hK=>?_) fun K hK=>?_
 ·unfold z0mx10
  have hy0:=(cell_heap HB1.out.cell 0).trans (show _=some (.slice ar i kr) from rfl)
  go_simp
  clear hy0
  refine hK.out _ _ trivial (fun hHeld=>?_)
  clear hK K
  refine qsp ?_
  exact z0mxm2
 ·unfold z0mx13
  go_simp
  refine hK.out _ _ trivial (fun hHeld=>?_)
  clear hK K
  refine qsp ?_
  have HB2:=Lib.hid (HB1.out.alloc (.cells #[.pointer (some ⟨d,0,none⟩)] 54))
  have HHd:=heap_new V1 (.cells #[.pointer (some ⟨d,0,none⟩)] 54)
  replace HHr:=heap_old HHr (.cells #[.pointer (some ⟨d,0,none⟩)] 54)
  generalize V1.heap.size=bd at *
  generalize V1.alloc (.cells #[.pointer (some ⟨d,0,none⟩)] 54)=V2 at *
  exact z0mxm6):p:=h
theorem z0mxm10 {p:Prop} (h:p:=by
 refine qr2 5 7 (z0mx10 _) (z0mx11 _) rfl rfl (fun K hK=>?_) fun K hK=>?_
 ·unfold z0mx10
  have hy0:=(cell_heap HB1.out.cell 0).trans (show _=some (.slice ar i kr) from rfl)
  go_simp
  clear hy0
  refine hK.out _ _ trivial (fun hHeld=>?_)
  clear hK K
  refine qsp ?_
  exact z0mxm5
 ·unfold z0mx11
  go_simp
  refine hK.out _ _ trivial (fun hHeld=>?_)
  clear hK K
  refine qsp ?_
  have HB2:=Lib.hid (HB1.out.alloc (.cells #[.pointer (some ⟨r,0,none⟩)] 39))
  have HHr:=heap_new V1 (.cells #[.pointer (some ⟨r,0,none⟩)] 39)
  replace HHd:=heap_old HHd (.cells #[.pointer (some ⟨r,0,none⟩)] 39)
  generalize V1.heap.size=br at *
  generalize V1.alloc (.cells #[.pointer (some ⟨r,0,none⟩)] 39)=V2 at *
  exact z0mxm6):p:=h
theorem z0mxm11 {p:Prop} (h:p:=by
 refine qr2 5 12 (z0mx10 _) (z0mx12 _) rfl rfl (fun K hK=>?_) fun K hK=>?_
 ·unfold z0mx10
  have hy0:=(cell_heap HB2.out.cell 0).trans (show _=some (.slice ar i kr) from rfl)
  go_simp
  clear hy0
  refine hK.out _ _ trivial (fun hHeld=>?_)
  clear hK K
  refine qsp ?_
  exact z0mxm3
 ·unfold z0mx12
  have hy1:=(cell_heap HB2.out.cell 1).trans (show _=some (.slice ad i kd) from rfl)
  go_simp
  clear hy1
  refine hK.out _ _ trivial (fun hHeld=>?_)
  clear hK K
  refine qsp ?_
  exact z0mxm6):p:=h
theorem info39:(Try.prog.info? 39).map (fun i=>(i.zero,i.size,i.bytes))=some (some (.pointer none),1,8):=by kernel_rfl
theorem info54:(Try.prog.info? 54).map (fun i=>(i.zero,i.size,i.bytes))=some (some (.pointer none),1,8):=by kernel_rfl
theorem wpList_append_p {w:World} {ops:Array Oper} {rest:List Oper} {o:Oper} {a:Act} {Q:Exit→Act→World→Prop} (hgd:o.guard=none) (s x:Operand) (t e:TypeId)
  (ho:o.op = .call { callee:=.builtin .append,args:=#[s,x],argTypes:=#[t,t]}) (ht:Try.prog.underlying t=some (.slice e)) (hi:(Try.prog.info? e).map (fun i=>(i.zero,i.size,i.bytes))=some (some (.pointer none),1,8))
  (v:Value) (i:Nat) (xs:List Value) (hs:a.eval s=v) (hown:w.ownsRow 0 e 1 v i xs) (H p:Nat) (hx:a.eval x = .slice (some ⟨H,0,none⟩) 1 1) (hH:w.heap[H]? = some (.cells #[ptrV p] e (0,0))) (hb:i≤1000)
  (h:∀v' w',w'.ownsRow 0 e 1 v' (i+1) (xs++[ptrV p])→Only v.ownBlock.toList w w'→(∀k,v'.ownBlock=some k→v.ownBlock=some k∨w.heap.size≤k)→wpList Try.prog ops Q rest (a.put o.dst v') w'):wpList Try.prog ops Q (o::rest) a w:=by
 obtain ⟨i0,hi0,hz0,hz1,hz2⟩:=info_parts hi
 refine wpList_append_foot hgd s x t ho e i0 (.pointer none) 1 8 ht hi0 hz0 hz1 hz2 rfl (by decide) v _ _ hs hown (some ⟨H,0,none⟩) 1 1 hx (fun e=>by cases e) [ptrV p] (by rfl) (src1 hH) ?_ (by unfold maxLen;omega) (by omega) ?_
 ·intro u hu
  rw [List.mem_singleton.1 hu];rfl
 ·intro v' w' g1 g2 g3
  exact h v' w' g1 g2 g3
def dk0:Dk:=⟨1048576,false,1,none⟩
def nodN (n j:Nat):Nod:=⟨rpNew j n 1 [],dk0,true⟩
def Mn.begun (n:Nat):Mn:={ nodes:=(List.range n).map (nodN n),q:=[],long:=[],bad:=false,gn:=0 }
theorem begun_at (n j:Nat) (h:j<n):(Mn.begun n).at j=nodN n j:=by
 unfold Mn.begun Mn.at
 simp [List.getD_eq_getElem?_getD,h]
structure BegC (w:World) (A Y:List Nat) (c n i:Nat) (rs ds ls:Nat→Nat) (Xs:Nat→List Nat) (vr vd:Value) (gu:Nat):Prop where
 cell:w.heap[c]? = some (.cells #[vr,vd,.slice (some ⟨gu,0,none⟩) n n,.slice none 0 0,.slice none 0 0,.slice none 0 0,.bool false] 38 (0,0))
 rr:w.ownsRow 0 39 1 vr i (ptrs rs i)
 dr:w.ownsRow 0 54 1 vd i (ptrs ds i)
 up:w.heap[gu]? = some (.cells (boolsA (List.replicate i true++List.replicate (n - i) false)) 4 (0,0))
 node:∀j,j<i→NodeAt w A (Xs j) (rs j) (ds j) (ls j) (nodN n j)
 cY:c∈Y
 rY:∀b,vr.ownBlock=some b→b∈Y
 dY:∀b,vd.ownBlock=some b→b∈Y
 uY:gu∈Y
 yx:∀j,j<i→Dis Y (Xs j)
 xx:∀j1 j2,j1<i→j2<i→j1≠j2→Dis (Xs j1) (Xs j2)
 yA:∀b∈Y,b∈A
 alt:∀b∈A,b<w.heap.size
section
variable {w w':World} {A A' Y Z Z':List Nat} {c n i:Nat} {S:Mn} {rs ds ls:Nat→Nat} {Xs:Nat→List Nat} {vr vd:Value} {gu:Nat} {qv gv lv:Value}
theorem BegC.keep {T:List Nat} (h:BegC w A Y c n i rs ds ls Xs vr vd gu) (ho:Only T w w') (hT:∀b∈T,b∈A) (hY:∀b∈Y,b∉T) (hX:∀j,j<i→∀b∈Xs j,b∉T) (he:Ext A A' w) (hs:∀b∈A,b∈A') (ha:∀b∈A',b<w'.heap.size):BegC w' A' Y c n i rs ds ls Xs vr vd gu :=
 ⟨ho.keeps h.cell (hY _ h.cY),rows_only0 h.rr ho (fun b hb=>hY _ (h.rY b hb)),rows_only0 h.dr ho (fun b hb=>hY _ (h.dY b hb)),ho.keeps h.up (hY _ h.uY),fun j hj=>(h.node j hj).keep ho hT (hX j hj) he hs ha,
  h.cY,h.rY,h.dY,h.uY,h.yx,h.xx,fun b hb=>hs b (h.yA b hb),ha⟩
theorem BegC.done (h:BegC w A Y c n n rs ds ls Xs vr vd gu) (hn:n≤5):SyC w A Y c n (Mn.begun n) rs ds ls Xs vr vd gu (.slice none 0 0) (.slice none 0 0) (.slice none 0 0):=by
 refine ⟨h.cell,h.rr,h.dr,?_,fun j hj=>by rw [begun_at n j hj];exact h.node j hj,.inl ⟨rfl,rfl⟩,⟨[],World.ownsRow_nil _ _ _ _⟩,.inl ⟨rfl,rfl⟩,by simp [Mn.begun],hn,h.cY,h.rY,h.dY,h.uY,(fun b hb=>by cases hb),h.yx,h.xx,h.yA,h.alt⟩
 have e:(Mn.begun n).nodes.map Nod.up=List.replicate n true++List.replicate (n - n) false:=by
  unfold Mn.begun
  simp only [List.map_map,Nat.sub_self,List.replicate_zero,List.append_nil]
  apply List.ext_getElem<;>simp [nodN]
 rw [e]
 exact h.up
theorem ptrs_succ (f:Nat→Nat) (i x:Nat):ptrs (setF f i x) (i+1)=ptrs f i++[ptrV x]:=by
 unfold ptrs
 rw [List.range_succ,List.map_append]
 congr 1
 ·apply List.map_congr_left
  intro j hj
  rw [setF_ne _ _ (by have:=List.mem_range.1 hj;omega)]
 ·simp [setF_eq]
theorem ups_succ (n i:Nat) (h:i<n):(List.replicate i true++List.replicate (n - i) false).set i true=List.replicate (i+1) true++List.replicate (n - (i+1)) false:=by
 rw [List.set_append_right _ _ (by simp),List.length_replicate,Nat.sub_self,show n - i=(n - (i+1))+1 by omega,List.replicate_succ,List.set_cons_zero,List.replicate_succ',List.append_assoc]
 rfl
/-- what region 9 makes -/
structure Beg9 (W wx:World) (c n i:Nat) (rs ds:Nat→Nat) (vr vd:Value) (gu r d:Nat):Prop where
 ex:∃vr' vd',wx.heap[c]? = some (.cells #[vr',vd',.slice (some ⟨gu,0,none⟩) n n,.slice none 0 0,.slice none 0 0,.slice none 0 0,.bool false] 38 (0,0))∧wx.ownsRow 0 39 1 vr' (i+1) (ptrs rs i++[ptrV r])∧wx.ownsRow 0 54 1 vd' (i+1) (ptrs ds i++[ptrV d]) ∧
  Only (c::(vr.ownBlock.toList++vd.ownBlock.toList)) W wx∧(∀b,vr'.ownBlock=some b→vr.ownBlock=some b∨W.heap.size≤b)∧∀b,vd'.ownBlock=some b→vd.ownBlock=some b∨W.heap.size≤b
structure B9 (W V:World) (T:List Nat) (C n gu:Nat) (vr vd cr cd xr xd:Value) (nr nd:Nat) (lr ld:List Value):Prop where
 cell:V.heap[C]? = some (.cells #[cr,cd,.slice (some ⟨gu,0,none⟩) n n,.slice none 0 0,.slice none 0 0,.slice none 0 0,.bool false] 38 (0,0))
 rr:V.ownsRow 0 39 1 xr nr lr
 dr:V.ownsRow 0 54 1 xd nd ld
 only:Only T W V
 fr:∀b,xr.ownBlock=some b→vr.ownBlock=some b∨W.heap.size≤b
 fd:∀b,xd.ownBlock=some b→vd.ownBlock=some b∨W.heap.size≤b
 tr:∀b,vr.ownBlock=some b→b∈T
 td:∀b,vd.ownBlock=some b→b∈T
 tc:C∈T
section
variable {W V V':World} {T:List Nat} {C n gu:Nat} {vr vd cr cd xr xd:Value} {nr nd:Nat} {lr ld:List Value}
theorem B9.alloc (h:B9 W V T C n gu vr vd cr cd xr xd nr nd lr ld) (o:Obj):B9 W (V.alloc o) T C n gu vr vd cr cd xr xd nr nd lr ld :=
 have hb:Below V.heap.size V (V.alloc o):=(Below.refl _ _).alloc (Nat.le_refl _) o
 ⟨heap_old h.cell o,rows_below h.rr hb,rows_below h.dr hb,h.only.trans (Only.ofBelow hb T),h.fr,h.fd,h.tr,h.td,h.tc⟩
theorem B9.onlyT (h:B9 W V T C n gu vr vd cr cd xr xd nr nd lr ld) {U:List Nat} (ho:Only U V V') (hU:∀b∈U,b∈T∨W.heap.size≤b):Only T W V' :=
 ⟨ho.os.trans h.only.os,ho.tape.trans h.only.tape,ho.output.trans h.only.output,Nat.le_trans h.only.size ho.size,fun j hj hn=>(ho.block j (Nat.lt_of_lt_of_le hj h.only.size) (fun hm=>by
  rcases hU j hm with h1 | h1
  ·exact hn h1
  ·omega)).trans (h.only.block j hj hn)⟩
theorem B9.appR (h:B9 W V T C n gu vr vd cr cd xr xd nr nd lr ld) {v':Value} {m:Nat} {l':List Value} (hr:V'.ownsRow 0 39 1 v' m l') (ho:Only xr.ownBlock.toList V V') (hf:∀b,v'.ownBlock=some b→xr.ownBlock=some b∨V.heap.size≤b):B9 W V' T C n gu vr vd cr cd v' xd m nd l' ld:=by
 refine ⟨ho.keeps h.cell (fun hm=>?_),hr,rows_types h.dr ho (fun j hj cur hc=>?_),h.onlyT ho (fun b hb=>(h.fr b (by simpa using hb)).imp (h.tr b) id),fun b hb=>?_,h.fd,h.tr,h.td,h.tc⟩
 ·have:=rows_at h.rr (show xr.ownBlock=some C by simpa using hm)
  rw [h.cell] at this;simp at this
 ·have:=rows_at h.rr (show xr.ownBlock=some j by simpa using hj)
  rw [hc] at this;simp at this
 ·rcases hf b hb with h1 | h1
  ·exact h.fr b h1
  ·exact .inr (Nat.le_trans h.only.size h1)
theorem B9.appD (h:B9 W V T C n gu vr vd cr cd xr xd nr nd lr ld) {v':Value} {m:Nat} {l':List Value} (hr:V'.ownsRow 0 54 1 v' m l') (ho:Only xd.ownBlock.toList V V') (hf:∀b,v'.ownBlock=some b→xd.ownBlock=some b∨V.heap.size≤b):B9 W V' T C n gu vr vd cr cd xr v' nr m lr l':=by
 refine ⟨ho.keeps h.cell (fun hm=>?_),rows_types h.rr ho (fun j hj cur hc=>?_),hr,h.onlyT ho (fun b hb=>(h.fd b (by simpa using hb)).imp (h.td b) id),h.fr,fun b hb=>?_,h.tr,h.td,h.tc⟩
 ·have:=rows_at h.dr (show xd.ownBlock=some C by simpa using hm)
  rw [h.cell] at this;simp at this
 ·have:=rows_at h.dr (show xd.ownBlock=some j by simpa using hj)
  rw [hc] at this;simp at this
 ·rcases hf b hb with h1 | h1
  ·exact h.fd b h1
  ·exact .inr (Nat.le_trans h.only.size h1)
theorem B9.oldR (h:B9 W V T C n gu vr vd cr cd xr xd nr nd lr ld) {H:Nat} {cs:Array Value} {e:TypeId} (hH:V.heap[H]? = some (.cells cs e (0,0))) (he:e≠39) (ho:Only xr.ownBlock.toList V V'):V'.heap[H]? = some (.cells cs e (0,0)) :=
 ho.keeps hH (fun hm=>by
  have:=rows_at h.rr (show xr.ownBlock=some H by simpa using hm)
  rw [hH] at this;simp at this;exact he this)
theorem B9.set (h:B9 W V T C n gu vr vd cr cd xr xd nr nd lr ld) (i:Nat) (x:Value) (c1 c2:Value) (hc:(#[cr,cd,.slice (some ⟨gu,0,none⟩) n n,.slice none 0 0,.slice none 0 0,.slice none 0 0,.bool false]:Array Value).setIfInBounds i x=#[c1,c2,.slice (some ⟨gu,0,none⟩) n n,.slice none 0 0,.slice none 0 0,.slice none 0 0,.bool false]) :
  B9 W (V.setCell ⟨C,i,none⟩ x) T C n gu vr vd c1 c2 xr xd nr nd lr ld:=by
 have ho:Only [C] V (V.setCell ⟨C,i,none⟩ x):=(Only.refl _ _).setCell (by simp) _
 have hk:∀{v:Value} {e:TypeId} {k:Nat} {xs:List Value},V.ownsRow 0 e 1 v k xs→e≠38→(V.setCell ⟨C,i,none⟩ x).ownsRow 0 e 1 v k xs:=fun {v e k xs} hr he=>rows_types hr ho (fun j hj cur hc=>by
  rw [List.mem_singleton.1 hj,h.cell] at hc
  simp at hc
  exact he hc.2.symm)
 exact ⟨by rw [heap_set h.cell,hc],hk h.rr (by decide),hk h.dr (by decide),h.onlyT ho (fun b hb=>by rw [List.mem_singleton.1 hb];exact .inl h.tc),h.fr,h.fd,h.tr,h.td,h.tc⟩
end
theorem BegC.step {wx:World} {r d l:Nat} {X:List Nat} (h:BegC w A Y c n i rs ds ls Xs vr vd gu) (hi:i<n) (hn:Nd w A X r d l (rpNew i n 1 []) dk0) (hdy:Dis Y X) (hdx:∀j,j<i→Dis (Xs j) X) (h9:Beg9 w wx c n i rs ds vr vd gu r d) :
  ∃A' Y' vr' vd',BegC (wx.setCell ⟨gu,i,none⟩ (.bool true)) A' Y' c n (i+1) (setF rs i r) (setF ds i d) (setF ls i l) (setF Xs i X) vr' vd' gu∧Ext A A' w∧(∀b∈A,b∈A')∧(∃T,Only T w (wx.setCell ⟨gu,i,none⟩ (.bool true))∧∀b∈T,b∈Y)∧∀b∈Y',b∈Y∨w.heap.size≤b:=by
 obtain ⟨vr',vd',hc,hr,hd,ho,hnr,hnd⟩:=h9
 have hTY:∀b∈gu::(c::(vr.ownBlock.toList++vd.ownBlock.toList)),b∈Y:=fun b hb=>by
  rcases List.mem_cons.1 hb with rfl | hb
  ·exact h.uY
  ·rcases List.mem_cons.1 hb with rfl | hb
   ·exact h.cY
   ·rcases List.mem_append.1 hb with hb | hb
    ·exact h.rY b (by simpa using hb)
    ·exact h.dY b (by simpa using hb)
 have hTA:=fun b hb=>h.yA b (hTY b hb)
 have ho5:Only (gu::(c::(vr.ownBlock.toList++vd.ownBlock.toList))) w (wx.setCell ⟨gu,i,none⟩ (.bool true)):=(ho.mono (fun b hb=>List.mem_cons_of_mem _ hb)).setCell (by simp) _
 have hon:Only [gu] wx (wx.setCell ⟨gu,i,none⟩ (.bool true)):=(Only.refl _ _).setCell (by simp) _
 have hguT:gu∉c::(vr.ownBlock.toList++vd.ownBlock.toList):=fun hm=>by
  rcases List.mem_cons.1 hm with e | hm
  ·exact heap_ne h.up h.cell (by decide) e
  ·rcases List.mem_append.1 hm with hm | hm
   ·have:=rows_at h.rr (show vr.ownBlock=some gu by simpa using hm)
    rw [h.up] at this;simp at this
   ·have:=rows_at h.dr (show vd.ownBlock=some gu by simpa using hm)
    rw [h.up] at this;simp at this
 have hup:=ho.keeps h.up hguT
 have hext:Ext A (A++(vr'.ownBlock.toList++vd'.ownBlock.toList)) w:=fun b hb=>by
  rcases List.mem_append.1 hb with hb | hb
  ·exact .inl hb
  ·rcases List.mem_append.1 hb with hb | hb
   ·rcases hnr b (by simpa using hb) with h1 | h1
    ·exact .inl (h.yA b (h.rY b h1))
    ·exact .inr h1
   ·rcases hnd b (by simpa using hb) with h1 | h1
    ·exact .inl (h.yA b (h.dY b h1))
    ·exact .inr h1
 have hsub:∀b∈A,b∈A++(vr'.ownBlock.toList++vd'.ownBlock.toList):=fun b hb=>List.mem_append_left _ hb
 have halt:∀b∈A++(vr'.ownBlock.toList++vd'.ownBlock.toList),b<(wx.setCell ⟨gu,i,none⟩ (.bool true)).heap.size:=fun b hb=>by
  rcases List.mem_append.1 hb with hb | hb
  ·exact Nat.lt_of_lt_of_le (h.alt b hb) ho5.size
  ·have:b<wx.heap.size:=by
    rcases List.mem_append.1 hb with hb | hb
    ·exact (World.ownsRow.lt hr b (by simpa using hb)).2
    ·exact (World.ownsRow.lt hd b (by simpa using hb)).2
   simpa using this
 have hyn:∀b∈Y++(vr'.ownBlock.toList++vd'.ownBlock.toList),b∈Y∨w.heap.size≤b:=fun b hb=>by
  rcases List.mem_append.1 hb with hb | hb
  ·exact .inl hb
  ·rcases List.mem_append.1 hb with hb | hb
   ·rcases hnr b (by simpa using hb) with h1 | h1
    ·exact .inl (h.rY b h1)
    ·exact .inr h1
   ·rcases hnd b (by simpa using hb) with h1 | h1
    ·exact .inl (h.dY b h1)
    ·exact .inr h1
 have hdis:∀P:List Nat,(∀b∈P,b<w.heap.size)→Dis Y P→Dis (Y++(vr'.ownBlock.toList++vd'.ownBlock.toList)) P:=fun P hP hd b hb hp=>by
  rcases hyn b hb with h1 | h1
  ·exact hd b h1 hp
  ·have:=hP b hp;omega
 have hXA:∀b∈X,b∈A:=hn.xA
 have hrow:∀{v:Value} {e:TypeId} {k:Nat} {xs:List Value},wx.ownsRow 0 e 1 v k xs→e≠4→(wx.setCell ⟨gu,i,none⟩ (.bool true)).ownsRow 0 e 1 v k xs:=fun {v e k xs} hr he=>by
  refine rows_only0 hr hon (fun b hb hm=>?_)
  rw [List.mem_singleton.1 hm] at hb
  have:=rows_at hr hb
  rw [hup] at this
  simp at this
  exact he this.symm
 refine ⟨_,Y++(vr'.ownBlock.toList++vd'.ownBlock.toList),vr',vd',⟨?_,?_,?_,?_,fun j hj=>?_,List.mem_append_left _ h.cY,fun b hb=>List.mem_append_right _ (List.mem_append_left _ (by simp [hb])),fun b hb=>List.mem_append_right _ (List.mem_append_right _ (by simp [hb])),List.mem_append_left _ h.uY,fun j hj=>?_,fun j1 j2 h1 h2 hne=>?_,fun b hb=>?_,halt⟩,hext,hsub,⟨_,ho5,hTY⟩,hyn⟩
 ·exact hon.keeps hc (by simpa using (heap_ne hc hup (by decide)))
 ·rw [ptrs_succ];exact hrow hr (by decide)
 ·rw [ptrs_succ];exact hrow hd (by decide)
 ·rw [heap_set hup,boolsA_set,ups_succ n i hi]
 ·by_cases e:j=i
  ·subst e
   rw [setF_eq,setF_eq,setF_eq,setF_eq]
   exact ⟨fun _=>hn.keepS ho5 hTA (fun b hb hm=>hdy b (hTY b hm) hb) hext hsub halt,(fun e=>by cases e),fun b hb=>hsub b (hXA b hb)⟩
  ·rw [setF_ne _ _ e,setF_ne _ _ e,setF_ne _ _ e,setF_ne _ _ e]
   exact (h.node j (by omega)).keep ho5 hTA (fun b hb hm=>h.yx j (by omega) b (hTY b hm) hb) hext hsub halt
 ·by_cases e:j=i
  ·subst e
   rw [setF_eq]
   exact hdis X (fun b hb=>h.alt b (hXA b hb)) hdy
  ·rw [setF_ne _ _ e]
   exact hdis (Xs j) (fun b hb=>h.alt b ((h.node j (by omega)).xA b hb)) (h.yx j (by omega))
 ·by_cases e1:j1=i
  ·subst e1
   rw [setF_eq,setF_ne _ _ (fun e=>hne e.symm)]
   exact (hdx j2 (by omega)).symm
  ·by_cases e2:j2=i
   ·subst e2
    rw [setF_eq,setF_ne _ _ e1]
    exact hdx j1 (by omega)
   ·rw [setF_ne _ _ e1,setF_ne _ _ e2]
    exact h.xx j1 j2 (by omega) (by omega) hne
 ·rcases List.mem_append.1 hb with hb | hb
  ·exact hsub b (h.yA b hb)
  ·exact List.mem_append_right _ hb
set_option maxHeartbeats 40000000 in
theorem begun_any (n:Nat) (hn:n≤5) (hA:∀b∈A,b<w.heap.size):Calls Try.prog 10 #[.int .i64 (n:Int)] w fun e w'=>∃c A' Z,e = .returned (.pointer (some ⟨c,0,none⟩))∧Sy w' A' Z c n (Mn.begun n)∧Mv A A' [] Z w w':=by
 have hmk:=make_bools n hn
 have HA:=Lib.hid hA
 clear hA
 go_enter Try.func10,Try.ntmps10
 go_upto_region 2 with (fail)
 have hb1:Below w.heap.size w (w.alloc (.cells (boolsA (List.replicate n false)) 4)):=(Below.refl _ _).alloc (Nat.le_refl _) _
 have hb2:=hb1.alloc hb1.size (.cells #[.slice none 0 0,.slice none 0 0,.slice (some ⟨w.heap.size,0,none⟩) n n,.slice none 0 0,.slice none 0 0,.slice none 0 0,.bool false] 38)
 have hup:=heap_old (heap_new w (.cells (boolsA (List.replicate n false)) 4)) (.cells #[.slice none 0 0,.slice none 0 0,.slice (some ⟨w.heap.size,0,none⟩) n n,.slice none 0 0,.slice none 0 0,.slice none 0 0,.bool false] 38)
 have hce:=heap_new (w.alloc (.cells (boolsA (List.replicate n false)) 4)) (.cells #[.slice none 0 0,.slice none 0 0,.slice (some ⟨w.heap.size,0,none⟩) n n,.slice none 0 0,.slice none 0 0,.slice none 0 0,.bool false] 38)
 rw [show (w.alloc (.cells (boolsA (List.replicate n false)) 4)).heap.size=w.heap.size+1 by simp] at hce
 have HB2:=Lib.hid hb2
 have HBEG:Hid (BegC ((w.alloc (.cells (boolsA (List.replicate n false)) 4)).alloc (.cells #[.slice none 0 0,.slice none 0 0,.slice (some ⟨w.heap.size,0,none⟩) n n,.slice none 0 0,.slice none 0 0,.slice none 0 0,.bool false] 38)) (A++[w.heap.size,w.heap.size+1]) [w.heap.size,w.heap.size+1] (w.heap.size+1) n 0 (fun _=>0) (fun _=>0) (fun _=>0) (fun _=>[]) (.slice none 0 0) (.slice none 0 0) w.heap.size):=Lib.hid
  ⟨hce,World.ownsRow_nil _ _ _ _,World.ownsRow_nil _ _ _ _,by simpa using hup,fun j hj=>by omega,by simp,(fun b hb=>by cases hb),(fun b hb=>by cases hb),by simp,fun j hj=>by omega,fun j1 j2 h1=>by omega,fun b hb=>List.mem_append_right _ hb,fun b hb=>by
   rcases List.mem_append.1 hb with h1 | h1
   ·have:=HA.out b h1;simp;omega
   ·simp at h1 ⊢;omega⟩
 clear hb1 hb2 hup hce
 generalize (w.alloc (.cells (boolsA (List.replicate n false)) 4)).alloc (.cells #[.slice none 0 0,.slice none 0 0,.slice (some ⟨w.heap.size,0,none⟩) n n,.slice none 0 0,.slice none 0 0,.slice none 0 0,.bool false] 38)=w1 at *
 go_wp2_with fail
 go_loopw [4] (fun v wr=>∃(i:Nat) (A1 Y:List Nat) (rs ds ls:Nat→Nat) (Xs:Nat→List Nat) (vr vd:Value),i≤n∧v = .int .i64 (i:Int)∧BegC wr A1 Y (w.heap.size+1) n i rs ds ls Xs vr vd w.heap.size∧Below w.heap.size w wr∧Ext A A1 w∧(∀b∈A,b∈A1)∧(∀b∈Y,w.heap.size≤b)∧∀j,j<i→∀b∈Xs j,w.heap.size≤b) (fun v _=>n - (intOf v).toNat)
 case atStart =>
  refine ⟨0,_,_,_,_,_,_,_,_,Nat.zero_le _,rfl,HBEG.out,HB2.out,fun b hb=>?_,fun b hb=>List.mem_append_left _ hb,fun b hb=>by simp at hb;omega,fun j hj=>by omega⟩
  rcases List.mem_append.1 hb with h1 | h1
  ·exact .inl h1
  ·right;simp at h1;omega
 case round =>
  obtain ⟨i,A1,Y,rs,ds,ls,Xs,vr,vd,hin,rfl,hbeg,hbl,hext,hsub,hyge,hxge⟩:=hrel
  have HBG:=Lib.hid hbeg
  have HBL:=Lib.hid hbl
  have HEX:=Lib.hid (And.intro hext (And.intro hsub (And.intro hyge hxge)))
  clear hbeg hbl hext hsub hyge hxge
  have q6:IntKind.i64.wrap ((i:Int)+1)=(i:Int)+1:=IntWalk.i64_in _ (by omega)
  by_cases hlt:i<n
  ·have hlt2:(i:Int)<(n:Int):=by omega
   go_wp2_with fail
   refine (new_ok wr).mono ?_
   rintro e w2 ⟨d,D,rfl,hdk,hb2,hDg⟩
   have HDK:=Lib.hid hdk
   have HB22:=Lib.hid hb2
   have HDG:=Lib.hid hDg
   clear hdk hb2 hDg
   have hA2:∀b∈A1++D,b<w2.heap.size:=fun b hb=>by
    rcases List.mem_append.1 hb with h1 | h1
    · exact Nat.lt_of_lt_of_le (HBG.out.alt b h1) HB22.out.size
    · exact HDK.out.lt b h1
   have HOP:=Lib.hid (rpOpen_any HDK.out rfl i n hn hlt [] ⟨.inl ⟨rfl,rfl⟩⟩ (fun x hx=>by cases hx) (by decide) trivial (by simp) hA2 (fun b hb=>List.mem_append_right _ hb))
   have HA2:=Lib.hid hA2
   clear hA2
   go_wp2_with fail
   refine HOP.out.mono ?_
   rintro e w3 ⟨r,l,A3,X3,rfl,hnd,hmv⟩
   have HND:Hid (Nd w3 A3 X3 r d l (rpNew i n 1 []) dk0):=Lib.hid hnd
   have HMV:=Lib.hid hmv
   clear hnd hmv HOP
   have hYD:∀b∈Y,b∉D:=fun b hb hd=>by have:=HBG.out.alt b (HBG.out.yA b hb);have:=HDG.out b hd;omega
   have hXD:∀j,j<i→∀b∈Xs j,b∉D:=fun j hj b hb hd=>by have:=HBG.out.alt b ((HBG.out.node j hj).xA b hb);have:=HDG.out b hd;omega
   have hB2:=HBG.out.keep (A':=A1++D) (T:=[]) (Only.ofBelow HB22.out []) (fun b hb=>by cases hb) (fun b _=>by simp) (fun j _ b _=>by simp) (fun b hb=>by
    rcases List.mem_append.1 hb with h1 | h1
    · exact .inl h1
    · exact .inr (HDG.out b h1)) (fun b hb=>List.mem_append_left _ hb) HA2.out
   have hB3:=hB2.keep (A':=A3) (T:=D) HMV.out.mv.only (fun b hb=>List.mem_append_right _ hb) hYD hXD HMV.out.ext HMV.out.sub HND.out.alt
   have hX3:∀P:List Nat,(∀b∈P,b<wr.heap.size)→Dis P X3:=fun P hP b hb hx=>by
    have h0:=hP b hb
    rcases HMV.out.mv.gr b hx with h1 | h1
    · have:=HDG.out b h1;omega
    · have:=HB22.out.size;omega
   have HDY:Hid (Dis Y X3):=Lib.hid (hX3 Y (fun b hb=>HBG.out.alt b (HBG.out.yA b hb)))
   have HDX:Hid (∀j,j<i→Dis (Xs j) X3):=Lib.hid (fun j hj=>hX3 (Xs j) (fun b hb=>HBG.out.alt b ((HBG.out.node j hj).xA b hb)))
   have HB3:=Lib.hid hB3
   obtain ⟨ar,kr,e9,_⟩:=rows_form hB3.rr
   subst e9
   obtain ⟨ad,kd,e9,_⟩:=rows_form hB3.dr
   subst e9
   have HGE:Hid (w.heap.size≤w3.heap.size∧Below w.heap.size w w2):=Lib.hid ⟨Nat.le_trans (HBL.out.trans (HB22.out.mono HBL.out.size)).size HMV.out.mv.only.size,HBL.out.trans (HB22.out.mono HBL.out.size)⟩
   have HB9:Hid (B9 w3 w3.drew ((w.heap.size+1)::((Value.slice ar i kr).ownBlock.toList++(Value.slice ad i kd).ownBlock.toList)) (w.heap.size+1) n w.heap.size (.slice ar i kr) (.slice ad i kd) (.slice ar i kr) (.slice ad i kd) (.slice ar i kr) (.slice ad i kd) i i (ptrs rs i) (ptrs ds i)):=Lib.hid
    ⟨hB3.cell,rows_below hB3.rr (below_drewN w3 1),rows_below hB3.dr (below_drewN w3 1),Only.ofBelow (below_drewN w3 1) _,fun b hb=>.inl hb,fun b hb=>.inl hb,fun b hb=>List.mem_cons_of_mem _ (List.mem_append_left _ (by simp [hb])),fun b hb=>List.mem_cons_of_mem _ (List.mem_append_right _ (by simp [hb])),List.mem_cons_self⟩
   clear hYD hXD hB2 hB3 hX3
   obtain ⟨C,hC⟩:∃C,C=w.heap.size+1:=⟨_,rfl⟩
   have HCE:=Lib.hid hC
   have hi1000:i≤1000:=by omega
   have hcz3:w3.heap[C]? = some (.cells #[.slice ar i kr,.slice ad i kd,.slice (some ⟨w.heap.size,0,none⟩) n n,.slice none 0 0,.slice none 0 0,.slice none 0 0,.bool false] 38 (0,0)):=by rw [hC];exact HB3.out.cell
   rw [←hC] at HB3 HB9 HBG ⊢
   clear hC
   go_upto_region 9 with (fail)
   obtain ⟨T9,hT9⟩:∃T9,T9=C::((Value.slice ar i kr).ownBlock.toList++(Value.slice ad i kd).ownBlock.toList):=⟨_,rfl⟩
   rw [←hT9] at HB9
   have HT9:=Lib.hid hT9
   clear hT9
   go_cut [] (fun wx=>Beg9 w3 wx C n i rs ds (.slice ar i kr) (.slice ad i kd) w.heap.size r d)
   case first =>
    have HFIN:Hid (∀V v1 v2,B9 w3 V T9 C n w.heap.size (.slice ar i kr) (.slice ad i kd) v1 v2 v1 v2 (i+1) (i+1) (ptrs rs i++[ptrV r]) (ptrs ds i++[ptrV d])→Beg9 w3 V C n i rs ds (.slice ar i kr) (.slice ad i kd) w.heap.size r d):=Lib.hid (fun V v1 v2 h=>⟨v1,v2,h.cell,h.rr,h.dr,by rw [←HT9.out];exact h.only,h.fr,h.fd⟩)
    clear HBG HB22 HDK HDG HND HMV HDY HDX HB3 hcz3
    generalize ptrs rs i=lr at *
    generalize ptrs ds i=ld at *
    generalize w.heap.size=gu at *
    unfold ptrV at HFIN
    as_aux_lemma =>
    refine wp_region_held_drew (S:=fun _=>True) (by kernel_rfl) trivial (fun hHeld=>?_)
    refine qtl 0 (z0mx0 _) rfl ?_
    refine qtl 1 (z0mx1 _) rfl ?_
    refine qtl 2 (z0mx2 _) rfl ?_
    refine qtl 3 (z0mx3 _) rfl ?_
    refine qtl 4 (z0mx4 _) rfl ?_
    refine qtl 6 (z0mx5 _) rfl ?_
    refine qtl 9 (z0mx6 _) rfl ?_
    refine qtl 10 (z0mx7 _) rfl ?_
    refine qtl 11 (z0mx8 _) rfl ?_
    refine qtl 13 (z0mx9 _) rfl ?_
    have HB0:=HB9
    clear HB9
    generalize w3.drew=V0 at *
    refine wpAnyH_ready (rs:=[5,7,12,14]) (by kernel_rfl) (by simp) ?_
    refine AllReadyH.cons (o:=(z0mx10 _)) rfl (fun K hK=>?_) (AllReadyH.cons (o:=(z0mx11 _)) rfl (fun K hK=>?_) (AllReadyH.cons (o:=(z0mx12 _)) rfl (fun K hK=>?_) (AllReadyH.cons (o:=(z0mx13 _)) rfl (fun K hK=>?_) AllReadyH.nil)))
    ·unfold z0mx10
     have hy0:=(cell_heap HB0.out.cell 0).trans (show _=some (.slice ar i kr) from rfl)
     go_simp
     clear hy0
     refine hK.out _ _ trivial (fun hHeld=>?_)
     clear hK K
     refine qsp ?_
     refine wpAnyH_ready (rs:=[7,12,14]) (by kernel_rfl) (by simp) ?_
     refine AllReadyH.cons (o:=(z0mx11 _)) rfl (fun K hK=>?_) (AllReadyH.cons (o:=(z0mx12 _)) rfl (fun K hK=>?_) (AllReadyH.cons (o:=(z0mx13 _)) rfl (fun K hK=>?_) AllReadyH.nil))
     ·unfold z0mx11
      go_simp
      refine hK.out _ _ trivial (fun hHeld=>?_)
      clear hK K
      refine qsp ?_
      have HB1:=Lib.hid (HB0.out.alloc (.cells #[.pointer (some ⟨r,0,none⟩)] 39))
      have HHr:=heap_new V0 (.cells #[.pointer (some ⟨r,0,none⟩)] 39)
      generalize V0.heap.size=br at *
      generalize V0.alloc (.cells #[.pointer (some ⟨r,0,none⟩)] 39)=V1 at *
      exact z0mxm4
     ·unfold z0mx12
      have hy1:=(cell_heap HB0.out.cell 1).trans (show _=some (.slice ad i kd) from rfl)
      go_simp
      clear hy1
      exact z0mxm7
     ·unfold z0mx13
      go_simp
      refine hK.out _ _ trivial (fun hHeld=>?_)
      clear hK K
      refine qsp ?_
      have HB1:=Lib.hid (HB0.out.alloc (.cells #[.pointer (some ⟨d,0,none⟩)] 54))
      have HHd:=heap_new V0 (.cells #[.pointer (some ⟨d,0,none⟩)] 54)
      generalize V0.heap.size=bd at *
      generalize V0.alloc (.cells #[.pointer (some ⟨d,0,none⟩)] 54)=V1 at *
      exact z0mxm8
    ·unfold z0mx11
     go_simp
     refine hK.out _ _ trivial (fun hHeld=>?_)
     clear hK K
     refine qsp ?_
     have HB1:=Lib.hid (HB0.out.alloc (.cells #[.pointer (some ⟨r,0,none⟩)] 39))
     have HHr:=heap_new V0 (.cells #[.pointer (some ⟨r,0,none⟩)] 39)
     generalize V0.heap.size=br at *
     generalize V0.alloc (.cells #[.pointer (some ⟨r,0,none⟩)] 39)=V1 at *
     refine wpAnyH_ready (rs:=[5,12,14]) (by kernel_rfl) (by simp) ?_
     refine AllReadyH.cons (o:=(z0mx10 _)) rfl (fun K hK=>?_) (AllReadyH.cons (o:=(z0mx12 _)) rfl (fun K hK=>?_) (AllReadyH.cons (o:=(z0mx13 _)) rfl (fun K hK=>?_) AllReadyH.nil))
     ·unfold z0mx10
      have hy0:=(cell_heap HB1.out.cell 0).trans (show _=some (.slice ar i kr) from rfl)
      go_simp
      clear hy0
      refine hK.out _ _ trivial (fun hHeld=>?_)
      clear hK K
      refine qsp ?_
      exact z0mxm4
     ·unfold z0mx12
      have hy1:=(cell_heap HB1.out.cell 1).trans (show _=some (.slice ad i kd) from rfl)
      go_simp
      clear hy1
      refine hK.out _ _ trivial (fun hHeld=>?_)
      clear hK K
      refine qsp ?_
      exact z0mxm9
     ·unfold z0mx13
      go_simp
      refine hK.out _ _ trivial (fun hHeld=>?_)
      clear hK K
      refine qsp ?_
      have HB2:=Lib.hid (HB1.out.alloc (.cells #[.pointer (some ⟨d,0,none⟩)] 54))
      have HHd:=heap_new V1 (.cells #[.pointer (some ⟨d,0,none⟩)] 54)
      replace HHr:=heap_old HHr (.cells #[.pointer (some ⟨d,0,none⟩)] 54)
      generalize V1.heap.size=bd at *
      generalize V1.alloc (.cells #[.pointer (some ⟨d,0,none⟩)] 54)=V2 at *
      exact z0mxm11
    ·unfold z0mx12
     have hy1:=(cell_heap HB0.out.cell 1).trans (show _=some (.slice ad i kd) from rfl)
     go_simp
     clear hy1
     refine hK.out _ _ trivial (fun hHeld=>?_)
     clear hK K
     refine qsp ?_
     refine wpAnyH_ready (rs:=[5,7,14]) (by kernel_rfl) (by simp) ?_
     refine AllReadyH.cons (o:=(z0mx10 _)) rfl (fun K hK=>?_) (AllReadyH.cons (o:=(z0mx11 _)) rfl (fun K hK=>?_) (AllReadyH.cons (o:=(z0mx13 _)) rfl (fun K hK=>?_) AllReadyH.nil))
     ·unfold z0mx10
      have hy0:=(cell_heap HB0.out.cell 0).trans (show _=some (.slice ar i kr) from rfl)
      go_simp
      clear hy0
      exact z0mxm7
     ·unfold z0mx11
      go_simp
      refine hK.out _ _ trivial (fun hHeld=>?_)
      clear hK K
      refine qsp ?_
      have HB1:=Lib.hid (HB0.out.alloc (.cells #[.pointer (some ⟨r,0,none⟩)] 39))
      have HHr:=heap_new V0 (.cells #[.pointer (some ⟨r,0,none⟩)] 39)
      generalize V0.heap.size=br at *
      generalize V0.alloc (.cells #[.pointer (some ⟨r,0,none⟩)] 39)=V1 at *
      exact z0mxm9
     ·unfold z0mx13
      go_simp
      refine hK.out _ _ trivial (fun hHeld=>?_)
      clear hK K
      refine qsp ?_
      have HB1:=Lib.hid (HB0.out.alloc (.cells #[.pointer (some ⟨d,0,none⟩)] 54))
      have HHd:=heap_new V0 (.cells #[.pointer (some ⟨d,0,none⟩)] 54)
      generalize V0.heap.size=bd at *
      generalize V0.alloc (.cells #[.pointer (some ⟨d,0,none⟩)] 54)=V1 at *
      exact z0mxm10
    ·unfold z0mx13
     go_simp
     refine hK.out _ _ trivial (fun hHeld=>?_)
     clear hK K
     refine qsp ?_
     have HB1:=Lib.hid (HB0.out.alloc (.cells #[.pointer (some ⟨d,0,none⟩)] 54))
     have HHd:=heap_new V0 (.cells #[.pointer (some ⟨d,0,none⟩)] 54)
     generalize V0.heap.size=bd at *
     generalize V0.alloc (.cells #[.pointer (some ⟨d,0,none⟩)] 54)=V1 at *
     refine wpAnyH_ready (rs:=[5,7,12]) (by kernel_rfl) (by simp) ?_
     refine AllReadyH.cons (o:=(z0mx10 _)) rfl (fun K hK=>?_) (AllReadyH.cons (o:=(z0mx11 _)) rfl (fun K hK=>?_) (AllReadyH.cons (o:=(z0mx12 _)) rfl (fun K hK=>?_) AllReadyH.nil))
     ·unfold z0mx10
      have hy0:=(cell_heap HB1.out.cell 0).trans (show _=some (.slice ar i kr) from rfl)
      go_simp
      clear hy0
      refine hK.out _ _ trivial (fun hHeld=>?_)
      clear hK K
      refine qsp ?_
      exact z0mxm8
     ·unfold z0mx11
      go_simp
      refine hK.out _ _ trivial (fun hHeld=>?_)
      clear hK K
      refine qsp ?_
      have HB2:=Lib.hid (HB1.out.alloc (.cells #[.pointer (some ⟨r,0,none⟩)] 39))
      have HHr:=heap_new V1 (.cells #[.pointer (some ⟨r,0,none⟩)] 39)
      replace HHd:=heap_old HHd (.cells #[.pointer (some ⟨r,0,none⟩)] 39)
      generalize V1.heap.size=br at *
      generalize V1.alloc (.cells #[.pointer (some ⟨r,0,none⟩)] 39)=V2 at *
      exact z0mxm11
     ·unfold z0mx12
      have hy1:=(cell_heap HB1.out.cell 1).trans (show _=some (.slice ad i kd) from rfl)
      go_simp
      clear hy1
      refine hK.out _ _ trivial (fun hHeld=>?_)
      clear hK K
      refine qsp ?_
      exact z0mxm10
   case rest =>
   rename World=>w5
   have hC:=HCE.out
   clear HCE
   subst hC
   have H9:=Lib.hid hcut
   clear hcut
   obtain ⟨A6,Y6,vr6,vd6,hb6,he6,hs6,⟨T6,ho6,hT6⟩,hy6⟩:=HB3.out.step hlt HND.out HDY.out HDX.out H9.out
   have HB6:=Lib.hid hb6
   have HO6:=Lib.hid (And.intro he6 (And.intro hs6 (And.intro ho6 (And.intro hT6 hy6))))
   obtain ⟨vr5,vd5,hc5,_,_,ho5,_⟩:=H9.out
   have hup5:w5.heap[w.heap.size]? = some (.cells (boolsA (List.replicate i true++List.replicate (n - i) false)) 4 (0,0)):=by
    refine ho5.keeps HB3.out.up (fun hm=>?_)
    rcases List.mem_cons.1 hm with e | hm
    · exact heap_ne HB3.out.up HB3.out.cell (by decide) e
    · rcases List.mem_append.1 hm with hm | hm
      ·have:=rows_at HB3.out.rr (show (Value.slice ar i kr).ownBlock=some w.heap.size by simpa using hm)
       rw [HB3.out.up] at this;simp at this
      ·have:=rows_at HB3.out.dr (show (Value.slice ad i kd).ownBlock=some w.heap.size by simpa using hm)
       rw [HB3.out.up] at this;simp at this
   have hk2:w5.cell? ⟨w.heap.size+1,2,none⟩=some (.slice (some ⟨w.heap.size,0,none⟩) n n):=by rw [cell_heap hc5];rfl
   have hzu:=free_heap hup5 i
   obtain ⟨zu,hku⟩:∃z,w5.cell? ⟨w.heap.size,i,none⟩=some z:=by
    rw [cell_heap hup5]
    exact ⟨_,boolsA_at _ _ (by simp;omega)⟩
   clear hb6 he6 hs6 ho6 hT6 hy6 hc5 ho5 hup5 hcz3
   go_wp2_with fail
   go_roundw
   case rel =>
    obtain ⟨he6,hs6,ho6,hT6,hy6⟩:=HO6.out
    obtain ⟨hext,hsub,hyge,hxge⟩:=HEX.out
    have hge3:=HGE.out.1
    refine ⟨i+1,A6,Y6,setF rs i r,setF ds i d,setF ls i l,setF Xs i X3,vr6,vd6,by omega,by simp,?_,?_,fun b hb=>?_,fun b hb=>hs6 b (HMV.out.sub b (List.mem_append_left _ (hsub b hb))),fun b hb=>?_,fun j hj b hb=>?_⟩
    · exact HB6.out
    · have h1:Only [] w w3:=⟨HMV.out.mv.only.os.trans HGE.out.2.os,HMV.out.mv.only.tape.trans HGE.out.2.tape,HMV.out.mv.only.output.trans HGE.out.2.output,hge3,fun k hk _=>(HMV.out.mv.only.block k (Nat.lt_of_lt_of_le hk HGE.out.2.size) (fun hm=>by have:=HDG.out k hm;have:=HBL.out.size;omega)).trans (HGE.out.2.block k hk)⟩
      refine ⟨ho6.os.trans h1.os,ho6.tape.trans h1.tape,ho6.output.trans h1.output,Nat.le_trans hge3 ho6.size,fun k hk=>(ho6.block k (Nat.lt_of_lt_of_le hk hge3) (fun hm=>by have:=hyge k (hT6 k hm);omega)).trans (h1.block k hk (by simp))⟩
    · rcases he6 b hb with h1 | h1
      ·rcases HMV.out.ext b h1 with h2 | h2
       ·rcases List.mem_append.1 h2 with h3 | h3
        ·exact hext b h3
        ·exact .inr (by have:=HDG.out b h3;have:=HBL.out.size;omega)
       ·exact .inr (by have:=HGE.out.2.size;omega)
      ·exact .inr (by omega)
    · rcases hy6 b hb with h1 | h1
      ·exact hyge b h1
      ·omega
    · by_cases e:j=i
      ·subst e
       rw [setF_eq] at hb
       rcases HMV.out.mv.gr b hb with h1 | h1
       ·have:=HDG.out b h1;have:=HBL.out.size;omega
       ·have:=HGE.out.2.size;omega
      ·rw [setF_ne _ _ e] at hb
       exact hxge j (by omega) b hb
   case measure=>simp [intOf];omega
  ·obtain rfl:i=n:=by omega
   have hlt2:¬(i:Int)<(i:Int):=by omega
   have HF:Hid (∃c A' Z,(w.heap.size+1=c)∧Sy wr A' Z c i (Mn.begun i)∧Mv A A' [] Z w wr):=Lib.hid (by
    obtain ⟨hext,hsub,hyge,hxge⟩:=HEX.out
    have hd:=HBG.out.done hn
    refine ⟨_,A1,Y++(List.range i).flatMap Xs,rfl,⟨_,_,_,_,_,_,_,_,_,_,_,hd,fun b=>?_⟩,⟨⟨Only.ofBelow HBL.out [],fun b hb=>?_,fun b hb=>by cases hb⟩,hext,hsub⟩⟩
    · rw [List.mem_append,List.mem_flatMap]
      constructor
      ·rintro (h1 | ⟨j,hj,h1⟩)
       ·exact .inl h1
       ·exact .inr ⟨j,List.mem_range.1 hj,h1⟩
      ·rintro (h1 | ⟨j,hj,h1⟩)
       ·exact .inl h1
       ·exact .inr ⟨j,List.mem_range.2 hj,h1⟩
    · rcases List.mem_append.1 hb with h1 | h1
      ·exact .inr (hyge b h1)
      ·obtain ⟨j,hj,h2⟩:=List.mem_flatMap.1 h1
       exact .inr (hxge j (List.mem_range.1 hj) b h2))
   go_wp2_with fail
   go_ret
   obtain ⟨c,A',Z,e,h1,h2⟩:=HF.out
   exact ⟨c,by rw [←e];rfl,A',Z,h1,h2⟩
end
end Go.Proofs.Ytnicaicjgaoolaa
