/-
  What the proof of the law leans on: contracts of the program's functions, one behind another. No condition.
-/
import Derived.Test.YtnicaicjgaoolaaT12
import Derived.Test.YtnicaicjgaoolaaT3
set_option linter.unusedVariables false
set_option linter.unusedSimpArgs false
namespace Go.Proofs.Ytnicaicjgaoolaa
open Go.RowKit Go.ChangeMaps Go.WideMaps Go.Maps
set_option maxRecDepth 20000
section
variable (p:String)
def z06x0:Oper:=⟨some 31,.move (.tmp 0),39,p,#[],none⟩
def z06x1:Oper:=⟨some 32,.move (.tmp 1),3,p,#[],none⟩
def z06x2:Oper:=⟨some 33,.move (.tmp 0),39,p,#[],none⟩
def z06x3:Oper:=⟨some 34,.nilCheck (.tmp 33),0,p,#[⟨2,.data⟩],none⟩
def z06x4:Oper:=⟨some 35,.fieldAddr 66 (.tmp 34) 6,0,p,#[⟨3,.data⟩],none⟩
def z06x5:Oper:=⟨some 36,.load 2 (.tmp 35),2,p,#[⟨4,.data⟩],none⟩
def z06x6:Oper:=⟨some 37,.move (.tmp 5),3,p,#[],none⟩
def z06x7:Oper:=⟨some 38,.move (.tmp 0),39,p,#[],none⟩
def z06x8:Oper:=⟨some 39,.move (.tmp 5),3,p,#[],none⟩
def z06x9:Oper:=⟨some 41,.move (.tmp 0),39,p,#[],none⟩
def z06x10:Oper:=⟨some 42,.nilCheck (.tmp 41),0,p,#[⟨10,.data⟩],none⟩
def z06x11:Oper:=⟨some 43,.fieldAddr 66 (.tmp 42) 9,0,p,#[⟨11,.data⟩],none⟩
def z06x12:Oper:=⟨some 44,.load 3 (.tmp 43),3,p,#[⟨12,.data⟩],none⟩
def z06x13:Oper:=⟨some 40,.call { callee:=Callee.value (Operand.func 45),args:=#[.tmp 38,.tmp 39],argTypes:=#[39,3]},2,p,#[⟨7,.data⟩,⟨8,.data⟩],none⟩
def z06x14:Oper:=⟨some 7,.alloc 51,0,p,#[],none⟩
def z06x15:Oper:=⟨some 45,.buildSlice 49 4 #[(0,.tmp 36),(1,.tmp 37),(2,.tmp 40),(3,.tmp 44)],49,p,#[⟨5,.data⟩,⟨6,.data⟩,⟨9,.data⟩,⟨13,.data⟩],none⟩
def z06x16:Oper:=⟨some 46,.call { callee:=Callee.value (Operand.func 44),args:=#[.tmp 31,.tmp 32,Operand.const (Value.int IntKind.i64 3),.tmp 45],argTypes:=#[39,3,3,49]},51,p,#[⟨0,.data⟩,⟨1,.data⟩,⟨14,.data⟩,⟨9,.chain⟩],none⟩
def z06x17:Oper:=⟨none,.store 51 (.tmp 7) (.tmp 46),0,p,#[⟨16,.data⟩,⟨15,.data⟩,⟨15,.chain⟩,⟨0,.phase⟩,⟨1,.phase⟩,⟨2,.phase⟩,⟨3,.phase⟩,⟨4,.phase⟩,⟨5,.phase⟩,⟨6,.phase⟩,⟨7,.phase⟩,⟨8,.phase⟩,⟨9,.phase⟩,⟨10,.phase⟩,⟨11,.phase⟩,⟨12,.phase⟩,⟨13,.phase⟩,⟨14,.phase⟩,⟨15,.phase⟩,⟨16,.phase⟩],none⟩
def z06x18:Oper:=⟨some 60,.fieldAddr 51 (.tmp 7) 4,0,p,#[],none⟩
def z06x19:Oper:=⟨some 62,.fieldAddr 68 (.tmp 9) 1,0,p,#[],none⟩
def z06x20:Oper:=⟨some 63,.load 29 (.tmp 62),29,p,#[⟨2,.data⟩],none⟩
def z06x21:Oper:=⟨some 61,.load 36 (.tmp 60),36,p,#[⟨0,.data⟩],none⟩
def z06x22:Oper:=⟨some 64,.call { callee:=Callee.value (Operand.func 26),args:=#[.tmp 63],argTypes:=#[29]},29,p,#[⟨3,.data⟩],none⟩
def z06x23:Oper:=⟨some 65,.buildSlice 36 1 #[(0,.tmp 64)],36,p,#[⟨4,.data⟩],none⟩
def z06x24:Oper:=⟨some 66,.call { callee:=Callee.builtin Builtin.append,args:=#[.tmp 61,.tmp 65],argTypes:=#[36,36]},36,p,#[⟨1,.data⟩,⟨5,.data⟩,⟨4,.chain⟩],none⟩
def z06x25:Oper:=⟨some 67,.fieldAddr 51 (.tmp 7) 4,0,p,#[⟨0,.phase⟩,⟨1,.phase⟩,⟨2,.phase⟩,⟨3,.phase⟩,⟨4,.phase⟩,⟨5,.phase⟩,⟨6,.phase⟩],none⟩
def z06x26:Oper:=⟨none,.store 36 (.tmp 67) (.tmp 66),0,p,#[⟨7,.data⟩,⟨6,.data⟩,⟨6,.chain⟩,⟨0,.phase⟩,⟨1,.phase⟩,⟨2,.phase⟩,⟨3,.phase⟩,⟨4,.phase⟩,⟨5,.phase⟩,⟨6,.phase⟩],none⟩
end
attribute [go_sem,reducible] z06x0 z06x1 z06x2 z06x3 z06x4 z06x5 z06x6 z06x7 z06x8 z06x9 z06x10 z06x11 z06x12 z06x13 z06x14 z06x15 z06x16 z06x17 z06x18 z06x19 z06x20 z06x21 z06x22 z06x23 z06x24 z06x25 z06x26
theorem z06xm0 {p:Prop} (h:p:=by
 refine qr1 14 (z06x15 _) rfl fun K hK=>?_
 unfold z06x15
 go_simp
 have hb2:=HB1.out.alloc HB1.out.size (.cells #[.int .i64 st,.int .i64 (f:Int),.int .i64 lt,.int .i64 ag] 2)
 refine hK.out _ _ (HVV.out _ hb2) (fun hHeld=>?_)
 clear hK K
 refine qsp ?_
 have HB2:=Lib.hid hb2
 have HO2:Hid (OwnI (W1.alloc (.cells #[.int .i64 st,.int .i64 (f:Int),.int .i64 lt,.int .i64 ag] 2)) V.heap.size 2 (.slice (some ⟨W1.heap.size,0,none⟩) 4 4) [st,(f:Int),lt,ag]):=Lib.hid (OwnI.new W1 V.heap.size 2 _ _ rfl _ rfl HB1.out.size 4 rfl (by omega))
 have HM2:=Lib.hid (heap_old HM1.out (.cells #[.int .i64 st,.int .i64 (f:Int),.int .i64 lt,.int .i64 ag] 2))
 generalize W1.alloc (.cells #[.int .i64 st,.int .i64 (f:Int),.int .i64 lt,.int .i64 ag] 2)=W2 at *
 clear hb2
 refine qr1 15 (z06x16 _) rfl fun K hK=>?_
 unfold z06x16
 go_simp
 refine (HSAY.out _ HB2.out _ _ [st,(f:Int),lt,ag] _ _ _).mono ?_
 rintro e W3 ⟨rfl,hb⟩
 have HB3:=Lib.hid (HB2.out.trans (hb.mono HB2.out.size))
 have HO3:=Lib.hid (HO2.out.below hb)
 have HM3:=Lib.hid (heap_below3 hb (lt_of_heap HM2.out) HM2.out)
 clear hb
 go_wp2_with fail
 refine hK.out _ _ (HVV.out _ HB3.out) (fun hHeld=>?_)
 clear hK K
 refine qsp ?_
 refine qr1 17 (z06x17 _) rfl fun K hK=>?_
 unfold z06x17
 refine step_of_list rfl fun Q' hQ=>?_
 refine wpList_store_row rfl 51 (.tmp 7) (.tmp 46) rfl W0.heap.size #[.int .i64 (s.own:Int),.int .i64 (q:Int),.int .i64 3,.slice (some ⟨W1.heap.size,0,none⟩) 4 4,.slice none 0 0] rfl rfl 51 _ HM3.out size51 rfl (five_ones _ _ _ _ _ _ _ _ _) ?_
 refine hQ _ _ ?_
 clear hQ Q'
 have hon:=setRow_only W3 W0.heap.size #[.int .i64 (s.own:Int),.int .i64 (q:Int),.int .i64 3,.slice (some ⟨W1.heap.size,0,none⟩) 4 4,.slice none 0 0]
 have hbf:=HB3.out.trans (hon.below HB3.out.size (by simpa using HG.out))
 have hmf:=setRow_heap W3 W0.heap.size _ #[.int .i64 (s.own:Int),.int .i64 (q:Int),.int .i64 3,.slice (some ⟨W1.heap.size,0,none⟩) 4 4,.slice none 0 0] 51 (0,0) HM3.out
 have hof:OwnI _ V.heap.size 2 _ [st,(f:Int),lt,ag]:=rows_types HO3.out hon (fun j hj cur=>by rw [List.mem_singleton.1 hj,HM3.out];simp)
 refine hK.out _ _ (HVV.out _ hbf) (fun hHeld=>?_)
 clear hK K
 refine qsp ?_
 refine qdn ?_
 go_wp2_with fail
 go_meet
 exact ⟨_,_,rfl,hmf,HG.out,hof,hbf⟩):p:=h
theorem z06xm1 {p:Prop} (h:p:=by
 have hof:OwnI _ V.heap.size 2 _ [st,(f:Int),lt,ag]:=rows_types HO3.out hon (fun j hj cur=>by rw [List.mem_singleton.1 hj,HM3.out];simp)
 refine hK.out _ _ (HVV.out _ hbf) (fun hHeld=>?_)
 clear hK K
 refine qsp ?_
 refine qdn ?_
 go_wp2_with fail
 go_meet
 exact ⟨_,_,rfl,hmf,HG.out,hof,hbf⟩):p:=h
theorem z06xm2 {p:Prop} (h:p:=by
 refine qr1 6 (z06x24 _) rfl fun K hK=>?_
 unfold z06x24
 refine step_of_list rfl fun Q' hQ=>?_
 refine wpList_append_own_sl rfl (.tmp 61) (.tmp 65) rfl V.heap.size (.slice al j cl) bj (by rfl) HOL2.out W1.heap.size (.slice a5 bl c5) bs (by rfl) ((cell_heap HC6.out 0).trans rfl) HV6.out HBJ.out HB2.out.size ?_
 intro a7 c7 W3 ho7 hb7 hg7
 have hon7:=grown_only hg7
 have hM7:=hon7.keeps HM2.out (fun hm=>by have h9:=HOL2.out;obtain ⟨vs,_,hr,_⟩:=h9;have h8:=rows_at (rows_mono hr (Nat.zero_le _)) (by simpa using hm);rw [HM2.out] at h8;simp at h8)
 have hN7:OwnI W3 V.heap.size 2 _ _:=rows_types HON2.out hon7 (fun j hj cur hh=>by obtain ⟨vs,_,hr,_⟩:=HOL2.out;have h8:=rows_at (rows_mono hr (Nat.zero_le _)) (by simpa using hj);rw [hh] at h8;simp at h8)
 have hE7:=hon7.keeps HE2.out (fun hm=>by have h9:=HOL2.out;obtain ⟨vs,_,hr,_⟩:=h9;have h8:=rows_at (rows_mono hr (Nat.zero_le _)) (by simpa using hm);rw [HE2.out] at h8;simp at h8)
 have hK7:W3.cell? ⟨E,1,none⟩=some (.slice au bl cu):=(cell_heap hE7 1).trans rfl
 have hB7:=HB2.out.trans hb7
 rw [HBJL.out] at ho7 ⊢
 refine hQ _ _ ?_
 clear hQ Q'
 refine hK.out _ _ hK7 (fun hHeld=>?_)
 clear hK K
 refine qsp ?_
 have HM3:=Lib.hid hM7
 have HON3:=Lib.hid hN7
 have HO7:=Lib.hid ho7
 have HB3:=Lib.hid hB7
 have HE3:=Lib.hid hE7
 clear hM7 hN7 hK7 hE7 hB7 ho7 hb7 hg7 hon7
 refine qtl 7 (z06x25 _) rfl ?_
 refine qr1 8 (z06x26 _) rfl fun K hK=>?_
 unfold z06x26
 have hy4:W3.cell? ⟨M,4,none⟩=some (.slice al j cl):=(cell_heap HM3.out 4).trans rfl
 have hz4:=free_heap HM3.out 4
 go_simp
 clear hy4 hz4
 have honf:Only [M] W3 (W3.setCell ⟨M,4,none⟩ (.slice a7 (j+1) c7)):=(Only.refl _ _).setCell (by simp) _
 have hkf:=honf.cell ((cell_heap HE3.out 1).trans rfl) (by simpa using HEM.out)
 refine hK.out _ _ hkf (fun hHeld=>?_)
 clear hK K
 refine qsp ?_
 refine qdn ?_
 go_wp2_with fail
 go_roundw
 case rel =>
  refine ⟨j+1,_,_,by omega,by go_num,heap_set HM3.out 4 (.slice a7 (j+1) c7),?_,?_,HB3.out.trans (honf.below HB3.out.size (by simpa using HGM.out))⟩
  ·rw [HTJ.out,←List.append_assoc,hnj]
   exact rows_types HON3.out honf (fun i hi cur=>by rw [List.mem_singleton.1 hi,HM3.out];simp)
  ·rw [HBJ2.out]
   exact HO7.out.only honf (fun i hi cur=>by rw [List.mem_singleton.1 hi,HM3.out];simp)
 case measure=>simp [intOf];omega):p:=h
theorem z06xm3 {p:Prop} (h:p:=by
 refine qr1 5 (z06x23 _) rfl fun K hK=>?_
 unfold z06x23
 go_simp
 have hk:(W1.alloc (.cells #[.slice a5 bl c5] 29)).cell? ⟨E,1,none⟩=some (.slice au bl cu):=(cell_heap (heap_old HE1.out _) 1).trans rfl
 refine hK.out _ _ hk (fun hHeld=>?_)
 clear hK K
 refine qsp ?_
 have HE2:=Lib.hid (heap_old HE1.out (.cells #[.slice a5 bl c5] 29))
 have HB2:=Lib.hid (HB1.out.alloc HB1.out.size (.cells #[.slice a5 bl c5] 29))
 have HM2:=Lib.hid (heap_old HM1.out (.cells #[.slice a5 bl c5] 29))
 have HON2:Hid (OwnI (W1.alloc (.cells #[.slice a5 bl c5] 29)) V.heap.size 2 _ _):=Lib.hid (HON1.out.alloc _)
 have HOL2:=Lib.hid (HOL1.out.below ((Below.refl _ _).alloc (Nat.le_refl _) (.cells #[.slice a5 bl c5] 29)))
 have HV6:Hid (OwnB (W1.alloc (.cells #[.slice a5 bl c5] 29)) V.heap.size 5 _ _):=Lib.hid (HV5.out.alloc _)
 have HC6:=Lib.hid (heap_new W1 (.cells #[.slice a5 bl c5] 29))
 have HH:=Lib.hid (show V.heap.size≤W1.heap.size from HB1.out.size)
 generalize hw2:W1.alloc (.cells #[.slice a5 bl c5] 29)=W2 at *
 have HEH:Hid (∃z,z=W1.heap.size):=Lib.hid ⟨_,rfl⟩
 clear hk hw2
 exact z06xm2):p:=h
theorem info2:(Try.prog.info? 2).map (fun i=>(i.zero,i.size,i.bytes))=some (some (.int .i64 0),1,8):=by kernel_rfl
section
variable {w w':World} {A A' X X':List Nat} {r d l:Nat} {s s':Rp} {k k':Dk}
def batchN (s:Rp) (q:Nat):Nat:=min 20 (s.log.length - s.next.getD q 0)
theorem laying_eq (s:Rp) (q:Nat):layingM s q=⟨(s.own:Int),(q:Int),3,[s.term,(s.next.getD q 0:Int),lastTermM s.log (s.next.getD q 0),(s.agreed:Int)]++((s.log.map Ent.term).drop (s.next.getD q 0)).take (batchN s q),((s.log.map Ent.bs).drop (s.next.getD q 0)).take (batchN s q)⟩:=by
 have e:∀{β:Type} (g:Ent→β),((s.log.map g).drop (s.next.getD q 0)).take (batchN s q)=((s.log.drop (s.next.getD q 0)).take 20).map g:=fun g=>by
  rw [←List.map_drop,List.map_take]
  unfold batchN
  rcases Nat.le_total 20 (s.log.length - s.next.getD q 0) with h | h
  ·rw [Nat.min_eq_left h]
  ·rw [Nat.min_eq_right h,List.take_of_length_le (by rw [List.length_map,List.length_drop];exact Nat.le_refl _),List.take_of_length_le (by rw [List.length_map,List.length_drop];exact h)]
 rw [e,e]
 rfl
set_option maxHeartbeats 4000000 in
theorem laying_any (h:Nd w A X r d l s k) (hw:Wf s k) (q:Nat) (hq:q<s.n) (hnx:s.next.getD q 0≤s.log.length):Calls Try.prog 31 #[.pointer (some ⟨r,0,none⟩),.int .i64 (q:Int)] w fun e w'=>∃v u,e = .returned (msgV (layingM s q) v u)∧IsMsg w' A (layingM s q) v u∧Below w.heap.size w w':=by
 have HWA:=Lib.hid h.alt
 have hlogb:=hw.logb
 have HRL:=Lib.hid hw.recl
 obtain ⟨ao,c,hlr⟩:=h.logR
 have hc8:=hlr.c8
 have hle:=hlr.le
 have hcm:=hlr.cm
 have HN:=Lib.hid h
 have HEQ:=Lib.hid (laying_eq s q)
 have HLTM:=Lib.hid (fun W (hb:Below w.heap.size w W)=>lastTerm_any (h.below hb) (s.next.getD q 0) hnx (by omega))
 obtain ⟨D,L,R,vl,gv,gn,gm,gh,h,hX⟩:=h
 have hc6:w.cell? ⟨r,6,none⟩=some (.int .i64 s.term):=by rw [cell_heap h.cell];rfl
 have hc9:w.cell? ⟨r,9,none⟩=some (.int .i64 (s.agreed:Int)):=by rw [cell_heap h.cell];rfl
 have hc13:w.cell? ⟨r,13,none⟩=some (.slice (some ⟨gn,0,none⟩) s.n s.n):=by rw [cell_heap h.cell];rfl
 have hcn:w.cell? ⟨gn,q,none⟩=some (.int .i64 (s.next.getD q 0:Int)):=by rw [cell_heap h.next];exact natsA_at _ _ (by rw [hw.nl];exact hq)
 have hV:=(Below.refl w.heap.size w).alloc (Nat.le_refl _) (.cells #[.int .i64 0,.int .i64 0,.int .i64 0,.slice none 0 0,.slice none 0 0] 51)
 have hk6:=cell_later hV hc6
 have hk8:=cell_later hV hc8
 have hk9:=cell_later hV hc9
 have hk13:=cell_later hV hc13
 have hkn:=cell_later hV hcn
 have hq2:(q:Int)<(s.n:Int):=by omega
 have hbn:batchN s q=min 20 (s.log.length - s.next.getD q 0):=rfl
 generalize s.next.getD q 0=f at *
 have q1:IntKind.i64.wrap ((f:Int)+20)=(f:Int)+20:=IntWalk.i64_in _ (by omega)
 have hm1:(min ((f:Int)+20) (s.log.length:Int)).toNat - f=batchN s q:=by omega
 have HM1:=Lib.hid hm1
 have HBN:=Lib.hid hbn
 clear hm1 hbn
 generalize batchN s q=m at *
 generalize hTT:s.log.map Ent.term=T at *
 generalize hBB:s.log.map Ent.bs=Bs at *
 have hTl:T.length=s.log.length:=by rw [←hTT];simp
 have hBl:Bs.length=s.log.length:=by rw [←hBB];simp
 clear h hX hc13 hcn
 go_enter Try.func31,Try.ntmps31
 go_upto_region 1 with (fail)
 have hbx:=Lib.hid (heap_new w (.cells #[.int .i64 0,.int .i64 0,.int .i64 0,.slice none 0 0,.slice none 0 0] 51))
 have hVs:w.heap.size<(w.alloc (.cells #[.int .i64 0,.int .i64 0,.int .i64 0,.slice none 0 0,.slice none 0 0] 51)).heap.size:=by simp
 generalize w.alloc (.cells #[.int .i64 0,.int .i64 0,.int .i64 0,.slice none 0 0,.slice none 0 0] 51)=V at *
 have q2:(f:Int)≤(s.log.length:Int):=by omega
 have HL:=Lib.hid hlr
 clear hlr
 generalize hsl:s.log.length=sl at *
 go_upto_region 2 with (fail)
 go_cut [6] (fun v wx=>∃(ga:Option Addr) (cc:Nat),v = .slice ga m cc∧(0<m→∃g,ao=some ⟨g,0,none⟩∧ga=some ⟨g,f*2,none⟩)∧∃nq,wx=V.drewN nq)
 case first =>
  by_cases hfc:c=f
  · have hm0:m=0:=by have:=HBN.out;omega
    have hsf:sl=f:=by omega
    subst hfc
    subst hsf
    have HM0:=Lib.hid hm0
    clear hm0
    go_quiet (fail)
    go_wp2_with fail
    go_meet
    exact ⟨_,_,by rw [HM1.out],(fun h=>by have:=HM0.out;omega),nq,rfl⟩
  · obtain ⟨g,rfl⟩:∃g,ao=some ⟨g,0,none⟩:=by
      cases ao with
      | none=>have:=HL.out.nil rfl;omega
      | some p=>obtain ⟨g,rfl⟩:=HL.out.form p rfl;exact ⟨g,rfl⟩
    go_quiet (fail)
    go_wp2_with fail
    go_meet
    exact ⟨_,_,by rw [HM1.out],(fun h=>⟨g,rfl,rfl⟩),nq,rfl⟩
 case rest =>
 obtain ⟨ga,cc,rfl,hga,nq,rfl⟩:=hcut
 have c6:∀w',Below w.heap.size w w'→w'.cell? ⟨r,6,none⟩=some (.int .i64 s.term):=fun w' hb=>cell_later hb hc6
 have c9:∀w',Below w.heap.size w w'→w'.cell? ⟨r,9,none⟩=some (.int .i64 (s.agreed:Int)):=fun w' hb=>cell_later hb hc9
 have HLT:Hid (∀w',Below V.heap.size V w'→Calls Try.prog 45 #[.pointer (some ⟨r,0,none⟩),.int .i64 (f:Int)] w' fun e w2=>e = .returned (.int .i64 (lastTermM s.log f))∧w'=w2):=Lib.hid (fun w' hb2=>HLTM.out w' (hV.trans (hb2.mono hV.size)))
 have HSAY:Hid (∀w',Below V.heap.size V w'→∀dst kind N ao n c,Calls Try.prog 44 #[.pointer (some ⟨r,0,none⟩),.int .i64 dst,.int .i64 kind,.slice ao n c] w' fun e w2=>e = .returned (msgV (sayM s dst kind N) (.slice ao n c) (.slice none 0 0))∧Below w'.heap.size w' w2):=Lib.hid (fun w' hb2 dst kind N ao n c=>say_any (HN.out.below (hV.trans (hb2.mono hV.size))) dst kind N ao n c)
 have HVV:Hid (∀w',Below V.heap.size V w'→Below w.heap.size w w'):=Lib.hid (fun w' hb=>hV.trans (hb.mono hV.size))
 have HBQ:Hid (Below V.heap.size V (V.drewN nq).drew):=Lib.hid ((below_drewN V nq).trans (show Below V.heap.size (V.drewN nq) (V.drewN nq).drew from below_drewN (V.drewN nq) 1))
 generalize hlt:lastTermM s.log f=lt at *
 generalize hag:(s.agreed:Int)=ag at *
 generalize s.term=st at *
 clear hc6 hc8 hc9 hk6 hk8 hk9 hk13 hkn hq2
 go_upto_region 3 with (fail)
 go_cut [7] (fun p wx=>∃M vN,p = .pointer (some ⟨M,0,none⟩)∧wx.heap[M]? = some (.cells #[.int .i64 (s.own:Int),.int .i64 (q:Int),.int .i64 3,vN,.slice none 0 0] 51 (0,0))∧V.heap.size≤M∧OwnI wx V.heap.size 2 vN [st,(f:Int),lt,ag]∧Below V.heap.size V wx)
 case first =>
  refine wp_region_held_drew (S:=fun w'=>Below w.heap.size w w') (by kernel_rfl) (HVV.out _ HBQ.out) (fun hHeld=>?_)
  refine qtl 0 (z06x0 _) rfl ?_
  refine qtl 1 (z06x1 _) rfl ?_
  refine qtl 2 (z06x2 _) rfl ?_
  refine qtl 3 (z06x3 _) rfl ?_
  refine qtl 4 (z06x4 _) rfl ?_
  refine qtl 5 (z06x5 _) rfl ?_
  refine qtl 6 (z06x6 _) rfl ?_
  refine qtl 7 (z06x7 _) rfl ?_
  refine qtl 8 (z06x8 _) rfl ?_
  refine qtl 10 (z06x9 _) rfl ?_
  refine qtl 11 (z06x10 _) rfl ?_
  refine qtl 12 (z06x11 _) rfl ?_
  refine qtl 13 (z06x12 _) rfl ?_
  have HB0:=HBQ
  generalize (V.drewN nq).drew=W0 at *
  refine qr2 9 16 (z06x13 _) (z06x14 _) rfl rfl (fun K hK=>?_) fun K hK=>?_
  ·unfold z06x13
   go_simp
   refine (HLT.out _ HB0.out).mono ?_
   rintro e wa ⟨rfl,rfl⟩
   go_wp2_with fail
   refine hK.out _ _ hHeld (fun hHeld=>?_)
   clear hK K
   refine qsp ?_
   refine qr2 14 16 (z06x15 _) (z06x14 _) rfl rfl (fun K hK=>?_) fun K hK=>?_
   ·unfold z06x15
    go_simp
    have hb1:=HB0.out.alloc HB0.out.size (.cells #[.int .i64 st,.int .i64 (f:Int),.int .i64 lt,.int .i64 ag] 2)
    refine hK.out _ _ (HVV.out _ hb1) (fun hHeld=>?_)
    clear hK K
    refine qsp ?_
    have HB1:=Lib.hid hb1
    have HO1:Hid (OwnI (W0.alloc (.cells #[.int .i64 st,.int .i64 (f:Int),.int .i64 lt,.int .i64 ag] 2)) V.heap.size 2 (.slice (some ⟨W0.heap.size,0,none⟩) 4 4) [st,(f:Int),lt,ag]):=Lib.hid (OwnI.new W0 V.heap.size 2 _ _ rfl _ rfl HB0.out.size 4 rfl (by omega))
    generalize W0.alloc (.cells #[.int .i64 st,.int .i64 (f:Int),.int .i64 lt,.int .i64 ag] 2)=W1 at *
    clear hb1
    refine qr2 15 16 (z06x16 _) (z06x14 _) rfl rfl (fun K hK=>?_) fun K hK=>?_
    ·unfold z06x16
     go_simp
     refine (HSAY.out _ HB1.out _ _ [st,(f:Int),lt,ag] _ _ _).mono ?_
     rintro e W2 ⟨rfl,hb⟩
     have HB2:=Lib.hid (HB1.out.trans (hb.mono HB1.out.size))
     have HO2:=Lib.hid (HO1.out.below hb)
     clear hb
     go_wp2_with fail
     refine hK.out _ _ (HVV.out _ HB2.out) (fun hHeld=>?_)
     clear hK K
     refine qsp ?_
     refine qr1 16 (z06x14 _) rfl fun K hK=>?_
     unfold z06x14
     go_simp
     have hb3:=HB2.out.alloc HB2.out.size (.cells #[.int .i64 0,.int .i64 0,.int .i64 0,.slice none 0 0,.slice none 0 0] 51)
     refine hK.out _ _ (HVV.out _ hb3) (fun hHeld=>?_)
     clear hK K
     refine qsp ?_
     have HB3:=Lib.hid hb3
     have HM3:=Lib.hid (heap_new W2 (.cells #[.int .i64 0,.int .i64 0,.int .i64 0,.slice none 0 0,.slice none 0 0] 51))
     have HG:Hid (V.heap.size≤W2.heap.size):=Lib.hid HB2.out.size
     have HO3:Hid (OwnI (W2.alloc (.cells #[.int .i64 0,.int .i64 0,.int .i64 0,.slice none 0 0,.slice none 0 0] 51)) V.heap.size 2 _ [st,(f:Int),lt,ag]):=Lib.hid (HO2.out.alloc _)
     generalize hw3:W2.alloc (.cells #[.int .i64 0,.int .i64 0,.int .i64 0,.slice none 0 0,.slice none 0 0] 51)=W3 at *
     clear hb3 hw3
     refine qr1 17 (z06x17 _) rfl fun K hK=>?_
     unfold z06x17
     refine step_of_list rfl fun Q' hQ=>?_
     refine wpList_store_row rfl 51 (.tmp 7) (.tmp 46) rfl W2.heap.size #[.int .i64 (s.own:Int),.int .i64 (q:Int),.int .i64 3,.slice (some ⟨W0.heap.size,0,none⟩) 4 4,.slice none 0 0] rfl rfl 51 _ HM3.out size51 rfl (five_ones _ _ _ _ _ _ _ _ _) ?_
     refine hQ _ _ ?_
     clear hQ Q'
     have hon:=setRow_only W3 W2.heap.size #[.int .i64 (s.own:Int),.int .i64 (q:Int),.int .i64 3,.slice (some ⟨W0.heap.size,0,none⟩) 4 4,.slice none 0 0]
     have hbf:=HB3.out.trans (hon.below HB3.out.size (by simpa using HG.out))
     have hmf:=setRow_heap W3 W2.heap.size _ #[.int .i64 (s.own:Int),.int .i64 (q:Int),.int .i64 3,.slice (some ⟨W0.heap.size,0,none⟩) 4 4,.slice none 0 0] 51 (0,0) HM3.out
     exact z06xm1
    ·unfold z06x14
     go_simp
     have hb2:=HB1.out.alloc HB1.out.size (.cells #[.int .i64 0,.int .i64 0,.int .i64 0,.slice none 0 0,.slice none 0 0] 51)
     refine hK.out _ _ (HVV.out _ hb2) (fun hHeld=>?_)
     clear hK K
     refine qsp ?_
     have HB2:=Lib.hid hb2
     have HM2:=Lib.hid (heap_new W1 (.cells #[.int .i64 0,.int .i64 0,.int .i64 0,.slice none 0 0,.slice none 0 0] 51))
     have HG:Hid (V.heap.size≤W1.heap.size):=Lib.hid HB1.out.size
     have HO2:Hid (OwnI (W1.alloc (.cells #[.int .i64 0,.int .i64 0,.int .i64 0,.slice none 0 0,.slice none 0 0] 51)) V.heap.size 2 _ [st,(f:Int),lt,ag]):=Lib.hid (HO1.out.alloc _)
     generalize hw2:W1.alloc (.cells #[.int .i64 0,.int .i64 0,.int .i64 0,.slice none 0 0,.slice none 0 0] 51)=W2 at *
     clear hb2 hw2
     refine qr1 15 (z06x16 _) rfl fun K hK=>?_
     unfold z06x16
     go_simp
     refine (HSAY.out _ HB2.out _ _ [st,(f:Int),lt,ag] _ _ _).mono ?_
     rintro e W3 ⟨rfl,hb⟩
     have HB3:=Lib.hid (HB2.out.trans (hb.mono HB2.out.size))
     have HO3:=Lib.hid (HO2.out.below hb)
     have HM3:=Lib.hid (heap_below3 hb (lt_of_heap HM2.out) HM2.out)
     clear hb
     go_wp2_with fail
     refine hK.out _ _ (HVV.out _ HB3.out) (fun hHeld=>?_)
     clear hK K
     refine qsp ?_
     refine qr1 17 (z06x17 _) rfl fun K hK=>?_
     unfold z06x17
     refine step_of_list rfl fun Q' hQ=>?_
     refine wpList_store_row rfl 51 (.tmp 7) (.tmp 46) rfl W1.heap.size #[.int .i64 (s.own:Int),.int .i64 (q:Int),.int .i64 3,.slice (some ⟨W0.heap.size,0,none⟩) 4 4,.slice none 0 0] rfl rfl 51 _ HM3.out size51 rfl (five_ones _ _ _ _ _ _ _ _ _) ?_
     refine hQ _ _ ?_
     clear hQ Q'
     have hon:=setRow_only W3 W1.heap.size #[.int .i64 (s.own:Int),.int .i64 (q:Int),.int .i64 3,.slice (some ⟨W0.heap.size,0,none⟩) 4 4,.slice none 0 0]
     have hbf:=HB3.out.trans (hon.below HB3.out.size (by simpa using HG.out))
     have hmf:=setRow_heap W3 W1.heap.size _ #[.int .i64 (s.own:Int),.int .i64 (q:Int),.int .i64 3,.slice (some ⟨W0.heap.size,0,none⟩) 4 4,.slice none 0 0] 51 (0,0) HM3.out
     exact z06xm1
   ·unfold z06x14
    go_simp
    have hb1:=HB0.out.alloc HB0.out.size (.cells #[.int .i64 0,.int .i64 0,.int .i64 0,.slice none 0 0,.slice none 0 0] 51)
    refine hK.out _ _ (HVV.out _ hb1) (fun hHeld=>?_)
    clear hK K
    refine qsp ?_
    have HB1:=Lib.hid hb1
    have HM1:=Lib.hid (heap_new W0 (.cells #[.int .i64 0,.int .i64 0,.int .i64 0,.slice none 0 0,.slice none 0 0] 51))
    have HG:Hid (V.heap.size≤W0.heap.size):=Lib.hid HB0.out.size
    generalize hw1:W0.alloc (.cells #[.int .i64 0,.int .i64 0,.int .i64 0,.slice none 0 0,.slice none 0 0] 51)=W1 at *
    clear hb1 hw1
    exact z06xm0
  ·unfold z06x14
   go_simp
   have hb1:=HB0.out.alloc HB0.out.size (.cells #[.int .i64 0,.int .i64 0,.int .i64 0,.slice none 0 0,.slice none 0 0] 51)
   refine hK.out _ _ (HVV.out _ hb1) (fun hHeld=>?_)
   clear hK K
   refine qsp ?_
   have HB1:=Lib.hid hb1
   have HM1:=Lib.hid (heap_new W0 (.cells #[.int .i64 0,.int .i64 0,.int .i64 0,.slice none 0 0,.slice none 0 0] 51))
   have HG:Hid (V.heap.size≤W0.heap.size):=Lib.hid HB0.out.size
   generalize hw1:W0.alloc (.cells #[.int .i64 0,.int .i64 0,.int .i64 0,.slice none 0 0,.slice none 0 0] 51)=W1 at *
   clear hb1 hw1
   refine qr1 9 (z06x13 _) rfl fun K hK=>?_
   unfold z06x13
   go_simp
   refine (HLT.out _ HB1.out).mono ?_
   rintro e wa ⟨rfl,rfl⟩
   go_wp2_with fail
   refine hK.out _ _ hHeld (fun hHeld=>?_)
   clear hK K
   refine qsp ?_
   exact z06xm0
 case rest =>
 obtain ⟨M,vN0,rfl,hM0,hgM,hN0,hB0⟩:=hcut
 rename World=>wx
 have HGM:=Lib.hid hgM
 go_wp2_with fail
 go_loopw [49] (fun i wr=>∃(j:Nat) (vN vB:Value),j≤m∧i = .int .i64 (j:Int)∧wr.heap[M]? = some (.cells #[.int .i64 (s.own:Int),.int .i64 (q:Int),.int .i64 3,vN,vB] 51 (0,0))∧OwnI wr V.heap.size 2 vN ([st,(f:Int),lt,ag]++(T.drop f).take j)∧OwnL wr V.heap.size vB ((Bs.drop f).take j)∧Below V.heap.size V wr) (fun i _=>m - (intOf i).toNat)
 case atStart=>exact ⟨0,_,_,Nat.zero_le _,rfl,hM0,by simpa using hN0,by simpa using OwnL.nil _ _,hB0⟩
 case round =>
  clear hM0 hN0 hB0 hgM
  obtain ⟨j,vN,vB,hj,rfl,hM,hN,hB,hBV⟩:=hrel
  have HM:=Lib.hid hM
  have HNN:=Lib.hid hN
  have HBB:=Lib.hid hB
  have HBV:=Lib.hid hBV
  clear hM hN hB hBV
  by_cases hlt2:j<m
  · obtain ⟨g,rfl,rfl⟩:=hga (by omega)
    have hfj:f+j<sl:=by have:=HBN.out;omega
    obtain ⟨u,hu1,hu2,him⟩:=HL.out.at_ (f+j) (by rw [hsl];exact hfj) g rfl
    rw [hTT] at hu1
    rw [hBB] at him
    have hblen:(Bs.getD (f+j) []).length≤8000:=by
      rw [←hBB]
      have hlt3:f+j<s.log.length:=by rw [hsl];exact hfj
      have e:(s.log.map Ent.bs).getD (f+j) []=s.log[f+j].bs:=by simp [List.getD,hlt3]
      rw [e]
      exact HRL.out _ (List.getElem_mem _)
    have HTJ:Hid ((T.drop f).take (j+1)=(T.drop f).take j++[T.getD (f+j) 0]):=Lib.hid (by
      have hl3:j<(T.drop f).length:=by rw [List.length_drop];omega
      rw [←List.take_append_getElem hl3]
      simp [List.getD,show f+j<T.length by omega])
    have HBJ2:Hid ((Bs.drop f).take (j+1)=(Bs.drop f).take j++[Bs.getD (f+j) []]):=Lib.hid (by
      have hl3:j<(Bs.drop f).length:=by rw [List.length_drop];omega
      rw [←List.take_append_getElem hl3]
      simp [List.getD,show f+j<Bs.length by omega])
    have HBJL:Hid (((Bs.drop f).take j).length=j):=Lib.hid (by rw [List.length_take,List.length_drop];omega)
    have HTJL:Hid (([st,(f:Int),lt,ag]++(T.drop f).take j).length=4+j):=Lib.hid (by rw [List.length_append,List.length_take,List.length_drop];simp;omega)
    have HBJ:Hid (((Bs.drop f).take j).length+1≤1000000):=Lib.hid (by rw [HBJL.out];omega)
    obtain ⟨au,cu,e,_⟩:=id him
    subst e
    generalize hbs:Bs.getD (f+j) []=bs at *
    generalize hbl:bs.length=bl at *
    have HBL:Hid (bs.length=bl):=Lib.hid hbl
    have HIB:Hid (∀W',Below V.heap.size V W'→IsB W' au bl cu bs):=Lib.hid (fun W' hb=>by
      obtain ⟨ao',c',e,h1,_⟩:=him.below (HVV.out _ hb)
      cases e
      rw [hbl] at h1
      exact h1)
    generalize T.getD (f+j) 0=t at *
    have hu1:=cell_later (HVV.out _ HBV.out) hu1
    have hu2:=cell_later (HVV.out _ HBV.out) hu2
    have q9:(f+j)*2=f*2+j*2:=by omega
    rw [q9] at hu1 hu2
    have q5:(j:Int)<(m:Int):=by omega
    have q6:IntKind.i64.wrap ((j:Int)+1)=(j:Int)+1:=IntWalk.i64_in _ (by omega)
    obtain ⟨an,cn,evn,_⟩:=HNN.out.isI
    rw [HTJL.out] at evn
    subst evn
    obtain ⟨al,cl,evb,_⟩:=HBB.out.shape
    rw [HBJL.out] at evb
    subst evb
    have HLEN:Hid (([st,(f:Int),lt,ag]++(T.drop f).take j).length+1≤17592186044416):=Lib.hid (by rw [HTJL.out];omega)
    generalize hbj:(Bs.drop f).take j=bj at *
    generalize hnj:[st,(f:Int),lt,ag]++(T.drop f).take j=nj at *
    have HE5:=Lib.hid (heap_new wr (.cells #[.int .i64 t,.slice au bl cu] 68))
    have HM5:=Lib.hid (heap_old HM.out (.cells #[.int .i64 t,.slice au bl cu] 68))
    have HN5:Hid (OwnI (wr.alloc (.cells #[.int .i64 t,.slice au bl cu] 68)) V.heap.size 2 _ _):=Lib.hid (HNN.out.alloc _)
    have HB5:=Lib.hid (HBB.out.below ((Below.refl _ _).alloc (Nat.le_refl _) (.cells #[.int .i64 t,.slice au bl cu] 68)))
    have HBV5:=Lib.hid (HBV.out.alloc HBV.out.size (.cells #[.int .i64 t,.slice au bl cu] 68))
    have hy3:(wr.alloc (.cells #[.int .i64 t,.slice au bl cu] 68)).cell? ⟨M,3,none⟩=some (.slice an (4+j) cn):=(cell_heap HM5.out 3).trans rfl
    have hy0:(wr.alloc (.cells #[.int .i64 t,.slice au bl cu] 68)).cell? ⟨wr.heap.size,0,none⟩=some (.int .i64 t):=(cell_heap HE5.out 0).trans rfl
    have HBLN:=Lib.hid hblen
    clear him hblen hlt2
    go_upto_region 7 with (fail)
    generalize hW5:wr.alloc (.cells #[.int .i64 t,.slice au bl cu] 68)=W5 at *
    have HEW:Hid (wr.heap.size<W5.heap.size):=Lib.hid (by rw [←hW5];simp)
    clear hW5 hu1 hu2
    generalize wr.heap.size=E at *
    go_wp2_with (at_builtin;refine wpList_append_ints rfl (.tmp 54) (.tmp 57) 49 rfl V.heap.size 2 Try.underlying49 info2 (.slice an (4+j) cn) nj rfl (HN5.out.alloc _) (some ⟨W5.heap.size,0,none⟩) 1 1 [t] rfl (isI_cell1 (heap_new W5 _)) HLEN.out (HBV5.out.alloc HBV5.out.size _).size ?_)
    intro vN6 W6 ho6 hg6 hb6
    have hon6:=grown_only hg6
    have hne6:∀{b:Nat} {cs:Array Value} {t:TypeId},W5.heap[b]? = some (.cells cs t (0,0))→t≠2→W6.heap[b]? = some (.cells cs t (0,0)):=fun hb ht=>hon6.keeps (heap_old hb _) (fun hm=>by
      have h8:=rows_at (OwnI.mono (HN5.out.alloc (.cells #[.int .i64 t] 2)) (Nat.zero_le _)) (by simpa using hm)
      rw [heap_old hb _] at h8
      simp at h8
      exact ht h8)
    have hM6:=hne6 HM5.out (by decide)
    have hE6:=hne6 HE5.out (by decide)
    have hB6:OwnL W6 V.heap.size (.slice al j cl) bj:=(HB5.out.below ((Below.refl _ _).alloc (Nat.le_refl _) (.cells #[.int .i64 t] 2))).only hon6 (fun b hm cur=>by
      have h8:=rows_at (OwnI.mono (HN5.out.alloc (.cells #[.int .i64 t] 2)) (Nat.zero_le _)) (by simpa using hm)
      rw [h8];simp)
    have hV6:=(HBV5.out.alloc HBV5.out.size (.cells #[.int .i64 t] 2)).trans hb6
    have hs6:E<W6.heap.size:=Nat.lt_of_lt_of_le HEW.out (Nat.le_trans (by simp) hon6.size)
    obtain ⟨a6,c6',e6,_⟩:=ho6.isI
    rw [List.length_append,HTJL.out] at e6
    simp only [List.length_cons,List.length_nil,Nat.zero_add] at e6
    subst e6
    have hy3:W6.cell? ⟨M,3,none⟩=some (.slice an (4+j) cn):=(cell_heap hM6 3).trans rfl
    have hz3:=free_heap hM6 3
    have HM6:=Lib.hid hM6;have HE6:=Lib.hid hE6;have HB6:=Lib.hid hB6;have HV6:=Lib.hid hV6;have HO6:=Lib.hid ho6
    clear hM6 hE6 hB6 hV6 ho6 hg6 hb6 hon6 hne6 hy0
    go_upto_region 8 with (fail)
    have o9:Only [M] W6 (W6.setCell ⟨M,3,none⟩ (.slice a6 (4+j+1) c6')):=(Only.refl _ _).setCell (by simp) _
    have HM0:Hid ((W6.setCell ⟨M,3,none⟩ (.slice a6 (4+j+1) c6')).heap[M]? = some (.cells #[.int .i64 (s.own:Int),.int .i64 (q:Int),.int .i64 3,.slice a6 (4+j+1) c6',.slice al j cl] 51 (0,0))):=Lib.hid (heap_set HM6.out 3 _)
    have HEM:Hid (E≠M):=Lib.hid (heap_ne HE6.out HM6.out (by decide))
    have HE0:=Lib.hid (o9.keeps HE6.out (by simpa using HEM.out))
    have HON0:Hid (OwnI _ V.heap.size 2 _ _):=Lib.hid (rows_types HO6.out o9 (fun i hi cur=>by rw [List.mem_singleton.1 hi,HM6.out];simp))
    have HOL0:=Lib.hid (HB6.out.only o9 (fun i hi cur=>by rw [List.mem_singleton.1 hi,HM6.out];simp))
    have HBX0:=Lib.hid (HV6.out.trans (o9.below HV6.out.size (by simpa using HGM.out)))
    have hy1:=(cell_heap HE0.out 1).trans (show _=some (Value.slice au bl cu) from rfl)
    clear o9 hy3 hz3
    generalize W6.setCell ⟨M,3,none⟩ (.slice a6 (4+j+1) c6')=W9 at *
    have HB0:Hid (Below V.heap.size V W9.drew):=Lib.hid (HBX0.out.drew)
    have HM0:Hid (W9.drew.heap[M]? = _):=HM0
    have HE0:Hid (W9.drew.heap[E]? = _):=HE0
    have HON0:Hid (OwnI W9.drew V.heap.size 2 _ _):=HON0
    have HOL0:Hid (OwnL W9.drew V.heap.size _ _):=Lib.hid (HOL0.out.below (below_drewN W9 1))
    have hy1:W9.drew.cell? ⟨E,1,none⟩=some (.slice au bl cu):=hy1
    refine wp_region_held_drew (S:=fun w'=>w'.cell? ⟨E,1,none⟩=some (.slice au bl cu)) (by kernel_rfl) hy1 (fun hHeld=>?_)
    refine qtl 0 (z06x18 _) rfl ?_
    refine qtl 2 (z06x19 _) rfl ?_
    refine qtl 3 (z06x20 _) rfl ?_
    generalize W9.drew=W0 at *
    refine qr2 1 4 (z06x21 _) (z06x22 _) rfl rfl (fun K hK=>?_) fun K hK=>?_
    ·unfold z06x21
     have hy4:=cell_heap HM0.out 4
     have hy4b:W0.cell? ⟨M,4,none⟩=some (.slice al j cl):=hy4.trans rfl
     go_simp
     clear hy4 hy4b
     refine hK.out _ _ hHeld (fun hHeld=>?_)
     clear hK K
     refine qsp ?_
     refine qr1 4 (z06x22 _) rfl fun K hK=>?_
     unfold z06x22
     go_simp
     refine (F.clone_any au bl cu bs _ (HIB.out _ HB0.out) (by have:=HBLN.out;omega)).mono ?_
     rintro e W1 ⟨v5,rfl,ho5,hb5⟩
     have HB1:=Lib.hid (HB0.out.trans (hb5.mono HB0.out.size))
     have HM1:=Lib.hid (heap_below3 hb5 (lt_of_heap HM0.out) HM0.out)
     have HON1:=Lib.hid (HON0.out.below hb5)
     have HOL1:=Lib.hid (HOL0.out.below hb5)
     have HV5:=Lib.hid (ho5.mono HB0.out.size)
     obtain ⟨a5,c5,e5,_⟩:=id HV5.out.isB
     rw [HBL.out] at e5
     subst e5
     have HE1:=Lib.hid (heap_below3 hb5 (lt_of_heap HE0.out) HE0.out)
     have hk:W1.cell? ⟨E,1,none⟩=some (.slice au bl cu):=(cell_heap HE1.out 1).trans rfl
     clear ho5 hb5
     go_wp2_with fail
     refine hK.out _ _ hk (fun hHeld=>?_)
     clear hK K
     refine qsp ?_
     clear hk
     exact z06xm3
    ·unfold z06x22
     go_simp
     refine (F.clone_any au bl cu bs _ (HIB.out _ HB0.out) (by have:=HBLN.out;omega)).mono ?_
     rintro e W1 ⟨v5,rfl,ho5,hb5⟩
     have HB1:=Lib.hid (HB0.out.trans (hb5.mono HB0.out.size))
     have HM1:=Lib.hid (heap_below3 hb5 (lt_of_heap HM0.out) HM0.out)
     have HON1:=Lib.hid (HON0.out.below hb5)
     have HOL1:=Lib.hid (HOL0.out.below hb5)
     have HV5:=Lib.hid (ho5.mono HB0.out.size)
     obtain ⟨a5,c5,e5,_⟩:=id HV5.out.isB
     rw [HBL.out] at e5
     subst e5
     have HE1:=Lib.hid (heap_below3 hb5 (lt_of_heap HE0.out) HE0.out)
     have hk:W1.cell? ⟨E,1,none⟩=some (.slice au bl cu):=(cell_heap HE1.out 1).trans rfl
     clear ho5 hb5
     go_wp2_with fail
     refine hK.out _ _ hk (fun hHeld=>?_)
     clear hK K
     refine qsp ?_
     clear hk
     refine qr2 1 5 (z06x21 _) (z06x23 _) rfl rfl (fun K hK=>?_) fun K hK=>?_
     ·unfold z06x21
      have hy4:=cell_heap HM1.out 4
      have hy4b:W1.cell? ⟨M,4,none⟩=some (.slice al j cl):=hy4.trans rfl
      go_simp
      clear hy4 hy4b
      refine hK.out _ _ hHeld (fun hHeld=>?_)
      clear hK K
      refine qsp ?_
      exact z06xm3
     ·unfold z06x23
      go_simp
      have hk:(W1.alloc (.cells #[.slice a5 bl c5] 29)).cell? ⟨E,1,none⟩=some (.slice au bl cu):=(cell_heap (heap_old HE1.out _) 1).trans rfl
      refine hK.out _ _ hk (fun hHeld=>?_)
      clear hK K
      refine qsp ?_
      have HE2:=Lib.hid (heap_old HE1.out (.cells #[.slice a5 bl c5] 29))
      have HB2:=Lib.hid (HB1.out.alloc HB1.out.size (.cells #[.slice a5 bl c5] 29))
      have HM2:=Lib.hid (heap_old HM1.out (.cells #[.slice a5 bl c5] 29))
      have HON2:Hid (OwnI (W1.alloc (.cells #[.slice a5 bl c5] 29)) V.heap.size 2 _ _):=Lib.hid (HON1.out.alloc _)
      have HOL2:=Lib.hid (HOL1.out.below ((Below.refl _ _).alloc (Nat.le_refl _) (.cells #[.slice a5 bl c5] 29)))
      have HV6:Hid (OwnB (W1.alloc (.cells #[.slice a5 bl c5] 29)) V.heap.size 5 _ _):=Lib.hid (HV5.out.alloc _)
      have HC6:=Lib.hid (heap_new W1 (.cells #[.slice a5 bl c5] 29))
      have HH:=Lib.hid (show V.heap.size≤W1.heap.size from HB1.out.size)
      generalize hw2:W1.alloc (.cells #[.slice a5 bl c5] 29)=W2 at *
      have HEH:Hid (∃z,z=W1.heap.size):=Lib.hid ⟨_,rfl⟩
      clear hk hw2
      refine qr1 1 (z06x21 _) rfl fun K hK=>?_
      unfold z06x21
      have hy4:=cell_heap HM2.out 4
      have hy4b:W2.cell? ⟨M,4,none⟩=some (.slice al j cl):=hy4.trans rfl
      go_simp
      clear hy4 hy4b
      refine hK.out _ _ hHeld (fun hHeld=>?_)
      clear hK K
      refine qsp ?_
      exact z06xm2
  · obtain rfl:j=m:=by omega
    have q5:¬((j:Int)<(j:Int)):=by omega
    clear hga
    have HZ:=Lib.hid (heap_below3 HBV.out hVs hbx.out)
    obtain ⟨an,cn,evn,_⟩:=HNN.out.isI
    obtain ⟨al,cl,evb,_⟩:=HBB.out.shape
    generalize hln:([st,(f:Int),lt,ag]++(T.drop f).take j).length=ln at *
    generalize hlb:((Bs.drop f).take j).length=lb at *
    subst evn evb
    go_upto_region 10 with (fail)
    go_wp2_with (first | (refine wpList_load_row rfl 51 (.tmp 7) rfl M rfl 51 _ (0,0) _ HM.out Try.underlying51 rfl size51 ?_) | (refine wpList_store_row rfl 51 (.tmp 4) (.tmp 69) rfl w.heap.size #[.int .i64 (s.own:Int),.int .i64 (q:Int),.int .i64 3,.slice an ln cn,.slice al lb cl] rfl rfl 51 _ HZ.out size51 rfl (five_ones _ _ _ _ _ _ _ _ _) ?_))
    have hon:=setRow_only wr w.heap.size #[.int .i64 (s.own:Int),.int .i64 (q:Int),.int .i64 3,.slice an ln cn,.slice al lb cl]
    have hz:∀i∈[w.heap.size],∀cur t,t≠51→wr.heap[i]? ≠ some (.cells cur t (0,0)):=fun i hi cur t ht=>by
      rw [List.mem_singleton.1 hi,HZ.out];simp;intro _ h;exact ht h.symm
    have hA2:∀b∈A,b<V.heap.size:=fun b hb=>by have:=HWA.out b hb;omega
    refine bodyPost_ret (results_cell_row (P:=Try.prog) (fn:=Try.f31) rfl _ _ w.heap.size 51 _ _ _ rfl (setRow_heap _ _ _ _ 51 (0,0) HZ.out) Try.underlying51 rfl size51) rfl ⟨.slice an ln cn,.slice al lb cl,by rw [HEQ.out];rfl,?_,(HVV.out _ HBV.out).trans (hon.below (HVV.out _ HBV.out).size (by simp))⟩
    rw [HEQ.out]
    exact ⟨ImmI.new (w:=V) (rows_types HNN.out hon (fun i hi cur=>hz i hi cur 2 (by decide))) hA2,ImmL.new (w:=V) (HBB.out.only hon (fun i hi cur=>⟨hz i hi cur 29 (by decide),hz i hi cur 5 (by decide)⟩)) hA2⟩
end
end Go.Proofs.Ytnicaicjgaoolaa
