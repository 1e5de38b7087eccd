/-
  What the proof of the law leans on: contracts of the program's functions, one behind another. No condition.
-/
import Derived.Test.YtnicaicjgaoolaaT30
import Derived.Test.YtnicaicjgaoolaaT3
import Derived.Test.YtnicaicjgaoolaaT26
import Derived.Test.YtnicaicjgaoolaaT18
set_option linter.unusedVariables false
set_option linter.unusedSimpArgs false
namespace Go.Proofs.Ytnicaicjgaoolaa
open Go.RowKit Go.ChangeMaps Go.WideMaps Go.Maps
set_option maxRecDepth 20000
section
variable (p:String)
def z0sx0:Oper:=⟨some 127,.move (.tmp 0),25,p,#[],none⟩
def z0sx1:Oper:=⟨some 128,.nilCheck (.tmp 127),0,p,#[⟨0,.data⟩],none⟩
def z0sx2:Oper:=⟨some 129,.fieldAddr 38 (.tmp 128) 0,0,p,#[⟨1,.data⟩],none⟩
def z0sx3:Oper:=⟨some 131,.move (.tmp 4),3,p,#[],none⟩
def z0sx4:Oper:=⟨some 134,.fieldAddr 31 (.tmp 3) 4,0,p,#[],none⟩
def z0sx5:Oper:=⟨some 135,.load 29 (.tmp 134),29,p,#[⟨7,.data⟩],none⟩
def z0sx6:Oper:=⟨some 130,.load 32 (.tmp 129),32,p,#[⟨2,.data⟩],none⟩
def z0sx7:Oper:=⟨some 132,.indexAddr 32 (.tmp 130) (.tmp 131),0,p,#[⟨3,.data⟩,⟨4,.data⟩],none⟩
def z0sx8:Oper:=⟨some 133,.load 39 (.tmp 132),39,p,#[⟨5,.data⟩],none⟩
def z0sx9:Oper:=⟨some 136,.call { callee:=Callee.value (Operand.func 16),args:=#[.tmp 133,.tmp 135],argTypes:=#[39,29]},44,p,#[⟨6,.data⟩,⟨8,.data⟩],none⟩
def z0sx10:Oper:=⟨some 126,.move (.tmp 136),44,p,#[⟨9,.data⟩],none⟩
def z0sx11:Oper:=⟨some 137,.extract (.tmp 126) 0,35,p,#[⟨10,.data⟩],none⟩
def z0sx12:Oper:=⟨some 138,.extract (.tmp 126) 1,43,p,#[⟨10,.data⟩,⟨13,.gcOnly Departure.lateStores⟩],none⟩
def z0sx13:Oper:=⟨some 7,.assign (.tmp 137),35,p,#[⟨11,.data⟩,⟨9,.chain⟩,⟨0,.phase⟩,⟨1,.phase⟩,⟨2,.phase⟩,⟨3,.phase⟩,⟨4,.phase⟩,⟨5,.phase⟩,⟨6,.phase⟩,⟨7,.phase⟩,⟨8,.phase⟩,⟨9,.phase⟩,⟨10,.phase⟩,⟨11,.phase⟩,⟨12,.textOnly Departure.lateStores⟩],none⟩
def z0sx14:Oper:=⟨some 8,.assign (.tmp 138),43,p,#[⟨12,.data⟩,⟨13,.chain⟩,⟨0,.phase⟩,⟨1,.phase⟩,⟨2,.phase⟩,⟨3,.phase⟩,⟨4,.phase⟩,⟨5,.phase⟩,⟨6,.phase⟩,⟨7,.phase⟩,⟨8,.phase⟩,⟨9,.phase⟩,⟨10,.phase⟩,⟨11,.phase⟩,⟨12,.phase⟩,⟨13,.phase⟩],none⟩
def z0sx15:Oper:=⟨some 141,.move (.tmp 0),25,p,#[],none⟩
def z0sx16:Oper:=⟨some 142,.move (.tmp 0),25,p,#[],none⟩
def z0sx17:Oper:=⟨some 143,.nilCheck (.tmp 142),0,p,#[⟨1,.data⟩],none⟩
def z0sx18:Oper:=⟨some 144,.fieldAddr 38 (.tmp 143) 4,0,p,#[⟨2,.data⟩],none⟩
def z0sx19:Oper:=⟨some 146,.fieldAddr 31 (.tmp 3) 4,0,p,#[],none⟩
def z0sx20:Oper:=⟨some 147,.load 29 (.tmp 146),29,p,#[⟨5,.data⟩],none⟩
def z0sx21:Oper:=⟨some 145,.load 36 (.tmp 144),36,p,#[⟨3,.data⟩],none⟩
def z0sx22:Oper:=⟨some 148,.buildSlice 36 1 #[(0,.tmp 147)],36,p,#[⟨6,.data⟩],none⟩
def z0sx23:Oper:=⟨some 149,.call { callee:=Callee.builtin Builtin.append,args:=#[.tmp 145,.tmp 148],argTypes:=#[36,36]},36,p,#[⟨4,.data⟩,⟨7,.data⟩],none⟩
def z0sx24:Oper:=⟨some 150,.nilCheck (.tmp 141),0,p,#[⟨0,.data⟩,⟨0,.phase⟩,⟨1,.phase⟩,⟨2,.phase⟩,⟨3,.phase⟩,⟨4,.phase⟩,⟨5,.phase⟩,⟨6,.phase⟩,⟨7,.phase⟩,⟨8,.phase⟩],none⟩
def z0sx25:Oper:=⟨some 151,.fieldAddr 38 (.tmp 150) 4,0,p,#[⟨9,.data⟩,⟨0,.phase⟩,⟨1,.phase⟩,⟨2,.phase⟩,⟨3,.phase⟩,⟨4,.phase⟩,⟨5,.phase⟩,⟨6,.phase⟩,⟨7,.phase⟩,⟨8,.phase⟩],none⟩
def z0sx26:Oper:=⟨none,.store 36 (.tmp 151) (.tmp 149),0,p,#[⟨10,.data⟩,⟨8,.data⟩,⟨8,.chain⟩,⟨0,.phase⟩,⟨1,.phase⟩,⟨2,.phase⟩,⟨3,.phase⟩,⟨4,.phase⟩,⟨5,.phase⟩,⟨6,.phase⟩,⟨7,.phase⟩,⟨8,.phase⟩],none⟩
end
attribute [go_sem,reducible] z0sx0 z0sx1 z0sx2 z0sx3 z0sx4 z0sx5 z0sx6 z0sx7 z0sx8 z0sx9 z0sx10 z0sx11 z0sx12 z0sx13 z0sx14 z0sx15 z0sx16 z0sx17 z0sx18 z0sx19 z0sx20 z0sx21 z0sx22 z0sx23 z0sx24 z0sx25 z0sx26
theorem z0sxm0 {p:Prop} (h:p:=by
 refine qr1 8 (z0sx23 _) rfl fun K hK=>?_
 unfold z0sx23
 obtain ⟨vs0,hgr⟩:=HV2.out.gave
 obtain ⟨i0,hi0,hz0,hz1,hz2⟩:=info_parts F.info29
 refine step_of_list rfl fun Q' hQ=>?_
 refine wpList_append_foot rfl (.tmp 145) (.tmp 148) 36 rfl 29 i0 (.slice none 0 0) 1 24 Try.underlying36 hi0 hz0 hz1 hz2 rfl (by decide) (.slice ag S2.gn cg) S2.gn vs0 (by rfl) hgr (some ⟨V1.heap.size,0,none⟩) 1 1 (by rfl) (fun e=>by cases e) [.slice ba bl bc] (by rfl) (src1 HH2) (fun u hu=>by rw [List.mem_singleton.1 hu];rfl) (by unfold maxLen;have:=HGN.out;omega) (by have:=HGN.out;omega) ?_
 intro v3 V3 hr3 ho3 hf3
 obtain ⟨a3,c3,e3,_⟩:=rows_form hr3
 subst e3
 have hk3:=HK.out _ _ (hMV2.mono (fun b hb=>by cases hb) |>.trans ho3) HMG.out
 refine hQ _ _ ?_
 clear hQ Q'
 refine hK.out _ _ hk3 (fun hHeld=>?_)
 clear hK K
 refine qsp ?_
 have HF:=Lib.hid (SyP.trans HMV2.out (HV2.out.setg HZ2.out hr3 ho3 hf3))
 have hc3:=ho3.keeps HV2.out.cell HCG.out
 clear hr3 ho3 hf3 hgr hk3
 refine qtl 9 (z0sx24 _) rfl ?_
 refine qtl 10 (z0sx25 _) rfl ?_
 refine qr1 11 (z0sx26 _) rfl fun K hK=>?_
 unfold z0sx26
 have hy4:V3.cell? ⟨c,4,none⟩=some (.slice ag S2.gn cg):=by rw [cell_heap hc3];rfl
 have hz4:=free_heap hc3 4
 go_simp
 clear hy4 hz4
 have hk4s:=((Only.refl [c] V3).setCell (p:=⟨c,4,none⟩) (by simp) (.slice a3 (S2.gn+1) c3)).cell hHeld (by simpa using HMC.out)
 refine hK.out _ _ hk4s (fun hHeld=>?_)
 clear hK K
 refine qsp ?_
 refine qdn ?_
 clear hHeld
 go_wp2_with fail
 go_meet
 exact HF.out):p:=h
def Mn.submit (S:Mn) (i:Nat) (rec:List UInt8):Mn :=
 if (S.at i).up then
  let p:=submitM (S.at i).s (S.at i).k rec
  let S1:=S.set i ⟨p.2.2.1,p.2.2.2,true⟩
  (if p.2.1=0 then { S1 with gn:=S1.gn+1 } else S1).send p.1
 else S
section
variable {w w':World} {A A' Y Z Z':List Nat} {c n cl:Nat} {S:Mn} {rs ds ls:Nat→Nat} {Xs:Nat→List Nat} {vr vd:Value} {gu:Nat} {qv gv lv:Value}
set_option maxHeartbeats 4000000 in
theorem do_submit (h:Sy w A Z c n S) (hi:SInv n cl S) (N K P:Int) (ba:Option Addr) (bl bc:Nat) (rec:List UInt8) (hb:ImmZ w A (.slice ba bl bc) rec) (hbl:bl=rec.length) (hb2:bl≤1000000) (hgn:S.gn≤1000000) (hn:1≤n) :
  Calls Try.prog 11 #[.pointer (some ⟨c,0,none⟩),.agg #[.int .i64 6,.int .i64 N,.int .i64 K,.int .i64 P,.slice ba bl bc]] w fun e w'=>e = .returned (.tuple #[])∧SyP w w' A Z c n (S.submit (actI N n) rec):=by
 have HIB0:=Lib.hid hb
 have HBL:=Lib.hid hbl
 have HGN0:=Lib.hid hgn
 have HZA:=Lib.hid h.zA
 clear hb hbl hgn
 have hbw:Below w.heap.size w (w.alloc (.cells #[.int .i64 6,.int .i64 N,.int .i64 K,.int .i64 P,.slice ba bl bc] 31)):=(Below.refl _ _).alloc (Nat.le_refl _) _
 have hbx:=heap_new w (.cells #[.int .i64 6,.int .i64 N,.int .i64 K,.int .i64 P,.slice ba bl bc] 31)
 have hs1:=h.below hbw
 have HM0:Hid (Mv A A Z Z w (w.alloc (.cells #[.int .i64 6,.int .i64 N,.int .i64 K,.int .i64 P,.slice ba bl bc] 31))):=Lib.hid (Mv.below hbw)
 have HMA:Hid (w.heap.size∉A):=Lib.hid (fun hb=>by have:=h.alt _ hb;omega)
 obtain ⟨hq1,hq2⟩:=actI_ok N n hn
 have HQ1:=Lib.hid hq1
 obtain ⟨Y,rs,ds,ls,Xs,vr,vd,gu,qv,gv,lv,hs,hz⟩:=hs1
 obtain ⟨gr,kr,evr,hkr,hrow⟩:=ptr_cell hs.rr (by omega)
 subst evr
 obtain ⟨gd,kd,evd,hkd,hrowd⟩:=ptr_cell hs.dr (by omega)
 subst evd
 have hc0:(w.alloc (.cells #[.int .i64 6,.int .i64 N,.int .i64 K,.int .i64 P,.slice ba bl bc] 31)).cell? ⟨c,0,none⟩=some (.slice (some ⟨gr,0,none⟩) n kr):=by rw [cell_heap hs.cell];rfl
 have hc1:(w.alloc (.cells #[.int .i64 6,.int .i64 N,.int .i64 K,.int .i64 P,.slice ba bl bc] 31)).cell? ⟨c,1,none⟩=some (.slice (some ⟨gd,0,none⟩) n kd):=by rw [cell_heap hs.cell];rfl
 have hc2:(w.alloc (.cells #[.int .i64 6,.int .i64 N,.int .i64 K,.int .i64 P,.slice ba bl bc] 31)).cell? ⟨c,2,none⟩=some (.slice (some ⟨gu,0,none⟩) n n):=by rw [cell_heap hs.cell];rfl
 have hk0:(w.alloc (.cells #[.int .i64 6,.int .i64 N,.int .i64 K,.int .i64 P,.slice ba bl bc] 31)).cell? ⟨w.heap.size,0,none⟩=some (.int .i64 6):=by rw [cell_heap hbx];rfl
 have hk1:(w.alloc (.cells #[.int .i64 6,.int .i64 N,.int .i64 K,.int .i64 P,.slice ba bl bc] 31)).cell? ⟨w.heap.size,1,none⟩=some (.int .i64 N):=by rw [cell_heap hbx];rfl
 have hk2:(w.alloc (.cells #[.int .i64 6,.int .i64 N,.int .i64 K,.int .i64 P,.slice ba bl bc] 31)).cell? ⟨w.heap.size,2,none⟩=some (.int .i64 K):=by rw [cell_heap hbx];rfl
 have hk3:(w.alloc (.cells #[.int .i64 6,.int .i64 N,.int .i64 K,.int .i64 P,.slice ba bl bc] 31)).cell? ⟨w.heap.size,3,none⟩=some (.int .i64 P):=by rw [cell_heap hbx];rfl
 have hk4:(w.alloc (.cells #[.int .i64 6,.int .i64 N,.int .i64 K,.int .i64 P,.slice ba bl bc] 31)).cell? ⟨w.heap.size,4,none⟩=some (.slice ba bl bc):=by rw [cell_heap hbx];rfl
 have hrd:=hrowd _ hq2
 have hrq:=hrow _ hq2
 have HS:=Lib.hid hs
 have HZ:=Lib.hid hz
 have HI:=Lib.hid hi
 have HML:Hid (w.heap.size<(w.alloc (.cells #[.int .i64 6,.int .i64 N,.int .i64 K,.int .i64 P,.slice ba bl bc] 31)).heap.size):=Lib.hid (by simp)
 have HIBW:Hid (ImmZ (w.alloc (.cells #[.int .i64 6,.int .i64 N,.int .i64 K,.int .i64 P,.slice ba bl bc] 31)) A (.slice ba bl bc) rec):=Lib.hid (HIB0.out.below hbw)
 clear hs hz h hi hbw hbx hrow hrowd
 generalize actI N n=q at *
 go_enter Try.func11,Try.ntmps11
 go_upto_region 1 with (fail)
 generalize w.alloc (.cells #[.int .i64 6,.int .i64 N,.int .i64 K,.int .i64 P,.slice ba bl bc] 31)=W at *
 generalize w.heap.size=M at *
 go_cut [4] (fun v wx=>v = .int .i64 (q:Int)∧∃nq,wx=W.drewN nq)
 case first =>
  go_quiet (fail)
  go_wp2_with fail
  go_meet
  exact ⟨by rw [←HQ1.out],nq,rfl⟩
 case rest =>
 obtain ⟨rfl,nq,rfl⟩:=hcut
 have hb1:=below_drewN W nq
 have HS1:=Lib.hid (HS.out.below hb1)
 have M1:Hid (Mv A A Z Z w (W.drewN nq)):=Lib.hid (HM0.out.trans (Mv.below hb1))
 have hup:=HS1.out.upAt q hq2
 have hc0:(W.drewN nq).cell? ⟨c,0,none⟩=some (.slice (some ⟨gr,0,none⟩) n kr):=hc0
 have hc1:(W.drewN nq).cell? ⟨c,1,none⟩=some (.slice (some ⟨gd,0,none⟩) n kd):=hc1
 have hc2:(W.drewN nq).cell? ⟨c,2,none⟩=some (.slice (some ⟨gu,0,none⟩) n n):=hc2
 have hk0:(W.drewN nq).cell? ⟨M,0,none⟩=some (.int .i64 6):=hk0
 have hk1:(W.drewN nq).cell? ⟨M,1,none⟩=some (.int .i64 N):=hk1
 have hk2:(W.drewN nq).cell? ⟨M,2,none⟩=some (.int .i64 K):=hk2
 have hk3:(W.drewN nq).cell? ⟨M,3,none⟩=some (.int .i64 P):=hk3
 have hk4:(W.drewN nq).cell? ⟨M,4,none⟩=some (.slice ba bl bc):=hk4
 have hrd:(W.drewN nq).cell? ⟨gd,q,none⟩=some (.pointer (some ⟨ds q,0,none⟩)):=hrd
 have hrq:(W.drewN nq).cell? ⟨gr,q,none⟩=some (.pointer (some ⟨rs q,0,none⟩)):=hrq
 have HML:Hid (M<(W.drewN nq).heap.size):=Lib.hid HML.out
 have hq3:(q:Int)<(n:Int):=by omega
 clear hb1 HS HM0 hq1 HQ1
 have HIBW:Hid (ImmZ (W.drewN nq) A (.slice ba bl bc) rec):=Lib.hid (HIBW.out.below (below_drewN W nq))
 generalize W.drewN nq=W1 at *
 have HIB:Hid (ImmZ W1 A (.slice ba bl bc) rec):=HIBW
 cases hupq:(S.at q).up with
 | false =>
  rw [hupq] at hup
  have HF:Hid (SyP w W1 A Z c n (S.submit q rec)):=Lib.hid (by
   unfold Mn.submit
   rw [hupq]
   exact (⟨_,_,_,_,_,_,_,_,_,_,_,HS1.out,HZ.out⟩:Sy _ A Z c n S).syp M1.out)
  go_wp2_with fail
  go_end0
  exact ⟨rfl,HF.out⟩
 | true =>
  rw [hupq] at hup
  obtain ⟨hwf,hck⟩:=HI.out.wf q hq2 hupq
  have HIDJ:=Lib.hid (HI.out.id q hq2)
  have HOUT:=Lib.hid (out_submit hwf rec)
  have HSE:Hid (S.submit q rec=(if (submitM (S.at q).s (S.at q).k rec).2.1=0 then { (S.set q ⟨(submitM (S.at q).s (S.at q).k rec).2.2.1,(submitM (S.at q).s (S.at q).k rec).2.2.2,true⟩) with gn:=S.gn+1 } else S.set q ⟨(submitM (S.at q).s (S.at q).k rec).2.2.1,(submitM (S.at q).s (S.at q).k rec).2.2.2,true⟩).send (submitM (S.at q).s (S.at q).k rec).1):=Lib.hid (by unfold Mn.submit;rw [hupq];rfl)
  have hs1d:SyC W1.drew A Y c n S rs ds ls Xs _ _ gu qv gv lv:=HS1.out.below (below_drewN W1 1)
  have hibd:ImmZ W1.drew A (.slice ba bl bc) rec:=HIB.out.below (below_drewN W1 1)
  have HSB:=Lib.hid ((submit_z ((hs1d.node q hq2).up hupq) hwf ba bl bc rec hibd HBL.out hb2).mono (fun e w' hp=>hs1d.sbp HZ.out hq2 hupq hp))
  have hMZ:Hid (M∉Z):=Lib.hid (fun hm=>HMA.out (HZA.out _ hm))
  have HK:Hid (∀T w2,Only T W1.drew w2→M∉T→w2.cell? ⟨M,4,none⟩=some (.slice ba bl bc)):=Lib.hid (fun T w2 ho e=>ho.cell (show W1.drew.cell? ⟨M,4,none⟩=_ from hk4) e)
  have HG3:Hid (∀x∈(submitM (S.at q).s (S.at q).k rec).1,x.frm=(q:Int)∧(x.dst==(q:Int))=false∧0≤x.dst∧x.dst<(n:Int)):=Lib.hid (by
   have h9:=HOUT.out.ms
   rw [HIDJ.out.1,HIDJ.out.2] at h9
   exact send_good h9)
  have HQL:Hid (S.q.length≤2000):=Lib.hid HI.out.ql
  have hkM:W1.drew.cell? ⟨M,4,none⟩=some (.slice ba bl bc):=hk4
  have hy0:W1.drew.cell? ⟨c,0,none⟩=some (.slice (some ⟨gr,0,none⟩) n kr):=hc0
  have hyr:W1.drew.cell? ⟨gr,q,none⟩=some (.pointer (some ⟨rs q,0,none⟩)):=hrq
  clear hwf hck HOUT hs1d hibd
  generalize submitM (S.at q).s (S.at q).k rec=p at *
  obtain ⟨ms,err,s',k'⟩:=p
  (try simp only at HSB);(try simp only at HSE);(try simp only at HG3)
  go_upto_region 19 with (fail)
  go_cut [7,8] (fun v e8 wx=>e8 = .int .i64 err∧∃A2 Z2,Sy wx A2 Z2 c n (S.set q ⟨s',k',true⟩)∧MsRow wx A2 v ms∧Mv A A2 Z Z2 W1.drew wx)
  case first =>
   as_aux_lemma =>
   refine wp_region_held_drew (S:=fun w'=>w'.cell? ⟨M,4,none⟩=some (.slice ba bl bc)) (by kernel_rfl) hk4 (fun hHeld=>?_)
   refine qtl 0 (z0sx0 _) rfl ?_
   refine qtl 1 (z0sx1 _) rfl ?_
   refine qtl 2 (z0sx2 _) rfl ?_
   refine qtl 4 (z0sx3 _) rfl ?_
   refine qtl 7 (z0sx4 _) rfl ?_
   refine qtl 8 (z0sx5 _) rfl ?_
   generalize W1.drew=V1 at *
   refine qr1 3 (z0sx6 _) rfl fun K hK=>?_
   unfold z0sx6
   go_simp
   refine hK.out _ _ hHeld (fun hHeld=>?_)
   clear hK K
   refine qsp ?_
   refine qtl 5 (z0sx7 _) rfl ?_
   refine qr1 6 (z0sx8 _) rfl fun K hK=>?_
   unfold z0sx8
   go_simp
   refine hK.out _ _ hHeld (fun hHeld=>?_)
   clear hK K
   refine qsp ?_
   refine qr1 9 (z0sx9 _) rfl fun K hK=>?_
   unfold z0sx9
   go_simp
   refine HSB.out.mono ?_
   rintro e W2 ⟨v2,A2,Z2,rfl,hs2,hr2,hm2⟩
   have HS2:=Lib.hid hs2
   have HR2:=Lib.hid hr2
   have HM2:=Lib.hid hm2
   have hk19:=HK.out _ _ hm2.mv.only hMZ.out
   clear hs2 hr2 hm2
   go_wp2_with fail
   refine hK.out _ _ hk19 (fun hHeld=>?_)
   clear hK K
   refine qsp ?_
   clear hk19
   refine qtl 10 (z0sx10 _) rfl ?_
   refine qtl 11 (z0sx11 _) rfl ?_
   refine qtl 12 (z0sx12 _) rfl ?_
   refine qtl 13 (z0sx13 _) rfl ?_
   refine qtl 14 (z0sx14 _) rfl ?_
   refine qdn ?_
   clear hHeld
   go_wp2_with fail
   go_meet
   exact ⟨rfl,A2,Z2,HS2.out,HR2.out,HM2.out⟩
  case rest =>
  obtain ⟨rfl,A2,Z2,hs2,hr2,hm2⟩:=hcut

  rename World=>W2
  have HS2:=Lib.hid hs2
  have HR2:=Lib.hid hr2
  have HM2:Hid (Mv A A2 Z Z2 w W2):=Lib.hid ((M1.out.trans (Mv.below (below_drewN W1 1))).trans hm2)
  have HKM:Hid (W2.cell? ⟨M,4,none⟩=some (.slice ba bl bc)):=Lib.hid (HK.out _ _ hm2.mv.only hMZ.out)
  have HMZ2:Hid (M∉Z2):=Lib.hid (fun hm=>by
   rcases hm2.mv.gr _ hm with h1 | h1
   ·exact hMZ.out h1
   ·have:W1.drew.heap.size=W1.heap.size:=rfl
    have:=HML.out;omega)
  clear hs2 hr2 hm2 hup hc0 hc1 hc2 hk0 hk1 hk2 hk3 hk4 hrd hrq hkM hy0 hyr
  by_cases herr:err=0
  ·subst herr
   rw [if_pos rfl] at HSE
   generalize hS2:S.set q ⟨s',k',true⟩=S2 at *
   have HG2:Hid (S2.gn=S.gn∧S2.q=S.q):=Lib.hid (by rw [←hS2];exact ⟨rfl,rfl⟩)
   clear hS2
   obtain ⟨Y2,rs2,ds2,ls2,Xs2,vr2,vd2,gu2,qv2,gv2,lv2,hs2,hz2⟩:=HS2.out
   obtain ⟨vs2,hg2⟩:=hs2.gave
   obtain ⟨ag,cg,e9,_⟩:=rows_form hg2
   subst e9
   have HV0:=Lib.hid hs2
   have HZ2:=Lib.hid hz2
   have HGN:Hid (S2.gn≤1000000):=Lib.hid (by rw [HG2.out.1];exact HGN0.out)
   have HCG:Hid (c∉(Value.slice ag S2.gn cg).ownBlock.toList):=Lib.hid (fun hm=>by
    have:=rows_at hg2 (show (Value.slice ag S2.gn cg).ownBlock=some c by simpa using hm)
    rw [hs2.cell] at this;simp at this)
   have HMG:Hid (M∉(Value.slice ag S2.gn cg).ownBlock.toList):=Lib.hid (fun hm=>HMZ2.out ((hz2 M).2 (.inl (hs2.gY M (by simpa using hm)))))
   have HMC:Hid (M≠c):=Lib.hid (fun e=>HMZ2.out ((hz2 M).2 (.inl (by rw [e];exact hs2.cY))))
   clear hs2 hz2 hg2 HK
   go_upto_region 21 with (fail)
   have HV:Hid (SyC W2.drew A2 Y2 c n S2 rs2 ds2 ls2 Xs2 vr2 vd2 gu2 qv2 (.slice ag S2.gn cg) lv2):=Lib.hid (HV0.out.below (below_drewN W2 1))
   have HK:Hid (∀T w2,Only T W2.drew w2→M∉T→w2.cell? ⟨M,4,none⟩=some (.slice ba bl bc)):=Lib.hid (fun T w2 ho e=>ho.cell (show W2.drew.cell? ⟨M,4,none⟩=_ from HKM.out) e)
   have hk4:W2.drew.cell? ⟨M,4,none⟩=some (.slice ba bl bc):=HKM.out
   have HMM:Hid (Mv A2 A2 Z2 Z2 W2 W2.drew):=Lib.hid (Mv.below (below_drewN W2 1))
   go_cut [] (fun wx=>SyP W2.drew wx A2 Z2 c n { S2 with gn:=S2.gn+1 })
   case first =>
    as_aux_lemma =>
    refine wp_region_held_drew (S:=fun w'=>w'.cell? ⟨M,4,none⟩=some (.slice ba bl bc)) (by kernel_rfl) hk4 (fun hHeld=>?_)
    refine qtl 0 (z0sx15 _) rfl ?_
    refine qtl 1 (z0sx16 _) rfl ?_
    refine qtl 2 (z0sx17 _) rfl ?_
    refine qtl 3 (z0sx18 _) rfl ?_
    refine qtl 5 (z0sx19 _) rfl ?_
    refine qtl 6 (z0sx20 _) rfl ?_
    generalize W2.drew=V1 at *
    refine qr2 4 7 (z0sx21 _) (z0sx22 _) rfl rfl (fun K hK=>?_) fun K hK=>?_
    ·unfold z0sx21
     have hy4:V1.cell? ⟨c,4,none⟩=some (.slice ag S2.gn cg):=by rw [cell_heap HV.out.cell];rfl
     go_simp
     clear hy4
     refine hK.out _ _ hHeld (fun hHeld=>?_)
     clear hK K
     refine qsp ?_
     refine qr1 7 (z0sx22 _) rfl fun K hK=>?_
     unfold z0sx22
     go_simp
     refine hK.out _ _ (HK.out [] _ (Only.ofBelow ((Below.refl _ _).alloc (Nat.le_refl _) (.cells #[.slice ba bl bc] 29)) []) (fun h=>by cases h)) (fun hHeld=>?_)
     clear hK K
     refine qsp ?_
     have HV2:=Lib.hid (HV.out.below ((Below.refl _ _).alloc (Nat.le_refl _) (.cells #[.slice ba bl bc] 29)))
     have HH2:=heap_new V1 (.cells #[.slice ba bl bc] 29)
     have HMV2:Hid (Mv A2 A2 Z2 Z2 V1 (V1.alloc (.cells #[.slice ba bl bc] 29))):=Lib.hid (Mv.below ((Below.refl _ _).alloc (Nat.le_refl _) (.cells #[.slice ba bl bc] 29)))
     have hMV2:Only [] V1 (V1.alloc (.cells #[.slice ba bl bc] 29)):=Only.ofBelow ((Below.refl _ _).alloc (Nat.le_refl _) (.cells #[.slice ba bl bc] 29)) []
     generalize hV2:V1.alloc (.cells #[.slice ba bl bc] 29)=V2 at *
     clear hV2
     exact z0sxm0
    ·unfold z0sx22
     go_simp
     refine hK.out _ _ (HK.out [] _ (Only.ofBelow ((Below.refl _ _).alloc (Nat.le_refl _) (.cells #[.slice ba bl bc] 29)) []) (fun h=>by cases h)) (fun hHeld=>?_)
     clear hK K
     refine qsp ?_
     have HV2:=Lib.hid (HV.out.below ((Below.refl _ _).alloc (Nat.le_refl _) (.cells #[.slice ba bl bc] 29)))
     have HH2:=heap_new V1 (.cells #[.slice ba bl bc] 29)
     have HMV2:Hid (Mv A2 A2 Z2 Z2 V1 (V1.alloc (.cells #[.slice ba bl bc] 29))):=Lib.hid (Mv.below ((Below.refl _ _).alloc (Nat.le_refl _) (.cells #[.slice ba bl bc] 29)))
     have hMV2:Only [] V1 (V1.alloc (.cells #[.slice ba bl bc] 29)):=Only.ofBelow ((Below.refl _ _).alloc (Nat.le_refl _) (.cells #[.slice ba bl bc] 29)) []
     generalize hV2:V1.alloc (.cells #[.slice ba bl bc] 29)=V2 at *
     clear hV2
     refine qr1 4 (z0sx21 _) rfl fun K hK=>?_
     unfold z0sx21
     have hy4:V2.cell? ⟨c,4,none⟩=some (.slice ag S2.gn cg):=by rw [cell_heap HV2.out.cell];rfl
     go_simp
     clear hy4
     refine hK.out _ _ hHeld (fun hHeld=>?_)
     clear hK K
     refine qsp ?_
     exact z0sxm0
   case rest =>
   obtain ⟨A5,Z5,h5,m5⟩:=hcut
   rename World=>W5
   have HR5:=Lib.hid (HR2.out.step (HMM.out.trans m5).mv.only HS2.out.zA (HMM.out.trans m5).ext)
   have H5:=Lib.hid h5
   have M5:=Lib.hid ((HM2.out.trans HMM.out).trans m5)
   have HQ5:Hid (({ S2 with gn:=S2.gn+1 }:Mn).q.length≤2000):=Lib.hid (by show S2.q.length≤2000;rw [HG2.out.2];exact HQL.out)
   clear h5 m5
   go_wp2_with fail
   refine (send_any H5.out HQ5.out u7 _ HR5.out q HG3.out).mono ?_
   rintro e W6 ⟨rfl,hs6⟩
   have HF:Hid (SyP w W6 A Z c n (S.submit q rec)):=Lib.hid (by
    rw [HSE.out,←HG2.out.1]
    exact SyP.trans M5.out hs6)
   clear hs6
   go_wp2_with fail
   go_end0
   exact ⟨rfl,HF.out⟩
  ·rw [if_neg herr] at HSE
   have herr2:(err==0)=false:=by simpa using herr
   clear herr
   go_wp2_with fail
   refine (send_any HS2.out (by exact HQL.out) u7 _ HR2.out q HG3.out).mono ?_
   rintro e W6 ⟨rfl,hs6⟩
   have HF:Hid (SyP w W6 A Z c n (S.submit q rec)):=Lib.hid (by
    rw [HSE.out]
    exact SyP.trans HM2.out hs6)
   clear hs6
   go_wp2_with fail
   go_end0
   exact ⟨rfl,HF.out⟩
end
end Go.Proofs.Ytnicaicjgaoolaa
namespace Go.Proofs.Ytnicaicjgaoolaa
open Go.RowKit Go.ChangeMaps Go.WideMaps Go.Maps
set_option maxRecDepth 20000
section
variable (p:String)
def z0tx0:Oper:=⟨some 201,.move (.tmp 0),25,p,#[],none⟩
def z0tx1:Oper:=⟨some 203,.move (.tmp 0),25,p,#[],none⟩
def z0tx2:Oper:=⟨some 204,.nilCheck (.tmp 203),0,p,#[⟨2,.data⟩],none⟩
def z0tx3:Oper:=⟨some 205,.fieldAddr 38 (.tmp 204) 3,0,p,#[⟨3,.data⟩],none⟩
def z0tx4:Oper:=⟨some 207,.move (.tmp 9),3,p,#[],none⟩
def z0tx5:Oper:=⟨some 210,.move (.tmp 0),25,p,#[],none⟩
def z0tx6:Oper:=⟨some 211,.nilCheck (.tmp 210),0,p,#[⟨9,.data⟩],none⟩
def z0tx7:Oper:=⟨some 212,.fieldAddr 38 (.tmp 211) 3,0,p,#[⟨10,.data⟩],none⟩
def z0tx8:Oper:=⟨some 214,.move (.tmp 9),3,p,#[],none⟩
def z0tx9:Oper:=⟨some 215,.binOp BinOp.add 3 (.tmp 214) (Operand.const (Value.int IntKind.i64 1)) 3,3,p,#[⟨13,.data⟩],none⟩
def z0tx10:Oper:=⟨some 202,.buildSlice 35 0 #[],35,p,#[],none⟩
def z0tx11:Oper:=⟨some 206,.load 35 (.tmp 205),35,p,#[⟨4,.data⟩],none⟩
def z0tx12:Oper:=⟨some 213,.load 35 (.tmp 212),35,p,#[⟨11,.data⟩],none⟩
def z0tx13:Oper:=⟨some 208,.slice 35 (.tmp 206) none (some (.tmp 207)) none,35,p,#[⟨5,.data⟩,⟨6,.data⟩],none⟩
def z0tx14:Oper:=⟨some 209,.call { callee:=Callee.builtin Builtin.append,args:=#[.tmp 202,.tmp 208],argTypes:=#[35,35]},35,p,#[⟨1,.data⟩,⟨7,.data⟩],none⟩
def z0tx15:Oper:=⟨some 216,.slice 35 (.tmp 213) (some (.tmp 215)) none none,35,p,#[⟨12,.data⟩,⟨14,.data⟩],none⟩
def z0tx16:Oper:=⟨some 217,.call { callee:=Callee.builtin Builtin.append,args:=#[.tmp 209,.tmp 216],argTypes:=#[35,35]},35,p,#[⟨8,.data⟩,⟨15,.data⟩,⟨8,.chain⟩],none⟩
def z0tx17:Oper:=⟨some 218,.nilCheck (.tmp 201),0,p,#[⟨0,.data⟩,⟨0,.phase⟩,⟨1,.phase⟩,⟨2,.phase⟩,⟨3,.phase⟩,⟨4,.phase⟩,⟨5,.phase⟩,⟨6,.phase⟩,⟨7,.phase⟩,⟨8,.phase⟩,⟨9,.phase⟩,⟨10,.phase⟩,⟨11,.phase⟩,⟨12,.phase⟩,⟨13,.phase⟩,⟨14,.phase⟩,⟨15,.phase⟩,⟨16,.phase⟩],none⟩
def z0tx18:Oper:=⟨some 219,.fieldAddr 38 (.tmp 218) 3,0,p,#[⟨17,.data⟩,⟨0,.phase⟩,⟨1,.phase⟩,⟨2,.phase⟩,⟨3,.phase⟩,⟨4,.phase⟩,⟨5,.phase⟩,⟨6,.phase⟩,⟨7,.phase⟩,⟨8,.phase⟩,⟨9,.phase⟩,⟨10,.phase⟩,⟨11,.phase⟩,⟨12,.phase⟩,⟨13,.phase⟩,⟨14,.phase⟩,⟨15,.phase⟩,⟨16,.phase⟩],none⟩
def z0tx19:Oper:=⟨none,.store 35 (.tmp 219) (.tmp 217),0,p,#[⟨18,.data⟩,⟨16,.data⟩,⟨16,.chain⟩,⟨0,.phase⟩,⟨1,.phase⟩,⟨2,.phase⟩,⟨3,.phase⟩,⟨4,.phase⟩,⟨5,.phase⟩,⟨6,.phase⟩,⟨7,.phase⟩,⟨8,.phase⟩,⟨9,.phase⟩,⟨10,.phase⟩,⟨11,.phase⟩,⟨12,.phase⟩,⟨13,.phase⟩,⟨14,.phase⟩,⟨15,.phase⟩,⟨16,.phase⟩],none⟩
end
attribute [go_sem,reducible] z0tx0 z0tx1 z0tx2 z0tx3 z0tx4 z0tx5 z0tx6 z0tx7 z0tx8 z0tx9 z0tx10 z0tx11 z0tx12 z0tx13 z0tx14 z0tx15 z0tx16 z0tx17 z0tx18 z0tx19
theorem z0txm0 {p:Prop} (h:p:=by
 refine qr1 16 (z0tx16 _) rfl fun K hK=>?_
 unfold z0tx16
 refine step_of_list rfl fun Q' hQ=>?_
 refine wpList_app35 rfl (.tmp 209) (.tmp 216) rfl (by rfl) (by rfl) HR2.out ?_
 refine hQ _ _ ?_
 clear hQ Q'
 have hk6:=HO2.out.cell HC3V.out (by simp)
 refine hK.out _ _ trivial (fun hHeld=>?_)
 clear hK K
 refine qsp ?_
 have hc6:=HO2.out.keeps HV.out.cell (by simp)
 refine qtl 17 (z0tx17 _) rfl ?_
 refine qtl 18 (z0tx18 _) rfl ?_
 refine qr1 19 (z0tx19 _) rfl fun K hK=>?_
 unfold z0tx19
 have hz6:=free_heap hc6 3
 go_simp
 clear hz6 hk6
 refine hK.out _ _ trivial (fun hHeld=>?_)
 clear hK K
 refine qsp ?_
 refine qdn ?_
 clear hHeld
 go_wp2_with fail
 all_goals (go_meet;rw [HLE.out];exact HV.out.setq HZ.out HQP.out)):p:=h
theorem z0txm1 {p:Prop} (h:p:=by
 refine qr1 8 (z0tx14 _) rfl fun K hK=>?_
 unfold z0tx14
 refine step_of_list rfl fun Q' hQ=>?_
 refine wpList_app35 rfl (.tmp 202) (.tmp 208) rfl (by rfl) (by rfl) hr1 ?_
 refine hQ _ _ ?_
 clear hQ Q'
 refine hK.out _ _ trivial (fun hHeld=>?_)
 clear hK K
 refine qsp ?_
 clear hr1 ho1
 exact z0txm0):p:=h
theorem z0txm2 {p:Prop} (h:p:=by
 refine qr2 8 12 (z0tx14 _) (z0tx12 _) rfl rfl (fun K hK=>?_) fun K hK=>?_
 ·unfold z0tx14
  refine step_of_list rfl fun Q' hQ=>?_
  refine wpList_app35 rfl (.tmp 202) (.tmp 208) rfl (by rfl) (by rfl) hr1 ?_
  refine hQ _ _ ?_
  clear hQ Q'
  refine hK.out _ _ trivial (fun hHeld=>?_)
  clear hK K
  refine qsp ?_
  clear hr1 ho1
  refine qr1 12 (z0tx12 _) rfl fun K hK=>?_
  unfold z0tx12
  have hyl:=HK5.out
  go_simp
  clear hyl
  refine hK.out _ _ trivial (fun hHeld=>?_)
  clear hK K
  refine qsp ?_
  refine qtl 15 (z0tx15 _) rfl ?_
  exact z0txm0
 ·unfold z0tx12
  have hyl:=HC4.out
  go_simp
  clear hyl
  refine hK.out _ _ trivial (fun hHeld=>?_)
  clear hK K
  refine qsp ?_
  refine qtl 15 (z0tx15 _) rfl ?_
  exact z0txm1):p:=h
theorem z0txm3 {p:Prop} (h:p:=by
 refine qr1 1 (z0tx10 _) rfl fun K hK=>?_
 unfold z0tx10
 go_simp
 refine hK.out _ _ trivial (fun hHeld=>?_)
 clear hK K
 refine qsp ?_
 generalize hV4:V3.alloc (.cells #[] 51)=V4 at *
 clear hV4
 obtain ⟨p1,n1,c1,W5,hr1,ho1,p2,n2,c2,W6,hr2,ho2,hqp⟩:=HLP.out.ex
 have HQP:=Lib.hid hqp
 have HO2:=Lib.hid ho2
 rw [HE9.out] at hr2
 have HR2:=Lib.hid hr2
 have HK5:=Lib.hid (ho1.cell (HC4.out) HCV.out)
 clear hqp ho2 hr2
 exact z0txm1):p:=h
theorem z0txm4 {p:Prop} (h:p:=by
 refine qr1 5 (z0tx11 _) rfl fun K hK=>?_
 unfold z0tx11
 have hyl:=HC4.out
 go_simp
 clear hyl
 refine hK.out _ _ trivial (fun hHeld=>?_)
 clear hK K
 refine qsp ?_
 refine qtl 7 (z0tx13 _) rfl ?_
 exact z0txm1):p:=h
section
variable {w w':World} {A A' Y Z Z':List Nat} {c n cl:Nat} {S:Mn} {rs ds ls:Nat→Nat} {Xs:Nat→List Nat} {vr vd:Value} {gu:Nat} {qv gv lv:Value}
set_option maxHeartbeats 4000000 in
theorem do_fetch (h:Sy w A Z c n S) (hi:SInv n cl S) (N K P:Int) (ba:Option Addr) (bl bc:Nat) (hn:1≤n) :
  Calls Try.prog 11 #[.pointer (some ⟨c,0,none⟩),.agg #[.int .i64 1,.int .i64 N,.int .i64 K,.int .i64 P,.slice ba bl bc]] w fun e w'=>e = .returned (.tuple #[])∧SyP w w' A Z c n (S.fetch K):=by
 have HZA:=Lib.hid h.zA
 have hbw:Below w.heap.size w (w.alloc (.cells #[.int .i64 1,.int .i64 N,.int .i64 K,.int .i64 P,.slice ba bl bc] 31)):=(Below.refl _ _).alloc (Nat.le_refl _) _
 have hbx:=heap_new w (.cells #[.int .i64 1,.int .i64 N,.int .i64 K,.int .i64 P,.slice ba bl bc] 31)
 have hs1:=h.below hbw
 have HM0:Hid (Mv A A Z Z w (w.alloc (.cells #[.int .i64 1,.int .i64 N,.int .i64 K,.int .i64 P,.slice ba bl bc] 31))):=Lib.hid (Mv.below hbw)
 have HMA:Hid (w.heap.size∉A):=Lib.hid (fun hb=>by have:=h.alt _ hb;omega)
 obtain ⟨hq1,hq2⟩:=actI_ok N n hn
 have HQ1:=Lib.hid hq1
 obtain ⟨Y,rs,ds,ls,Xs,vr,vd,gu,qv,gv,lv,hs,hz⟩:=hs1
 obtain ⟨gr,kr,evr,hkr,hrow⟩:=ptr_cell hs.rr (by omega)
 subst evr
 obtain ⟨gd,kd,evd,hkd,hrowd⟩:=ptr_cell hs.dr (by omega)
 subst evd
 have hc0:(w.alloc (.cells #[.int .i64 1,.int .i64 N,.int .i64 K,.int .i64 P,.slice ba bl bc] 31)).cell? ⟨c,0,none⟩=some (.slice (some ⟨gr,0,none⟩) n kr):=by rw [cell_heap hs.cell];rfl
 have hc1:(w.alloc (.cells #[.int .i64 1,.int .i64 N,.int .i64 K,.int .i64 P,.slice ba bl bc] 31)).cell? ⟨c,1,none⟩=some (.slice (some ⟨gd,0,none⟩) n kd):=by rw [cell_heap hs.cell];rfl
 have hc2:(w.alloc (.cells #[.int .i64 1,.int .i64 N,.int .i64 K,.int .i64 P,.slice ba bl bc] 31)).cell? ⟨c,2,none⟩=some (.slice (some ⟨gu,0,none⟩) n n):=by rw [cell_heap hs.cell];rfl
 have hk0:(w.alloc (.cells #[.int .i64 1,.int .i64 N,.int .i64 K,.int .i64 P,.slice ba bl bc] 31)).cell? ⟨w.heap.size,0,none⟩=some (.int .i64 1):=by rw [cell_heap hbx];rfl
 have hk1:(w.alloc (.cells #[.int .i64 1,.int .i64 N,.int .i64 K,.int .i64 P,.slice ba bl bc] 31)).cell? ⟨w.heap.size,1,none⟩=some (.int .i64 N):=by rw [cell_heap hbx];rfl
 have hk2:(w.alloc (.cells #[.int .i64 1,.int .i64 N,.int .i64 K,.int .i64 P,.slice ba bl bc] 31)).cell? ⟨w.heap.size,2,none⟩=some (.int .i64 K):=by rw [cell_heap hbx];rfl
 have hk3:(w.alloc (.cells #[.int .i64 1,.int .i64 N,.int .i64 K,.int .i64 P,.slice ba bl bc] 31)).cell? ⟨w.heap.size,3,none⟩=some (.int .i64 P):=by rw [cell_heap hbx];rfl
 have hk4:(w.alloc (.cells #[.int .i64 1,.int .i64 N,.int .i64 K,.int .i64 P,.slice ba bl bc] 31)).cell? ⟨w.heap.size,4,none⟩=some (.slice ba bl bc):=by rw [cell_heap hbx];rfl
 have hrd:=hrowd _ hq2
 have hrq:=hrow _ hq2
 have HS:=Lib.hid hs
 have HZ:=Lib.hid hz
 have HI:=Lib.hid hi
 have HML:Hid (w.heap.size<(w.alloc (.cells #[.int .i64 1,.int .i64 N,.int .i64 K,.int .i64 P,.slice ba bl bc] 31)).heap.size):=Lib.hid (by simp)
 clear hs hz h hi hbw hbx hrow hrowd
 generalize actI N n=q at *
 go_enter Try.func11,Try.ntmps11
 go_upto_region 1 with (fail)
 generalize w.alloc (.cells #[.int .i64 1,.int .i64 N,.int .i64 K,.int .i64 P,.slice ba bl bc] 31)=W at *
 generalize w.heap.size=M at *
 go_cut [4] (fun v wx=>v = .int .i64 (q:Int)∧∃nq,wx=W.drewN nq)
 case first =>
  go_quiet (fail)
  go_wp2_with fail
  go_meet
  exact ⟨by rw [←HQ1.out],nq,rfl⟩
 case rest =>
 obtain ⟨rfl,nq,rfl⟩:=hcut
 have hb1:=below_drewN W nq
 have HS1:=Lib.hid (HS.out.below hb1)
 have M1:Hid (Mv A A Z Z w (W.drewN nq)):=Lib.hid (HM0.out.trans (Mv.below hb1))
 have hup:=HS1.out.upAt q hq2
 have hc0:(W.drewN nq).cell? ⟨c,0,none⟩=some (.slice (some ⟨gr,0,none⟩) n kr):=hc0
 have hc1:(W.drewN nq).cell? ⟨c,1,none⟩=some (.slice (some ⟨gd,0,none⟩) n kd):=hc1
 have hc2:(W.drewN nq).cell? ⟨c,2,none⟩=some (.slice (some ⟨gu,0,none⟩) n n):=hc2
 have hk0:(W.drewN nq).cell? ⟨M,0,none⟩=some (.int .i64 1):=hk0
 have hk1:(W.drewN nq).cell? ⟨M,1,none⟩=some (.int .i64 N):=hk1
 have hk2:(W.drewN nq).cell? ⟨M,2,none⟩=some (.int .i64 K):=hk2
 have hk3:(W.drewN nq).cell? ⟨M,3,none⟩=some (.int .i64 P):=hk3
 have hk4:(W.drewN nq).cell? ⟨M,4,none⟩=some (.slice ba bl bc):=hk4
 have hrd:(W.drewN nq).cell? ⟨gd,q,none⟩=some (.pointer (some ⟨ds q,0,none⟩)):=hrd
 have hrq:(W.drewN nq).cell? ⟨gr,q,none⟩=some (.pointer (some ⟨rs q,0,none⟩)):=hrq
 have HML:Hid (M<(W.drewN nq).heap.size):=Lib.hid HML.out
 have hq3:(q:Int)<(n:Int):=by omega
 clear hb1 HS HM0 hq1 HQ1
 generalize W.drewN nq=W1 at *
 have hq0:=HS1.out.q
 obtain ⟨aq,cq,eq9,hcq,_⟩:=hq0.shape
 subst eq9
 have hc3:W1.cell? ⟨c,3,none⟩=some (.slice aq S.q.length cq):=by rw [cell_heap HS1.out.cell];rfl
 have HSY:Hid (Sy W1 A Z c n S):=Lib.hid ⟨_,_,_,_,_,_,_,_,_,_,_,HS1.out,HZ.out⟩
 clear hup hrd hrq hc0 hc1 hc2
 by_cases hl0:S.q.length=0
 ·have HF:Hid (SyP w W1 A Z c n (S.fetch K)):=Lib.hid (by
   rw [fetch_nil K hl0]
   exact HSY.out.syp M1.out)
  rw [hl0] at hc3
  clear hq0 hq3
  go_wp2_with fail
  (try simp only [Exit.inBlock,Exit.then])
  refine bodyPost_ret (results_none rfl _ _ _) rfl ?_
  exact ⟨rfl,HF.out⟩
 ·have hl1:1≤S.q.length:=by omega
  have HL2:Hid (S.q.length≤2000):=Lib.hid HI.out.ql
  obtain ⟨hj1,hj2⟩:=actK_ok K S.q.length hl1
  have HQJ:=Lib.hid hj1
  have HJE:Hid (actK K S.q.length=actK K S.q.length):=Lib.hid rfl
  generalize hj:actK K S.q.length=j at HQJ hj1 hj2
  have HJ:=Lib.hid hj
  obtain ⟨g,off,cc,mv,mu,e9,_,k0,k1,k2,k3,k4,hmsg⟩:=hq0.at j hj2
  cases e9
  generalize hmm:S.q[j]=m at *
  have HMM:=Lib.hid hmm
  obtain ⟨an,cn,e9,_⟩:=id hmsg.n
  subst e9
  obtain ⟨ub,bb,e9⟩:=bs_shape hmsg.b
  subst e9
  have HMG:=Lib.hid hmsg
  have HQ0:=Lib.hid hq0
  have hl2:¬(S.q.length:Int)=0:=by omega
  have hj3:(j:Int)<(S.q.length:Int):=by omega
  clear hmm hj hj1 HJE hmsg hq0 hq3 hl0
  go_upto_region 27 with (fail)
  go_cut [9] (fun v wx=>v = .int .i64 (j:Int)∧∃nq,wx=W1.drewN nq)
  case first =>
   go_quiet (fail)
   go_wp2_with fail
   go_meet
   exact ⟨by rw [←HQJ.out],nq,rfl⟩
  case rest =>
  obtain ⟨rfl,nq,rfl⟩:=hcut
  go_upto_region 28 with (fail)
  have hb2:=below_drewN W1 nq
  have HS2:=Lib.hid (HS1.out.below hb2)
  have HMG2:=Lib.hid (HMG.out.below hb2)
  have M2:Hid (Mv A A Z Z w (W1.drewN nq)):=Lib.hid (M1.out.trans (Mv.below hb2))
  have HML2:Hid (M<(W1.drewN nq).heap.size):=Lib.hid HML.out
  have hc3:(W1.drewN nq).cell? ⟨c,3,none⟩=some (.slice (some ⟨g,off,none⟩) S.q.length cq):=hc3
  have k0:(W1.drewN nq).cell? ⟨g,off+j*5,none⟩=some (.int .i64 m.frm):=k0
  have k1:(W1.drewN nq).cell? ⟨g,off+j*5+1,none⟩=some (.int .i64 m.dst):=k1
  have k2:(W1.drewN nq).cell? ⟨g,off+j*5+2,none⟩=some (.int .i64 m.kind):=k2
  have k3:(W1.drewN nq).cell? ⟨g,off+j*5+3,none⟩=some (.slice an m.N.length cn):=k3
  have k4:(W1.drewN nq).cell? ⟨g,off+j*5+4,none⟩=some (.slice ub m.B.length bb):=k4
  have hk0:(W1.drewN nq).cell? ⟨M,0,none⟩=some (.int .i64 1):=hk0
  clear hb2 HS1 HMG HQ0 M1 HML
  generalize W1.drewN nq=W2 at *
  go_upto_region 29 with (fail)
  have hbw2:Below W2.heap.size W2 (W2.alloc (.cells #[.int .i64 m.frm,.int .i64 m.dst,.int .i64 m.kind,.slice an m.N.length cn,.slice ub m.B.length bb] 51)):=(Below.refl _ _).alloc (Nat.le_refl _) _
  have HBX:=Lib.hid (heap_new W2 (.cells #[.int .i64 m.frm,.int .i64 m.dst,.int .i64 m.kind,.slice an m.N.length cn,.slice ub m.B.length bb] 51))
  have HS3:=Lib.hid (HS2.out.below hbw2)
  have HMG3:=Lib.hid (HMG2.out.below hbw2)
  have M3:Hid (Mv A A Z Z w (W2.alloc (.cells #[.int .i64 m.frm,.int .i64 m.dst,.int .i64 m.kind,.slice an m.N.length cn,.slice ub m.B.length bb] 51))):=Lib.hid (M2.out.trans (Mv.below hbw2))
  have hc3:(W2.alloc (.cells #[.int .i64 m.frm,.int .i64 m.dst,.int .i64 m.kind,.slice an m.N.length cn,.slice ub m.B.length bb] 51)).cell? ⟨c,3,none⟩=some (.slice (some ⟨g,off,none⟩) S.q.length cq):=cell_later hbw2 hc3
  have hk0:(W2.alloc (.cells #[.int .i64 m.frm,.int .i64 m.dst,.int .i64 m.kind,.slice an m.N.length cn,.slice ub m.B.length bb] 51)).cell? ⟨M,0,none⟩=some (.int .i64 1):=cell_later hbw2 hk0
  have HHA:Hid (W2.heap.size∉A):=Lib.hid (fun hb=>by have:=HS2.out.alt _ hb;omega)
  have HMH:Hid (M≠W2.heap.size):=Lib.hid (by have:=HML2.out;omega)
  clear hbw2 k0 k1 k2 k3 k4 HS2 HMG2 M2 HML2
  generalize W2.alloc (.cells #[.int .i64 m.frm,.int .i64 m.dst,.int .i64 m.kind,.slice an m.N.length cn,.slice ub m.B.length bb] 51)=W3 at *
  generalize W2.heap.size=H at *
  have HV:Hid (SyC W3.drew A Y c n S _ _ _ _ _ _ _ _ _ _):=Lib.hid (HS3.out.below (below_drewN W3 1))
  have HC3V:Hid (W3.drew.cell? ⟨c,3,none⟩=some (.slice (some ⟨g,off,none⟩) S.q.length cq)):=Lib.hid hc3
  have HC4:Hid ((W3.drew.alloc (.cells #[] 51)).cell? ⟨c,3,none⟩=some (.slice (some ⟨g,off,none⟩) S.q.length cq)):=Lib.hid (cell_later ((Below.refl _ _).alloc (Nat.le_refl _) _) HC3V.out)
  have HLP:=Lib.hid (lose_q HV.out.q HV.out.yA HV.out.alt j hj2 HL2.out 35 35 #[])
  have HCV:Hid (c∉[W3.drew.heap.size]):=Lib.hid (fun hm=>by have:=HV.out.alt c (HV.out.yA c HV.out.cY);rw [List.mem_singleton.1 hm] at this;omega)
  have hjc:j≤cq:=by omega
  have hlb:=HL2.out
  have q8:IntKind.i64.wrap ((j:Int)+1)=(j:Int)+1:=IntWalk.i64_in _ (by omega)
  have q9:((j:Int)+1).toNat=j+1:=by omega
  have q10:(0:Int)≤(j:Int)+1:=by omega
  have q11:j+1≤S.q.length:=by omega
  have q13:(j:Int)+1≤(S.q.length:Int):=by omega
  have q12:S.q.length≤cq:=hcq
  have HLE:Hid (S.lose K={ S with q:=S.q.take j++S.q.drop (j+1)}):=Lib.hid (by unfold Mn.lose;rw [HJ.out])
  have HE9:Hid (some (if cq=j+1 then (⟨g,off,none⟩:Addr) else (⟨g,off,none⟩:Addr).add ((j+1)*5))=(if cq=j+1 then some ⟨g,off,none⟩ else some ⟨g,off+(j+1)*5,none⟩)):=Lib.hid (by split<;>simp [Addr.add_lit])
  clear hc3 hlb
  go_upto_region 32 with (fail)
  go_cut [] (fun wx=>SyP W3.drew wx A Z c n (S.lose K))
  case first =>
   as_aux_lemma =>
   refine wp_region_held_drew (S:=fun _=>True) (by kernel_rfl) trivial (fun hHeld=>?_)
   refine qtl 0 (z0tx0 _) rfl ?_
   refine qtl 2 (z0tx1 _) rfl ?_
   refine qtl 3 (z0tx2 _) rfl ?_
   refine qtl 4 (z0tx3 _) rfl ?_
   refine qtl 6 (z0tx4 _) rfl ?_
   refine qtl 9 (z0tx5 _) rfl ?_
   refine qtl 10 (z0tx6 _) rfl ?_
   refine qtl 11 (z0tx7 _) rfl ?_
   refine qtl 13 (z0tx8 _) rfl ?_
   refine qtl 14 (z0tx9 _) rfl ?_
   generalize W3.drew=V3 at *
   refine wpAnyH_ready (rs:=[1,5,12]) (by kernel_rfl) (by simp) ?_
   refine AllReadyH.cons (o:=(z0tx10 _)) rfl (fun K hK=>?_) (AllReadyH.cons (o:=(z0tx11 _)) rfl (fun K hK=>?_) (AllReadyH.cons (o:=(z0tx12 _)) rfl (fun K hK=>?_) AllReadyH.nil))
   ·unfold z0tx10
    go_simp
    refine hK.out _ _ trivial (fun hHeld=>?_)
    clear hK K
    refine qsp ?_
    generalize hV4:V3.alloc (.cells #[] 51)=V4 at *
    clear hV4
    obtain ⟨p1,n1,c1,W5,hr1,ho1,p2,n2,c2,W6,hr2,ho2,hqp⟩:=HLP.out.ex
    have HQP:=Lib.hid hqp
    have HO2:=Lib.hid ho2
    rw [HE9.out] at hr2
    have HR2:=Lib.hid hr2
    have HK5:=Lib.hid (ho1.cell (HC4.out) HCV.out)
    clear hqp ho2 hr2
    refine qr2 5 12 (z0tx11 _) (z0tx12 _) rfl rfl (fun K hK=>?_) fun K hK=>?_
    ·unfold z0tx11
     have hyl:=HC4.out
     go_simp
     clear hyl
     refine hK.out _ _ trivial (fun hHeld=>?_)
     clear hK K
     refine qsp ?_
     refine qtl 7 (z0tx13 _) rfl ?_
     exact z0txm2
    ·unfold z0tx12
     have hyl:=HC4.out
     go_simp
     clear hyl
     refine hK.out _ _ trivial (fun hHeld=>?_)
     clear hK K
     refine qsp ?_
     refine qtl 15 (z0tx15 _) rfl ?_
     exact z0txm4
   ·unfold z0tx11
    have hyl:=HC3V.out
    go_simp
    clear hyl
    refine hK.out _ _ trivial (fun hHeld=>?_)
    clear hK K
    refine qsp ?_
    refine qtl 7 (z0tx13 _) rfl ?_
    refine qr2 1 12 (z0tx10 _) (z0tx12 _) rfl rfl (fun K hK=>?_) fun K hK=>?_
    ·unfold z0tx10
     go_simp
     refine hK.out _ _ trivial (fun hHeld=>?_)
     clear hK K
     refine qsp ?_
     generalize hV4:V3.alloc (.cells #[] 51)=V4 at *
     clear hV4
     obtain ⟨p1,n1,c1,W5,hr1,ho1,p2,n2,c2,W6,hr2,ho2,hqp⟩:=HLP.out.ex
     have HQP:=Lib.hid hqp
     have HO2:=Lib.hid ho2
     rw [HE9.out] at hr2
     have HR2:=Lib.hid hr2
     have HK5:=Lib.hid (ho1.cell (HC4.out) HCV.out)
     clear hqp ho2 hr2
     exact z0txm2
    ·unfold z0tx12
     have hyl:=HC3V.out
     go_simp
     clear hyl
     refine hK.out _ _ trivial (fun hHeld=>?_)
     clear hK K
     refine qsp ?_
     refine qtl 15 (z0tx15 _) rfl ?_
     exact z0txm3
   ·unfold z0tx12
    have hyl:=HC3V.out
    go_simp
    clear hyl
    refine hK.out _ _ trivial (fun hHeld=>?_)
    clear hK K
    refine qsp ?_
    refine qtl 15 (z0tx15 _) rfl ?_
    refine qr2 1 5 (z0tx10 _) (z0tx11 _) rfl rfl (fun K hK=>?_) fun K hK=>?_
    ·unfold z0tx10
     go_simp
     refine hK.out _ _ trivial (fun hHeld=>?_)
     clear hK K
     refine qsp ?_
     generalize hV4:V3.alloc (.cells #[] 51)=V4 at *
     clear hV4
     obtain ⟨p1,n1,c1,W5,hr1,ho1,p2,n2,c2,W6,hr2,ho2,hqp⟩:=HLP.out.ex
     have HQP:=Lib.hid hqp
     have HO2:=Lib.hid ho2
     rw [HE9.out] at hr2
     have HR2:=Lib.hid hr2
     have HK5:=Lib.hid (ho1.cell (HC4.out) HCV.out)
     clear hqp ho2 hr2
     exact z0txm4
    ·unfold z0tx11
     have hyl:=HC3V.out
     go_simp
     clear hyl
     refine hK.out _ _ trivial (fun hHeld=>?_)
     clear hK K
     refine qsp ?_
     refine qtl 7 (z0tx13 _) rfl ?_
     exact z0txm3
  case rest =>
  obtain ⟨A7,Z7,h7,m7⟩:=hcut
  rename World=>W7
  have hk0:W7.cell? ⟨M,0,none⟩=some (.int .i64 1):=m7.mv.only.cell (show W3.drew.cell? _=_ from hk0) (fun hm=>HMA.out (HZA.out _ hm))
  have MD:Hid (Mv A A Z Z w W3.drew):=Lib.hid (M3.out.trans (Mv.below (below_drewN W3 1)))
  have hbx7:=m7.mv.only.keeps (show W3.drew.heap[H]? = _ from HBX.out) (fun hm=>HHA.out (HZA.out _ hm))
  have hmg7:IsMsg W7 A7 m (.slice an m.N.length cn) (.slice ub m.B.length bb):=(HMG3.out.below (below_drewN W3 1)).step m7.mv.only HZA.out m7.ext
  have k0:W7.cell? ⟨H,0,none⟩=some (.int .i64 m.frm):=by rw [cell_heap hbx7];rfl
  have k1:W7.cell? ⟨H,1,none⟩=some (.int .i64 m.dst):=by rw [cell_heap hbx7];rfl
  have k2:W7.cell? ⟨H,2,none⟩=some (.int .i64 m.kind):=by rw [cell_heap hbx7];rfl
  have k3:W7.cell? ⟨H,3,none⟩=some (.slice an m.N.length cn):=by rw [cell_heap hbx7];rfl
  have k4:W7.cell? ⟨H,4,none⟩=some (.slice ub m.B.length bb):=by rw [cell_heap hbx7];rfl
  have hgm:=HI.out.q m (by rw [←HMM.out];exact List.getElem_mem _)
  obtain ⟨fr,hfr,hgm⟩:=hgm
  have hton:m.dst.toNat<n:=by have:=hgm.d0;have:=hgm.dn;omega
  have HIL:=HI.out.lose K
  have HBR:Hid (Calls Try.prog 25 #[.pointer (some ⟨c,0,none⟩),msgV m (.slice an m.N.length cn) (.slice ub m.B.length bb)] W7 fun e w'=>e = .returned (.tuple #[])∧SyP W7 w' A7 Z7 c n ((S.lose K).bring m)):=Lib.hid
   (bring_any h7 HIL.ql m _ _ hmg7 m.dst.toNat (by have:=hgm.d0;omega) hton (fun hu=>(HIL.wf _ hton hu).1) (HIL.id _ hton).1 (HIL.id _ hton).2 hgm.n1 (by have:=hgm.bl;omega) (by have:=hgm.nl;omega))
  have HFE:Hid (S.fetch K=(S.lose K).bring m):=Lib.hid (by
   unfold Mn.fetch
   rw [HJ.out,show S.q[j]? = some m by rw [←HMM.out];exact List.getElem?_eq_getElem hj2])
  have M7:Hid (Mv A A7 Z Z7 w W7):=Lib.hid (MD.out.trans m7)
  clear h7 m7 hbx7 hmg7 hgm HIL hfr
  go_wp2_with fail
  refine HBR.out.mono ?_
  rintro e w6 ⟨rfl,hs6⟩
  have HF:Hid (SyP w w6 A Z c n (S.fetch K)):=Lib.hid (by rw [HFE.out];exact SyP.trans M7.out hs6)
  clear hs6
  go_wp2_with fail
  go_end0
  exact ⟨rfl,HF.out⟩
end
end Go.Proofs.Ytnicaicjgaoolaa
namespace Go.Proofs.Ytnicaicjgaoolaa
open Go.RowKit Go.ChangeMaps Go.WideMaps Go.Maps
set_option maxRecDepth 20000
section
variable {w w':World} {A A' Y Z Z':List Nat} {c n cl:Nat} {S:Mn} {rs ds ls:Nat→Nat} {Xs:Nat→List Nat} {vr vd:Value} {gu:Nat} {qv gv lv:Value}
set_option maxHeartbeats 4000000 in
theorem do_other (h:Sy w A Z c n S) (hi:SInv n cl S) (o N K P:Int) (ba:Option Addr) (bl bc:Nat) (hn:1≤n) (h0:o≠0) (h1:o≠1) (h2:o≠2) (h3:o≠3) (h4:o≠4) (h5:o≠5) (h6:o≠6) :
  Calls Try.prog 11 #[.pointer (some ⟨c,0,none⟩),.agg #[.int .i64 o,.int .i64 N,.int .i64 K,.int .i64 P,.slice ba bl bc]] w fun e w'=>e = .returned (.tuple #[])∧SyP w w' A Z c n S:=by
 have hbw:Below w.heap.size w (w.alloc (.cells #[.int .i64 o,.int .i64 N,.int .i64 K,.int .i64 P,.slice ba bl bc] 31)):=(Below.refl _ _).alloc (Nat.le_refl _) _
 have hbx:=heap_new w (.cells #[.int .i64 o,.int .i64 N,.int .i64 K,.int .i64 P,.slice ba bl bc] 31)
 have hs1:=h.below hbw
 have HM0:Hid (Mv A A Z Z w (w.alloc (.cells #[.int .i64 o,.int .i64 N,.int .i64 K,.int .i64 P,.slice ba bl bc] 31))):=Lib.hid (Mv.below hbw)
 have HMA:Hid (w.heap.size∉A):=Lib.hid (fun hb=>by have:=h.alt _ hb;omega)
 obtain ⟨hq1,hq2⟩:=actI_ok N n hn
 have HQ1:=Lib.hid hq1
 obtain ⟨Y,rs,ds,ls,Xs,vr,vd,gu,qv,gv,lv,hs,hz⟩:=hs1
 obtain ⟨gr,kr,evr,hkr,hrow⟩:=ptr_cell hs.rr (by omega)
 subst evr
 obtain ⟨gd,kd,evd,hkd,hrowd⟩:=ptr_cell hs.dr (by omega)
 subst evd
 have hc0:(w.alloc (.cells #[.int .i64 o,.int .i64 N,.int .i64 K,.int .i64 P,.slice ba bl bc] 31)).cell? ⟨c,0,none⟩=some (.slice (some ⟨gr,0,none⟩) n kr):=by rw [cell_heap hs.cell];rfl
 have hc1:(w.alloc (.cells #[.int .i64 o,.int .i64 N,.int .i64 K,.int .i64 P,.slice ba bl bc] 31)).cell? ⟨c,1,none⟩=some (.slice (some ⟨gd,0,none⟩) n kd):=by rw [cell_heap hs.cell];rfl
 have hc2:(w.alloc (.cells #[.int .i64 o,.int .i64 N,.int .i64 K,.int .i64 P,.slice ba bl bc] 31)).cell? ⟨c,2,none⟩=some (.slice (some ⟨gu,0,none⟩) n n):=by rw [cell_heap hs.cell];rfl
 have hk0:(w.alloc (.cells #[.int .i64 o,.int .i64 N,.int .i64 K,.int .i64 P,.slice ba bl bc] 31)).cell? ⟨w.heap.size,0,none⟩=some (.int .i64 o):=by rw [cell_heap hbx];rfl
 have hk1:(w.alloc (.cells #[.int .i64 o,.int .i64 N,.int .i64 K,.int .i64 P,.slice ba bl bc] 31)).cell? ⟨w.heap.size,1,none⟩=some (.int .i64 N):=by rw [cell_heap hbx];rfl
 have hk2:(w.alloc (.cells #[.int .i64 o,.int .i64 N,.int .i64 K,.int .i64 P,.slice ba bl bc] 31)).cell? ⟨w.heap.size,2,none⟩=some (.int .i64 K):=by rw [cell_heap hbx];rfl
 have hk3:(w.alloc (.cells #[.int .i64 o,.int .i64 N,.int .i64 K,.int .i64 P,.slice ba bl bc] 31)).cell? ⟨w.heap.size,3,none⟩=some (.int .i64 P):=by rw [cell_heap hbx];rfl
 have hk4:(w.alloc (.cells #[.int .i64 o,.int .i64 N,.int .i64 K,.int .i64 P,.slice ba bl bc] 31)).cell? ⟨w.heap.size,4,none⟩=some (.slice ba bl bc):=by rw [cell_heap hbx];rfl
 have hrd:=hrowd _ hq2
 have hrq:=hrow _ hq2
 have HS:=Lib.hid hs
 have HZ:=Lib.hid hz
 have HI:=Lib.hid hi
 have HML:Hid (w.heap.size<(w.alloc (.cells #[.int .i64 o,.int .i64 N,.int .i64 K,.int .i64 P,.slice ba bl bc] 31)).heap.size):=Lib.hid (by simp)
 clear hs hz h hi hbw hbx hrow hrowd
 generalize actI N n=q at *
 go_enter Try.func11,Try.ntmps11
 go_upto_region 1 with (fail)
 generalize w.alloc (.cells #[.int .i64 o,.int .i64 N,.int .i64 K,.int .i64 P,.slice ba bl bc] 31)=W at *
 generalize w.heap.size=M at *
 go_cut [4] (fun v wx=>v = .int .i64 (q:Int)∧∃nq,wx=W.drewN nq)
 case first =>
  go_quiet (fail)
  go_wp2_with fail
  go_meet
  exact ⟨by rw [←HQ1.out],nq,rfl⟩
 case rest =>
 obtain ⟨rfl,nq,rfl⟩:=hcut
 have hb1:=below_drewN W nq
 have HS1:=Lib.hid (HS.out.below hb1)
 have M1:Hid (Mv A A Z Z w (W.drewN nq)):=Lib.hid (HM0.out.trans (Mv.below hb1))
 have hup:=HS1.out.upAt q hq2
 have hc0:(W.drewN nq).cell? ⟨c,0,none⟩=some (.slice (some ⟨gr,0,none⟩) n kr):=hc0
 have hc1:(W.drewN nq).cell? ⟨c,1,none⟩=some (.slice (some ⟨gd,0,none⟩) n kd):=hc1
 have hc2:(W.drewN nq).cell? ⟨c,2,none⟩=some (.slice (some ⟨gu,0,none⟩) n n):=hc2
 have hk0:(W.drewN nq).cell? ⟨M,0,none⟩=some (.int .i64 o):=hk0
 have hk1:(W.drewN nq).cell? ⟨M,1,none⟩=some (.int .i64 N):=hk1
 have hk2:(W.drewN nq).cell? ⟨M,2,none⟩=some (.int .i64 K):=hk2
 have hk3:(W.drewN nq).cell? ⟨M,3,none⟩=some (.int .i64 P):=hk3
 have hk4:(W.drewN nq).cell? ⟨M,4,none⟩=some (.slice ba bl bc):=hk4
 have hrd:(W.drewN nq).cell? ⟨gd,q,none⟩=some (.pointer (some ⟨ds q,0,none⟩)):=hrd
 have hrq:(W.drewN nq).cell? ⟨gr,q,none⟩=some (.pointer (some ⟨rs q,0,none⟩)):=hrq
 have HML:Hid (M<(W.drewN nq).heap.size):=Lib.hid HML.out
 have hq3:(q:Int)<(n:Int):=by omega
 clear hb1 HS HM0 hq1 HQ1
 generalize W.drewN nq=W1 at *
 have HF:Hid (SyP w W1 A Z c n S):=Lib.hid ((⟨_,_,_,_,_,_,_,_,_,_,_,HS1.out,HZ.out⟩:Sy _ A Z c n S).syp M1.out)
 have e0:(o==0)=false:=by simpa using h0
 have e1:(o==1)=false:=by simpa using h1
 have e2:(o==2)=false:=by simpa using h2
 have e3:(o==3)=false:=by simpa using h3
 have e4:(o==4)=false:=by simpa using h4
 have e5:(o==5)=false:=by simpa using h5
 have e6:(o==6)=false:=by simpa using h6
 clear h0 h1 h2 h3 h4 h5 h6
 go_wp2_with fail
 go_end0
 exact ⟨rfl,HF.out⟩
end
end Go.Proofs.Ytnicaicjgaoolaa
namespace Go.Proofs.Ytnicaicjgaoolaa
open Go.RowKit Go.ChangeMaps Go.WideMaps Go.Maps
set_option maxRecDepth 20000
def lightM (l:List Ac) (most:Nat):Bool:=decide (l.length≤most)&&l.all fun x=>decide (x.B.length≤300)
theorem light_of (l:List Ac) (most:Nat) (h:lightM l most=true):l.length≤most∧∀x∈l,x.B.length≤300:=by
 unfold lightM at h
 simp only [Bool.and_eq_true,decide_eq_true_eq,List.all_eq_true] at h
 exact h
section
variable {w:World}
end
end Go.Proofs.Ytnicaicjgaoolaa
