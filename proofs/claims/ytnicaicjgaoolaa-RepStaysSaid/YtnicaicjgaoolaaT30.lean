/-
  What the proof of the law leans on: contracts of the program's functions, one behind another. No condition.
-/
import Derived.Test.YtnicaicjgaoolaaT26
import Derived.Test.YtnicaicjgaoolaaT3
set_option linter.unusedVariables false
set_option linter.unusedSimpArgs false
namespace Go.Proofs.Ytnicaicjgaoolaa
open Go.RowKit Go.ChangeMaps Go.WideMaps Go.Maps
set_option maxRecDepth 20000
section
variable (p:String)
def z0px0:Oper:=⟨some 191,.move (.tmp 0),25,p,#[],none⟩
def z0px1:Oper:=⟨some 192,.move (.tmp 0),25,p,#[],none⟩
def z0px2:Oper:=⟨some 193,.nilCheck (.tmp 192),0,p,#[⟨1,.data⟩],none⟩
def z0px3:Oper:=⟨some 194,.fieldAddr 38 (.tmp 193) 3,0,p,#[⟨2,.data⟩],none⟩
def z0px4:Oper:=⟨some 196,.load 51 (.tmp 10),51,p,#[],none⟩
def z0px5:Oper:=⟨some 195,.load 35 (.tmp 194),35,p,#[⟨3,.data⟩],none⟩
def z0px6:Oper:=⟨some 197,.buildSlice 35 1 #[(0,.tmp 196)],35,p,#[⟨5,.data⟩],none⟩
def z0px7:Oper:=⟨some 198,.call { callee:=Callee.builtin Builtin.append,args:=#[.tmp 195,.tmp 197],argTypes:=#[35,35]},35,p,#[⟨4,.data⟩,⟨6,.data⟩],none⟩
def z0px8:Oper:=⟨some 199,.nilCheck (.tmp 191),0,p,#[⟨0,.data⟩,⟨0,.phase⟩,⟨1,.phase⟩,⟨2,.phase⟩,⟨3,.phase⟩,⟨4,.phase⟩,⟨5,.phase⟩,⟨6,.phase⟩,⟨7,.phase⟩],none⟩
def z0px9:Oper:=⟨some 200,.fieldAddr 38 (.tmp 199) 3,0,p,#[⟨8,.data⟩,⟨0,.phase⟩,⟨1,.phase⟩,⟨2,.phase⟩,⟨3,.phase⟩,⟨4,.phase⟩,⟨5,.phase⟩,⟨6,.phase⟩,⟨7,.phase⟩],none⟩
def z0px10:Oper:=⟨none,.store 35 (.tmp 200) (.tmp 198),0,p,#[⟨9,.data⟩,⟨7,.data⟩,⟨7,.chain⟩,⟨0,.phase⟩,⟨1,.phase⟩,⟨2,.phase⟩,⟨3,.phase⟩,⟨4,.phase⟩,⟨5,.phase⟩,⟨6,.phase⟩,⟨7,.phase⟩],none⟩
end
attribute [go_sem,reducible] z0px0 z0px1 z0px2 z0px3 z0px4 z0px5 z0px6 z0px7 z0px8 z0px9 z0px10
theorem z0pxm0 {p:Prop} (h:p:=by
 refine qr1 7 (z0px7 _) rfl fun K hK=>?_
 unfold z0px7
 refine step_of_list rfl fun Q' hQ=>?_
 refine wpList_append_q rfl (.tmp 195) (.tmp 197) rfl HV2.out.q HV2.out.yA HV2.out.alt HH2 HMG2.out (by have:=HL2.out;omega) (by rfl) (by rfl) ?_
 intro v3 V3 hqp
 obtain ⟨a3,n3,c3,e3⟩:=hqp.shape
 subst e3
 have HQP:=Lib.hid hqp
 obtain ⟨T3,ho3,hT3⟩:=hqp.only HV2.out.yA
 have hk3:=HK.out T3 _ _ HB2.out ho3 hT3
 refine hQ _ _ ?_
 clear hQ Q' hqp
 refine hK.out _ _ hk3 (fun hHeld=>?_)
 clear hK K
 refine qsp ?_
 have hc3:=HV2.out.cell_qp HQP.out
 have HO3:=Lib.hid (And.intro ho3 hT3)
 have HCT:Hid (∀b∈c::T3,b∈A):=Lib.hid (fun b hb=>(List.mem_cons.1 hb).elim (fun e=>e ▸ HV2.out.yA _ HV2.out.cY) (HO3.out.2 b))
 clear hk3 ho3 hT3
 refine qtl 8 (z0px8 _) rfl ?_
 refine qtl 9 (z0px9 _) rfl ?_
 refine qr1 10 (z0px10 _) rfl fun K hK=>?_
 unfold z0px10
 have hy3:V3.cell? ⟨c,3,none⟩=some (.slice (some ⟨g,off,none⟩) S.q.length cq):=by rw [cell_heap hc3];rfl
 have hz3:=free_heap hc3 3
 go_simp
 clear hy3 hz3
 refine hK.out _ _ (HK.out (c::T3) _ _ HB2.out ((HO3.out.1.mono (fun b hb=>List.mem_cons_of_mem _ hb)).setCell (p:=⟨c,3,none⟩) (by simp) (.slice a3 n3 c3)) HCT.out) (fun hHeld=>?_)
 clear hK K
 refine qsp ?_
 refine qdn ?_
 clear hHeld
 go_wp2_with fail
 (try simp only [Exit.inBlock,Exit.then])
 refine bodyPost_ret (results_none rfl _ _ _) rfl ?_
 refine ⟨rfl,?_⟩
 rw [HTE.out]
 exact SyP.trans (M3.out.trans (Mv.below HB2.out)) (HV2.out.setq HZ.out HQP.out)):p:=h
section
variable {w w':World} {A A' Y Z Z':List Nat} {c n cl:Nat} {S:Mn} {rs ds ls:Nat→Nat} {Xs:Nat→List Nat} {vr vd:Value} {gu:Nat} {qv gv lv:Value}
set_option maxHeartbeats 4000000 in
theorem do_twice (h:Sy w A Z c n S) (hi:SInv n cl S) (N K P:Int) (ba:Option Addr) (bl bc:Nat) (hn:1≤n) :
  Calls Try.prog 11 #[.pointer (some ⟨c,0,none⟩),.agg #[.int .i64 3,.int .i64 N,.int .i64 K,.int .i64 P,.slice ba bl bc]] w fun e w'=>e = .returned (.tuple #[])∧SyP w w' A Z c n (S.twice K):=by
 have HZA:=Lib.hid h.zA
 have hbw:Below w.heap.size w (w.alloc (.cells #[.int .i64 3,.int .i64 N,.int .i64 K,.int .i64 P,.slice ba bl bc] 31)):=(Below.refl _ _).alloc (Nat.le_refl _) _
 have hbx:=heap_new w (.cells #[.int .i64 3,.int .i64 N,.int .i64 K,.int .i64 P,.slice ba bl bc] 31)
 have hs1:=h.below hbw
 have HM0:Hid (Mv A A Z Z w (w.alloc (.cells #[.int .i64 3,.int .i64 N,.int .i64 K,.int .i64 P,.slice ba bl bc] 31))):=Lib.hid (Mv.below hbw)
 have HMA:Hid (w.heap.size∉A):=Lib.hid (fun hb=>by have:=h.alt _ hb;omega)
 obtain ⟨hq1,hq2⟩:=actI_ok N n hn
 have HQ1:=Lib.hid hq1
 obtain ⟨Y,rs,ds,ls,Xs,vr,vd,gu,qv,gv,lv,hs,hz⟩:=hs1
 obtain ⟨gr,kr,evr,hkr,hrow⟩:=ptr_cell hs.rr (by omega)
 subst evr
 obtain ⟨gd,kd,evd,hkd,hrowd⟩:=ptr_cell hs.dr (by omega)
 subst evd
 have hc0:(w.alloc (.cells #[.int .i64 3,.int .i64 N,.int .i64 K,.int .i64 P,.slice ba bl bc] 31)).cell? ⟨c,0,none⟩=some (.slice (some ⟨gr,0,none⟩) n kr):=by rw [cell_heap hs.cell];rfl
 have hc1:(w.alloc (.cells #[.int .i64 3,.int .i64 N,.int .i64 K,.int .i64 P,.slice ba bl bc] 31)).cell? ⟨c,1,none⟩=some (.slice (some ⟨gd,0,none⟩) n kd):=by rw [cell_heap hs.cell];rfl
 have hc2:(w.alloc (.cells #[.int .i64 3,.int .i64 N,.int .i64 K,.int .i64 P,.slice ba bl bc] 31)).cell? ⟨c,2,none⟩=some (.slice (some ⟨gu,0,none⟩) n n):=by rw [cell_heap hs.cell];rfl
 have hk0:(w.alloc (.cells #[.int .i64 3,.int .i64 N,.int .i64 K,.int .i64 P,.slice ba bl bc] 31)).cell? ⟨w.heap.size,0,none⟩=some (.int .i64 3):=by rw [cell_heap hbx];rfl
 have hk1:(w.alloc (.cells #[.int .i64 3,.int .i64 N,.int .i64 K,.int .i64 P,.slice ba bl bc] 31)).cell? ⟨w.heap.size,1,none⟩=some (.int .i64 N):=by rw [cell_heap hbx];rfl
 have hk2:(w.alloc (.cells #[.int .i64 3,.int .i64 N,.int .i64 K,.int .i64 P,.slice ba bl bc] 31)).cell? ⟨w.heap.size,2,none⟩=some (.int .i64 K):=by rw [cell_heap hbx];rfl
 have hk3:(w.alloc (.cells #[.int .i64 3,.int .i64 N,.int .i64 K,.int .i64 P,.slice ba bl bc] 31)).cell? ⟨w.heap.size,3,none⟩=some (.int .i64 P):=by rw [cell_heap hbx];rfl
 have hk4:(w.alloc (.cells #[.int .i64 3,.int .i64 N,.int .i64 K,.int .i64 P,.slice ba bl bc] 31)).cell? ⟨w.heap.size,4,none⟩=some (.slice ba bl bc):=by rw [cell_heap hbx];rfl
 have hrd:=hrowd _ hq2
 have hrq:=hrow _ hq2
 have HS:=Lib.hid hs
 have HZ:=Lib.hid hz
 have HI:=Lib.hid hi
 have HML:Hid (w.heap.size<(w.alloc (.cells #[.int .i64 3,.int .i64 N,.int .i64 K,.int .i64 P,.slice ba bl bc] 31)).heap.size):=Lib.hid (by simp)
 clear hs hz h hi hbw hbx hrow hrowd
 generalize actI N n=q at *
 go_enter Try.func11,Try.ntmps11
 go_upto_region 1 with (fail)
 generalize w.alloc (.cells #[.int .i64 3,.int .i64 N,.int .i64 K,.int .i64 P,.slice ba bl bc] 31)=W at *
 generalize w.heap.size=M at *
 go_cut [4] (fun v wx=>v = .int .i64 (q:Int)∧∃nq,wx=W.drewN nq)
 case first =>
  go_quiet (fail)
  go_wp2_with fail
  go_meet
  exact ⟨by rw [←HQ1.out],nq,rfl⟩
 case rest =>
 obtain ⟨rfl,nq,rfl⟩:=hcut
 have hb1:=below_drewN W nq
 have HS1:=Lib.hid (HS.out.below hb1)
 have M1:Hid (Mv A A Z Z w (W.drewN nq)):=Lib.hid (HM0.out.trans (Mv.below hb1))
 have hup:=HS1.out.upAt q hq2
 have hc0:(W.drewN nq).cell? ⟨c,0,none⟩=some (.slice (some ⟨gr,0,none⟩) n kr):=hc0
 have hc1:(W.drewN nq).cell? ⟨c,1,none⟩=some (.slice (some ⟨gd,0,none⟩) n kd):=hc1
 have hc2:(W.drewN nq).cell? ⟨c,2,none⟩=some (.slice (some ⟨gu,0,none⟩) n n):=hc2
 have hk0:(W.drewN nq).cell? ⟨M,0,none⟩=some (.int .i64 3):=hk0
 have hk1:(W.drewN nq).cell? ⟨M,1,none⟩=some (.int .i64 N):=hk1
 have hk2:(W.drewN nq).cell? ⟨M,2,none⟩=some (.int .i64 K):=hk2
 have hk3:(W.drewN nq).cell? ⟨M,3,none⟩=some (.int .i64 P):=hk3
 have hk4:(W.drewN nq).cell? ⟨M,4,none⟩=some (.slice ba bl bc):=hk4
 have hrd:(W.drewN nq).cell? ⟨gd,q,none⟩=some (.pointer (some ⟨ds q,0,none⟩)):=hrd
 have hrq:(W.drewN nq).cell? ⟨gr,q,none⟩=some (.pointer (some ⟨rs q,0,none⟩)):=hrq
 have HML:Hid (M<(W.drewN nq).heap.size):=Lib.hid HML.out
 have hq3:(q:Int)<(n:Int):=by omega
 clear hb1 HS HM0 hq1 HQ1
 generalize W.drewN nq=W1 at *
 have hq0:=HS1.out.q
 obtain ⟨aq,cq,eq9,hcq,_⟩:=hq0.shape
 subst eq9
 have hc3:W1.cell? ⟨c,3,none⟩=some (.slice aq S.q.length cq):=by rw [cell_heap HS1.out.cell];rfl
 have HSY:Hid (Sy W1 A Z c n S):=Lib.hid ⟨_,_,_,_,_,_,_,_,_,_,_,HS1.out,HZ.out⟩
 clear hup hrd hrq hc0 hc1 hc2
 by_cases hl0:S.q.length=0
 ·have HF:Hid (SyP w W1 A Z c n (S.twice K)):=Lib.hid (by
   rw [twice_nil K hl0]
   exact HSY.out.syp M1.out)
  rw [hl0] at hc3
  clear hq0 hq3
  go_wp2_with fail
  (try simp only [Exit.inBlock,Exit.then])
  refine bodyPost_ret (results_none rfl _ _ _) rfl ?_
  exact ⟨rfl,HF.out⟩
 ·have hl1:1≤S.q.length:=by omega
  have HL2:Hid (S.q.length≤2000):=Lib.hid HI.out.ql
  obtain ⟨hj1,hj2⟩:=actK_ok K S.q.length hl1
  have HQJ:=Lib.hid hj1
  have HJE:Hid (actK K S.q.length=actK K S.q.length):=Lib.hid rfl
  generalize hj:actK K S.q.length=j at HQJ hj1 hj2
  have HJ:=Lib.hid hj
  obtain ⟨g,off,cc,mv,mu,e9,_,k0,k1,k2,k3,k4,hmsg⟩:=hq0.at j hj2
  cases e9
  generalize hmm:S.q[j]=m at *
  have HMM:=Lib.hid hmm
  obtain ⟨an,cn,e9,_⟩:=id hmsg.n
  subst e9
  obtain ⟨ub,bb,e9⟩:=bs_shape hmsg.b
  subst e9
  have HMG:=Lib.hid hmsg
  have HQ0:=Lib.hid hq0
  have hl2:¬(S.q.length:Int)=0:=by omega
  have hj3:(j:Int)<(S.q.length:Int):=by omega
  clear hmm hj hj1 HJE hmsg hq0 hq3 hl0
  go_upto_region 27 with (fail)
  go_cut [9] (fun v wx=>v = .int .i64 (j:Int)∧∃nq,wx=W1.drewN nq)
  case first =>
   go_quiet (fail)
   go_wp2_with fail
   go_meet
   exact ⟨by rw [←HQJ.out],nq,rfl⟩
  case rest =>
  obtain ⟨rfl,nq,rfl⟩:=hcut
  go_upto_region 28 with (fail)
  have hb2:=below_drewN W1 nq
  have HS2:=Lib.hid (HS1.out.below hb2)
  have HMG2:=Lib.hid (HMG.out.below hb2)
  have M2:Hid (Mv A A Z Z w (W1.drewN nq)):=Lib.hid (M1.out.trans (Mv.below hb2))
  have HML2:Hid (M<(W1.drewN nq).heap.size):=Lib.hid HML.out
  have hc3:(W1.drewN nq).cell? ⟨c,3,none⟩=some (.slice (some ⟨g,off,none⟩) S.q.length cq):=hc3
  have k0:(W1.drewN nq).cell? ⟨g,off+j*5,none⟩=some (.int .i64 m.frm):=k0
  have k1:(W1.drewN nq).cell? ⟨g,off+j*5+1,none⟩=some (.int .i64 m.dst):=k1
  have k2:(W1.drewN nq).cell? ⟨g,off+j*5+2,none⟩=some (.int .i64 m.kind):=k2
  have k3:(W1.drewN nq).cell? ⟨g,off+j*5+3,none⟩=some (.slice an m.N.length cn):=k3
  have k4:(W1.drewN nq).cell? ⟨g,off+j*5+4,none⟩=some (.slice ub m.B.length bb):=k4
  have hk0:(W1.drewN nq).cell? ⟨M,0,none⟩=some (.int .i64 3):=hk0
  clear hb2 HS1 HMG HQ0 M1 HML
  generalize W1.drewN nq=W2 at *
  go_upto_region 29 with (fail)
  have hbw2:Below W2.heap.size W2 (W2.alloc (.cells #[.int .i64 m.frm,.int .i64 m.dst,.int .i64 m.kind,.slice an m.N.length cn,.slice ub m.B.length bb] 51)):=(Below.refl _ _).alloc (Nat.le_refl _) _
  have HBX:=Lib.hid (heap_new W2 (.cells #[.int .i64 m.frm,.int .i64 m.dst,.int .i64 m.kind,.slice an m.N.length cn,.slice ub m.B.length bb] 51))
  have HS3:=Lib.hid (HS2.out.below hbw2)
  have HMG3:=Lib.hid (HMG2.out.below hbw2)
  have M3:Hid (Mv A A Z Z w (W2.alloc (.cells #[.int .i64 m.frm,.int .i64 m.dst,.int .i64 m.kind,.slice an m.N.length cn,.slice ub m.B.length bb] 51))):=Lib.hid (M2.out.trans (Mv.below hbw2))
  have hc3:(W2.alloc (.cells #[.int .i64 m.frm,.int .i64 m.dst,.int .i64 m.kind,.slice an m.N.length cn,.slice ub m.B.length bb] 51)).cell? ⟨c,3,none⟩=some (.slice (some ⟨g,off,none⟩) S.q.length cq):=cell_later hbw2 hc3
  have hk0:(W2.alloc (.cells #[.int .i64 m.frm,.int .i64 m.dst,.int .i64 m.kind,.slice an m.N.length cn,.slice ub m.B.length bb] 51)).cell? ⟨M,0,none⟩=some (.int .i64 3):=cell_later hbw2 hk0
  have HHA:Hid (W2.heap.size∉A):=Lib.hid (fun hb=>by have:=HS2.out.alt _ hb;omega)
  have HMH:Hid (M≠W2.heap.size):=Lib.hid (by have:=HML2.out;omega)
  clear hbw2 k0 k1 k2 k3 k4 HS2 HMG2 M2 HML2
  generalize W2.alloc (.cells #[.int .i64 m.frm,.int .i64 m.dst,.int .i64 m.kind,.slice an m.N.length cn,.slice ub m.B.length bb] 51)=W3 at *
  generalize W2.heap.size=H at *
  have k0:W3.cell? ⟨H,0,none⟩=some (.int .i64 m.frm):=by rw [cell_heap HBX.out];rfl
  have k1:W3.cell? ⟨H,1,none⟩=some (.int .i64 m.dst):=by rw [cell_heap HBX.out];rfl
  have k2:W3.cell? ⟨H,2,none⟩=some (.int .i64 m.kind):=by rw [cell_heap HBX.out];rfl
  have k3:W3.cell? ⟨H,3,none⟩=some (.slice an m.N.length cn):=by rw [cell_heap HBX.out];rfl
  have k4:W3.cell? ⟨H,4,none⟩=some (.slice ub m.B.length bb):=by rw [cell_heap HBX.out];rfl
  have HTW:Hid (S.twice K={ S with q:=addQ S.q m }):=Lib.hid (by
   unfold Mn.twice
   rw [HJ.out,show S.q[j]? = some m by rw [←HMM.out];exact List.getElem?_eq_getElem hj2])
  by_cases hfull:S.q.length<2000
  ·have hfull2:(S.q.length:Int)<2000:=by omega
   have HTE:Hid (S.twice K={ S with q:=S.q++[m]}):=Lib.hid (by rw [HTW.out];unfold addQ;rw [if_pos hfull])
   have HK:Hid (∀(T:List Nat) (V w2:World),Below W3.heap.size W3 V→Only T V w2→(∀b∈T,b∈A)→w2.cell? ⟨H,0,none⟩=some (.int .i64 m.frm)∧w2.cell? ⟨H,1,none⟩=some (.int .i64 m.dst)∧w2.cell? ⟨H,2,none⟩=some (.int .i64 m.kind)∧w2.cell? ⟨H,3,none⟩=some (.slice an m.N.length cn)∧w2.cell? ⟨H,4,none⟩=some (.slice ub m.B.length bb)):=Lib.hid (fun T V w2 hb ho hT=>by
     have h1:=ho.keeps ((Only.ofBelow hb []).keeps HBX.out (by simp)) (fun hm=>HHA.out (hT _ hm))
     exact ⟨by rw [cell_heap h1];rfl,by rw [cell_heap h1];rfl,by rw [cell_heap h1];rfl,by rw [cell_heap h1];rfl,by rw [cell_heap h1];rfl⟩)
   have hs0:W3.drew.cell? ⟨H,0,none⟩=some (.int .i64 m.frm)∧W3.drew.cell? ⟨H,1,none⟩=some (.int .i64 m.dst)∧W3.drew.cell? ⟨H,2,none⟩=some (.int .i64 m.kind)∧W3.drew.cell? ⟨H,3,none⟩=some (.slice an m.N.length cn)∧W3.drew.cell? ⟨H,4,none⟩=some (.slice ub m.B.length bb):=⟨k0,k1,k2,k3,k4⟩
   have HS0:=Lib.hid hs0
   clear k0 k1 k2 k3 k4 hs0 hfull
   go_upto_region 30 with (fail)
   go_wp2_with fail
   refine wp_region_held_drew (S:=fun w'=>w'.cell? ⟨H,0,none⟩=some (.int .i64 m.frm)∧w'.cell? ⟨H,1,none⟩=some (.int .i64 m.dst)∧w'.cell? ⟨H,2,none⟩=some (.int .i64 m.kind)∧w'.cell? ⟨H,3,none⟩=some (.slice an m.N.length cn)∧w'.cell? ⟨H,4,none⟩=some (.slice ub m.B.length bb)) (by kernel_rfl) HS0.out (fun hHeld=>?_)
   refine qtl 0 (z0px0 _) rfl ?_
   refine qtl 1 (z0px1 _) rfl ?_
   refine qtl 2 (z0px2 _) rfl ?_
   refine qtl 3 (z0px3 _) rfl ?_
   refine qtl 5 (z0px4 _) rfl ?_
   have HB1:Hid (Below W3.heap.size W3 W3.drew):=Lib.hid (below_drewN W3 1)
   have HV1:=Lib.hid (HS3.out.below HB1.out)
   generalize W3.drew=V1 at *
   refine qr2 4 6 (z0px5 _) (z0px6 _) rfl rfl (fun K hK=>?_) fun K hK=>?_
   ·unfold z0px5
    have hy3:V1.cell? ⟨c,3,none⟩=some (.slice (some ⟨g,off,none⟩) S.q.length cq):=by rw [cell_heap HV1.out.cell];rfl
    go_simp
    clear hy3
    refine hK.out _ _ hHeld (fun hHeld=>?_)
    clear hK K
    refine qsp ?_
    refine qr1 6 (z0px6 _) rfl fun K hK=>?_
    unfold z0px6
    go_simp
    refine hK.out _ _ (HK.out [] _ _ (HB1.out.alloc HB1.out.size (.cells #[.int .i64 m.frm,.int .i64 m.dst,.int .i64 m.kind,.slice an m.N.length cn,.slice ub m.B.length bb] 51)) (Only.refl _ _) (fun b hb=>by cases hb)) (fun hHeld=>?_)
    clear hK K
    refine qsp ?_
    have HB2:=Lib.hid (HB1.out.alloc HB1.out.size (.cells #[.int .i64 m.frm,.int .i64 m.dst,.int .i64 m.kind,.slice an m.N.length cn,.slice ub m.B.length bb] 51))
    have HV2:=Lib.hid (HS3.out.below HB2.out)
    have HMG2:=Lib.hid (HMG3.out.below HB2.out)
    have HH2:=heap_new V1 (.cells #[.int .i64 m.frm,.int .i64 m.dst,.int .i64 m.kind,.slice an m.N.length cn,.slice ub m.B.length bb] 51)
    generalize hV2:V1.alloc (.cells #[.int .i64 m.frm,.int .i64 m.dst,.int .i64 m.kind,.slice an m.N.length cn,.slice ub m.B.length bb] 51)=V2 at *
    generalize V1.heap.size=H2 at *
    clear hV2
    exact z0pxm0
   ·unfold z0px6
    go_simp
    refine hK.out _ _ (HK.out [] _ _ (HB1.out.alloc HB1.out.size (.cells #[.int .i64 m.frm,.int .i64 m.dst,.int .i64 m.kind,.slice an m.N.length cn,.slice ub m.B.length bb] 51)) (Only.refl _ _) (fun b hb=>by cases hb)) (fun hHeld=>?_)
    clear hK K
    refine qsp ?_
    have HB2:=Lib.hid (HB1.out.alloc HB1.out.size (.cells #[.int .i64 m.frm,.int .i64 m.dst,.int .i64 m.kind,.slice an m.N.length cn,.slice ub m.B.length bb] 51))
    have HV2:=Lib.hid (HS3.out.below HB2.out)
    have HMG2:=Lib.hid (HMG3.out.below HB2.out)
    have HH2:=heap_new V1 (.cells #[.int .i64 m.frm,.int .i64 m.dst,.int .i64 m.kind,.slice an m.N.length cn,.slice ub m.B.length bb] 51)
    generalize hV2:V1.alloc (.cells #[.int .i64 m.frm,.int .i64 m.dst,.int .i64 m.kind,.slice an m.N.length cn,.slice ub m.B.length bb] 51)=V2 at *
    generalize V1.heap.size=H2 at *
    clear hV2
    refine qr1 4 (z0px5 _) rfl fun K hK=>?_
    unfold z0px5
    have hy3:V2.cell? ⟨c,3,none⟩=some (.slice (some ⟨g,off,none⟩) S.q.length cq):=by rw [cell_heap HV2.out.cell];rfl
    go_simp
    clear hy3
    refine hK.out _ _ hHeld (fun hHeld=>?_)
    clear hK K
    refine qsp ?_
    exact z0pxm0
  ·have hfull2:¬(S.q.length:Int)<2000:=by omega
   have HF:Hid (SyP w W3 A Z c n (S.twice K)):=Lib.hid (by
     rw [HTW.out]
     unfold addQ
     rw [if_neg hfull]
     exact SyP.trans M3.out ⟨A,Z,⟨_,_,_,_,_,_,_,_,_,_,_,HS3.out,HZ.out⟩,Mv.refl _ _ _⟩)
   go_wp2_with fail
   (try simp only [Exit.inBlock,Exit.then])
   refine bodyPost_ret (results_none rfl _ _ _) rfl ?_
   exact ⟨rfl,HF.out⟩
end
end Go.Proofs.Ytnicaicjgaoolaa
namespace Go.Proofs.Ytnicaicjgaoolaa
open Go.RowKit Go.ChangeMaps Go.WideMaps Go.Maps
set_option maxRecDepth 20000
section
variable (p:String)
def z0qx0:Oper:=⟨some 44,.move (.tmp 0),25,p,#[],none⟩
def z0qx1:Oper:=⟨some 45,.nilCheck (.tmp 44),0,p,#[⟨0,.data⟩],none⟩
def z0qx2:Oper:=⟨some 46,.fieldAddr 38 (.tmp 45) 1,0,p,#[⟨1,.data⟩],none⟩
def z0qx3:Oper:=⟨some 47,.load 33 (.tmp 46),33,p,#[⟨2,.data⟩],none⟩
def z0qx4:Oper:=⟨some 48,.move (.tmp 4),3,p,#[],none⟩
def z0qx5:Oper:=⟨some 49,.indexAddr 33 (.tmp 47) (.tmp 48),0,p,#[⟨3,.data⟩,⟨4,.data⟩],none⟩
def z0qx6:Oper:=⟨some 50,.load 54 (.tmp 49),54,p,#[⟨5,.data⟩],none⟩
def z0qx7:Oper:=⟨some 51,.fieldAddr 31 (.tmp 3) 3,0,p,#[],none⟩
def z0qx8:Oper:=⟨some 52,.load 3 (.tmp 51),3,p,#[⟨7,.data⟩],none⟩
def z0qx9:Oper:=⟨some 53,.call { callee:=Callee.value (Operand.func 23),args:=#[.tmp 50,.tmp 52],argTypes:=#[54,3]},0,p,#[⟨6,.data⟩,⟨8,.data⟩],none⟩
end
attribute [go_sem,reducible] z0qx0 z0qx1 z0qx2 z0qx3 z0qx4 z0qx5 z0qx6 z0qx7 z0qx8 z0qx9
def Mn.crash (S:Mn) (i:Nat) (keep:Int):Mn:=S.set i ⟨(S.at i).s,crashD (S.at i).k keep,false⟩
section
variable {w w':World} {A A' Y Z Z':List Nat} {c n cl:Nat} {S:Mn} {rs ds ls:Nat→Nat} {Xs:Nat→List Nat} {vr vd:Value} {gu:Nat} {qv gv lv:Value}
set_option maxHeartbeats 4000000 in
theorem do_crash (h:Sy w A Z c n S) (hi:∀i,i<n→SfOk (S.at i).k∧(S.at i).k.total≤1048576) (N K P:Int) (hP1 : -9223372036854775808≤P) (hP2:P≤9223372036854775807) (ba:Option Addr) (bl bc:Nat) (hn:1≤n) :
  Calls Try.prog 11 #[.pointer (some ⟨c,0,none⟩),.agg #[.int .i64 4,.int .i64 N,.int .i64 K,.int .i64 P,.slice ba bl bc]] w fun e w'=>e = .returned (.tuple #[])∧SyP w w' A Z c n (S.crash (actI N n) P):=by
 have hbw:Below w.heap.size w (w.alloc (.cells #[.int .i64 4,.int .i64 N,.int .i64 K,.int .i64 P,.slice ba bl bc] 31)):=(Below.refl _ _).alloc (Nat.le_refl _) _
 have hbx:=heap_new w (.cells #[.int .i64 4,.int .i64 N,.int .i64 K,.int .i64 P,.slice ba bl bc] 31)
 have hs1:=h.below hbw
 have HM0:Hid (Mv A A Z Z w (w.alloc (.cells #[.int .i64 4,.int .i64 N,.int .i64 K,.int .i64 P,.slice ba bl bc] 31))):=Lib.hid (Mv.below hbw)
 have HMA:Hid (w.heap.size∉A):=Lib.hid (fun hb=>by have:=h.alt _ hb;omega)
 obtain ⟨hq1,hq2⟩:=actI_ok N n hn
 have HQ1:=Lib.hid hq1
 obtain ⟨Y,rs,ds,ls,Xs,vr,vd,gu,qv,gv,lv,hs,hz⟩:=hs1
 obtain ⟨gr,kr,evr,hkr,hrow⟩:=ptr_cell hs.rr (by omega)
 subst evr
 obtain ⟨gd,kd,evd,hkd,hrowd⟩:=ptr_cell hs.dr (by omega)
 subst evd
 have hc0:(w.alloc (.cells #[.int .i64 4,.int .i64 N,.int .i64 K,.int .i64 P,.slice ba bl bc] 31)).cell? ⟨c,0,none⟩=some (.slice (some ⟨gr,0,none⟩) n kr):=by rw [cell_heap hs.cell];rfl
 have hc1:(w.alloc (.cells #[.int .i64 4,.int .i64 N,.int .i64 K,.int .i64 P,.slice ba bl bc] 31)).cell? ⟨c,1,none⟩=some (.slice (some ⟨gd,0,none⟩) n kd):=by rw [cell_heap hs.cell];rfl
 have hc2:(w.alloc (.cells #[.int .i64 4,.int .i64 N,.int .i64 K,.int .i64 P,.slice ba bl bc] 31)).cell? ⟨c,2,none⟩=some (.slice (some ⟨gu,0,none⟩) n n):=by rw [cell_heap hs.cell];rfl
 have hk0:(w.alloc (.cells #[.int .i64 4,.int .i64 N,.int .i64 K,.int .i64 P,.slice ba bl bc] 31)).cell? ⟨w.heap.size,0,none⟩=some (.int .i64 4):=by rw [cell_heap hbx];rfl
 have hk1:(w.alloc (.cells #[.int .i64 4,.int .i64 N,.int .i64 K,.int .i64 P,.slice ba bl bc] 31)).cell? ⟨w.heap.size,1,none⟩=some (.int .i64 N):=by rw [cell_heap hbx];rfl
 have hk2:(w.alloc (.cells #[.int .i64 4,.int .i64 N,.int .i64 K,.int .i64 P,.slice ba bl bc] 31)).cell? ⟨w.heap.size,2,none⟩=some (.int .i64 K):=by rw [cell_heap hbx];rfl
 have hk3:(w.alloc (.cells #[.int .i64 4,.int .i64 N,.int .i64 K,.int .i64 P,.slice ba bl bc] 31)).cell? ⟨w.heap.size,3,none⟩=some (.int .i64 P):=by rw [cell_heap hbx];rfl
 have hk4:(w.alloc (.cells #[.int .i64 4,.int .i64 N,.int .i64 K,.int .i64 P,.slice ba bl bc] 31)).cell? ⟨w.heap.size,4,none⟩=some (.slice ba bl bc):=by rw [cell_heap hbx];rfl
 have hrd:=hrowd _ hq2
 have hrq:=hrow _ hq2
 have HS:=Lib.hid hs
 have HZ:=Lib.hid hz
 have HI:=Lib.hid hi
 have HML:Hid (w.heap.size<(w.alloc (.cells #[.int .i64 4,.int .i64 N,.int .i64 K,.int .i64 P,.slice ba bl bc] 31)).heap.size):=Lib.hid (by simp)
 clear hs hz h hi hbw hbx hrow hrowd
 generalize actI N n=q at *
 go_enter Try.func11,Try.ntmps11
 go_upto_region 1 with (fail)
 generalize w.alloc (.cells #[.int .i64 4,.int .i64 N,.int .i64 K,.int .i64 P,.slice ba bl bc] 31)=W at *
 generalize w.heap.size=M at *
 go_cut [4] (fun v wx=>v = .int .i64 (q:Int)∧∃nq,wx=W.drewN nq)
 case first =>
  go_quiet (fail)
  go_wp2_with fail
  go_meet
  exact ⟨by rw [←HQ1.out],nq,rfl⟩
 case rest =>
 obtain ⟨rfl,nq,rfl⟩:=hcut
 have hb1:=below_drewN W nq
 have HS1:=Lib.hid (HS.out.below hb1)
 have M1:Hid (Mv A A Z Z w (W.drewN nq)):=Lib.hid (HM0.out.trans (Mv.below hb1))
 have hup:=HS1.out.upAt q hq2
 have hc0:(W.drewN nq).cell? ⟨c,0,none⟩=some (.slice (some ⟨gr,0,none⟩) n kr):=hc0
 have hc1:(W.drewN nq).cell? ⟨c,1,none⟩=some (.slice (some ⟨gd,0,none⟩) n kd):=hc1
 have hc2:(W.drewN nq).cell? ⟨c,2,none⟩=some (.slice (some ⟨gu,0,none⟩) n n):=hc2
 have hk0:(W.drewN nq).cell? ⟨M,0,none⟩=some (.int .i64 4):=hk0
 have hk1:(W.drewN nq).cell? ⟨M,1,none⟩=some (.int .i64 N):=hk1
 have hk2:(W.drewN nq).cell? ⟨M,2,none⟩=some (.int .i64 K):=hk2
 have hk3:(W.drewN nq).cell? ⟨M,3,none⟩=some (.int .i64 P):=hk3
 have hk4:(W.drewN nq).cell? ⟨M,4,none⟩=some (.slice ba bl bc):=hk4
 have hrd:(W.drewN nq).cell? ⟨gd,q,none⟩=some (.pointer (some ⟨ds q,0,none⟩)):=hrd
 have hrq:(W.drewN nq).cell? ⟨gr,q,none⟩=some (.pointer (some ⟨rs q,0,none⟩)):=hrq
 have HML:Hid (M<(W.drewN nq).heap.size):=Lib.hid HML.out
 have hq3:(q:Int)<(n:Int):=by omega
 clear hb1 HS HM0 hq1 HQ1
 generalize W.drewN nq=W1 at *
 obtain ⟨D,hdk,hDX⟩:=(HS1.out.node q hq2).dk
 have HDX:=Lib.hid hDX
 have hdk2:IsDk W1.drew D (ds q) (S.at q).k:=hdk.below (below_drewN W1 1)
 have HCR:=Lib.hid (crash_any hdk2 P hP1 hP2 (fun l k hf=>⟨(HI.out q hq2).1 l k hf,by
  have h9:=(HI.out q hq2).2
  unfold Dk.total at h9;rw [hf] at h9;exact h9⟩))
 have hXZ:=(HS1.out.node q hq2).xA
 have hcD:c∉D:=fun hm=>HS1.out.yx q hq2 c HS1.out.cY (hDX c hm)
 have hgdD:gd∉D:=fun hm=>HS1.out.yx q hq2 gd (HS1.out.dY gd rfl) (hDX gd hm)
 have hMD:M∉D:=fun hm=>HMA.out (hXZ M (hDX M hm))
 have hs0:W1.drew.cell? ⟨c,1,none⟩=some (.slice (some ⟨gd,0,none⟩) n kd)∧W1.drew.cell? ⟨gd,q,none⟩=some (.pointer (some ⟨ds q,0,none⟩))∧W1.drew.cell? ⟨M,3,none⟩=some (.int .i64 P):=⟨hc1,hrd,hk3⟩
 have HK:Hid (∀w2,Only D W1.drew w2→w2.cell? ⟨c,1,none⟩=some (.slice (some ⟨gd,0,none⟩) n kd)∧w2.cell? ⟨gd,q,none⟩=some (.pointer (some ⟨ds q,0,none⟩))∧w2.cell? ⟨M,3,none⟩=some (.int .i64 P)):=Lib.hid (fun w2 ho=>⟨ho.cell hs0.1 hcD,ho.cell hs0.2.1 hgdD,ho.cell hs0.2.2 hMD⟩)
 have HCD:=Lib.hid hcD
 clear hdk hDX hdk2 hXZ hgdD hMD hcD
 go_upto_region 7 with (fail)
 go_cut [] (fun wx=>∃D',IsDk wx D' (ds q) (crashD (S.at q).k P)∧Moves D D' W1.drew wx)
 case first =>
  as_aux_lemma =>
  refine wp_region_held_drew (S:=fun w'=>w'.cell? ⟨c,1,none⟩=some (.slice (some ⟨gd,0,none⟩) n kd)∧w'.cell? ⟨gd,q,none⟩=some (.pointer (some ⟨ds q,0,none⟩))∧w'.cell? ⟨M,3,none⟩=some (.int .i64 P)) (by kernel_rfl) hs0 (fun hHeld=>?_)
  refine qtl 0 (z0qx0 _) rfl ?_
  refine qtl 1 (z0qx1 _) rfl ?_
  refine qtl 2 (z0qx2 _) rfl ?_
  refine qtl 3 (z0qx3 _) rfl ?_
  refine qtl 4 (z0qx4 _) rfl ?_
  refine qtl 5 (z0qx5 _) rfl ?_
  refine qtl 6 (z0qx6 _) rfl ?_
  refine qtl 7 (z0qx7 _) rfl ?_
  refine qtl 8 (z0qx8 _) rfl ?_
  generalize W1.drew=V1 at *
  refine qr1 9 (z0qx9 _) rfl fun K hK=>?_
  unfold z0qx9
  go_simp
  refine HCR.out.mono ?_
  rintro e W2 ⟨D',rfl,hd2,hm2⟩
  have HD2:=Lib.hid hd2
  have HM2:=Lib.hid hm2
  have hk7:=HK.out _ hm2.only
  clear hd2 hm2
  go_wp2_with fail
  refine hK.out _ _ hk7 (fun hHeld=>?_)
  clear hK K
  refine qsp ?_
  clear hk7
  refine qdn ?_
  clear hHeld
  go_wp2_with fail
  go_meet
  exact ⟨D',HD2.out,HM2.out⟩
 case rest =>
 obtain ⟨D',hd2,hm2⟩:=hcut
 rename World=>W2
 have hs2:SyC W1.drew A Y c n S rs ds ls Xs _ _ gu qv gv lv:=HS1.out.below (below_drewN W1 1)
 have HF:=Lib.hid (SyP.trans (M1.out.trans (Mv.below (below_drewN W1 1))) (hs2.crashed HZ.out hq2 HDX.out hd2 hm2))
 have hce:=hm2.only.keeps hs2.cell HCD.out
 have hue:=hm2.only.keeps hs2.up (fun hm=>hs2.yx q hq2 gu hs2.uY (HDX.out gu hm))
 have hy2:W2.cell? ⟨c,2,none⟩=some (.slice (some ⟨gu,0,none⟩) n n):=by rw [cell_heap hce];rfl
 have hzu:=free_heap hue q
 obtain ⟨zu,hku⟩:∃z,W2.cell? ⟨gu,q,none⟩=some z:=by
  rw [cell_heap hue]
  exact ⟨_,boolsA_at _ _ (by rw [List.length_map,hs2.nl];exact hq2)⟩
 clear hs2 hce hue hd2 hm2 hup
 go_wp2_with fail
 go_end0
 exact ⟨rfl,HF.out⟩
end
end Go.Proofs.Ytnicaicjgaoolaa
namespace Go.Proofs.Ytnicaicjgaoolaa
open Go.RowKit Go.ChangeMaps Go.WideMaps Go.Maps
set_option maxRecDepth 20000
section
variable (p:String)
def z0rx0:Oper:=⟨some 79,.move (.tmp 4),3,p,#[],none⟩
def z0rx1:Oper:=⟨some 80,.move (.tmp 0),25,p,#[],none⟩
def z0rx2:Oper:=⟨some 81,.nilCheck (.tmp 80),0,p,#[⟨1,.data⟩],none⟩
def z0rx3:Oper:=⟨some 82,.fieldAddr 38 (.tmp 81) 0,0,p,#[⟨2,.data⟩],none⟩
def z0rx4:Oper:=⟨some 83,.load 32 (.tmp 82),32,p,#[⟨3,.data⟩],none⟩
def z0rx5:Oper:=⟨some 84,.call { callee:=Callee.builtin Builtin.len,args:=#[.tmp 83],argTypes:=#[32]},3,p,#[⟨4,.data⟩],none⟩
def z0rx6:Oper:=⟨some 85,.move (.tmp 0),25,p,#[],none⟩
def z0rx7:Oper:=⟨some 86,.nilCheck (.tmp 85),0,p,#[⟨6,.data⟩],none⟩
def z0rx8:Oper:=⟨some 87,.fieldAddr 38 (.tmp 86) 1,0,p,#[⟨7,.data⟩],none⟩
def z0rx9:Oper:=⟨some 88,.load 33 (.tmp 87),33,p,#[⟨8,.data⟩],none⟩
def z0rx10:Oper:=⟨some 89,.move (.tmp 4),3,p,#[],none⟩
def z0rx11:Oper:=⟨some 90,.indexAddr 33 (.tmp 88) (.tmp 89),0,p,#[⟨9,.data⟩,⟨10,.data⟩],none⟩
def z0rx12:Oper:=⟨some 91,.load 54 (.tmp 90),54,p,#[⟨11,.data⟩],none⟩
def z0rx13:Oper:=⟨some 92,.call { callee:=Callee.value (Operand.func 21),args:=#[.tmp 79,.tmp 84,.tmp 91],argTypes:=#[3,3,54]},57,p,#[⟨0,.data⟩,⟨5,.data⟩,⟨12,.data⟩],none⟩
def z0rx14:Oper:=⟨some 78,.move (.tmp 92),57,p,#[⟨13,.data⟩],none⟩
def z0rx15:Oper:=⟨some 93,.extract (.tmp 78) 0,39,p,#[⟨14,.data⟩],none⟩
def z0rx16:Oper:=⟨some 94,.extract (.tmp 78) 1,43,p,#[⟨14,.data⟩,⟨17,.gcOnly Departure.lateStores⟩],none⟩
def z0rx17:Oper:=⟨some 5,.assign (.tmp 93),39,p,#[⟨15,.data⟩,⟨13,.chain⟩,⟨0,.phase⟩,⟨1,.phase⟩,⟨2,.phase⟩,⟨3,.phase⟩,⟨4,.phase⟩,⟨5,.phase⟩,⟨6,.phase⟩,⟨7,.phase⟩,⟨8,.phase⟩,⟨9,.phase⟩,⟨10,.phase⟩,⟨11,.phase⟩,⟨12,.phase⟩,⟨13,.phase⟩,⟨14,.phase⟩,⟨15,.phase⟩,⟨16,.textOnly Departure.lateStores⟩],none⟩
def z0rx18:Oper:=⟨some 6,.assign (.tmp 94),43,p,#[⟨16,.data⟩,⟨17,.chain⟩,⟨0,.phase⟩,⟨1,.phase⟩,⟨2,.phase⟩,⟨3,.phase⟩,⟨4,.phase⟩,⟨5,.phase⟩,⟨6,.phase⟩,⟨7,.phase⟩,⟨8,.phase⟩,⟨9,.phase⟩,⟨10,.phase⟩,⟨11,.phase⟩,⟨12,.phase⟩,⟨13,.phase⟩,⟨14,.phase⟩,⟨15,.phase⟩,⟨16,.phase⟩,⟨17,.phase⟩],none⟩
end
attribute [go_sem,reducible] z0rx0 z0rx1 z0rx2 z0rx3 z0rx4 z0rx5 z0rx6 z0rx7 z0rx8 z0rx9 z0rx10 z0rx11 z0rx12 z0rx13 z0rx14 z0rx15 z0rx16 z0rx17 z0rx18
def Mn.back (S:Mn) (n i:Nat):Mn:=if (S.at i).up then S else S.set i ⟨backS i n (S.at i).s (S.at i).k,backK (S.at i).s (S.at i).k,true⟩
section
variable {w w':World} {A A' Y Z Z':List Nat} {c n cl:Nat} {S:Mn} {rs ds ls:Nat→Nat} {Xs:Nat→List Nat} {vr vd:Value} {gu:Nat} {qv gv lv:Value}
set_option maxHeartbeats 4000000 in
theorem do_back (h:Sy w A Z c n S) (hi:∀i,i<n→(S.at i).up=false→DnI (S.at i).s (S.at i).k∧(S.at i).s.n=n∧0≤(S.at i).k.lives∧(S.at i).k.lives≤1000000) (N K P:Int) (ba:Option Addr) (bl bc:Nat) (hn:1≤n) (hn5:n≤5) :
  Calls Try.prog 11 #[.pointer (some ⟨c,0,none⟩),.agg #[.int .i64 5,.int .i64 N,.int .i64 K,.int .i64 P,.slice ba bl bc]] w fun e w'=>e = .returned (.tuple #[])∧SyP w w' A Z c n (S.back n (actI N n)):=by
 have hbw:Below w.heap.size w (w.alloc (.cells #[.int .i64 5,.int .i64 N,.int .i64 K,.int .i64 P,.slice ba bl bc] 31)):=(Below.refl _ _).alloc (Nat.le_refl _) _
 have hbx:=heap_new w (.cells #[.int .i64 5,.int .i64 N,.int .i64 K,.int .i64 P,.slice ba bl bc] 31)
 have hs1:=h.below hbw
 have HM0:Hid (Mv A A Z Z w (w.alloc (.cells #[.int .i64 5,.int .i64 N,.int .i64 K,.int .i64 P,.slice ba bl bc] 31))):=Lib.hid (Mv.below hbw)
 have HMA:Hid (w.heap.size∉A):=Lib.hid (fun hb=>by have:=h.alt _ hb;omega)
 obtain ⟨hq1,hq2⟩:=actI_ok N n hn
 have HQ1:=Lib.hid hq1
 obtain ⟨Y,rs,ds,ls,Xs,vr,vd,gu,qv,gv,lv,hs,hz⟩:=hs1
 obtain ⟨gr,kr,evr,hkr,hrow⟩:=ptr_cell hs.rr (by omega)
 subst evr
 obtain ⟨gd,kd,evd,hkd,hrowd⟩:=ptr_cell hs.dr (by omega)
 subst evd
 have hc0:(w.alloc (.cells #[.int .i64 5,.int .i64 N,.int .i64 K,.int .i64 P,.slice ba bl bc] 31)).cell? ⟨c,0,none⟩=some (.slice (some ⟨gr,0,none⟩) n kr):=by rw [cell_heap hs.cell];rfl
 have hc1:(w.alloc (.cells #[.int .i64 5,.int .i64 N,.int .i64 K,.int .i64 P,.slice ba bl bc] 31)).cell? ⟨c,1,none⟩=some (.slice (some ⟨gd,0,none⟩) n kd):=by rw [cell_heap hs.cell];rfl
 have hc2:(w.alloc (.cells #[.int .i64 5,.int .i64 N,.int .i64 K,.int .i64 P,.slice ba bl bc] 31)).cell? ⟨c,2,none⟩=some (.slice (some ⟨gu,0,none⟩) n n):=by rw [cell_heap hs.cell];rfl
 have hk0:(w.alloc (.cells #[.int .i64 5,.int .i64 N,.int .i64 K,.int .i64 P,.slice ba bl bc] 31)).cell? ⟨w.heap.size,0,none⟩=some (.int .i64 5):=by rw [cell_heap hbx];rfl
 have hk1:(w.alloc (.cells #[.int .i64 5,.int .i64 N,.int .i64 K,.int .i64 P,.slice ba bl bc] 31)).cell? ⟨w.heap.size,1,none⟩=some (.int .i64 N):=by rw [cell_heap hbx];rfl
 have hk2:(w.alloc (.cells #[.int .i64 5,.int .i64 N,.int .i64 K,.int .i64 P,.slice ba bl bc] 31)).cell? ⟨w.heap.size,2,none⟩=some (.int .i64 K):=by rw [cell_heap hbx];rfl
 have hk3:(w.alloc (.cells #[.int .i64 5,.int .i64 N,.int .i64 K,.int .i64 P,.slice ba bl bc] 31)).cell? ⟨w.heap.size,3,none⟩=some (.int .i64 P):=by rw [cell_heap hbx];rfl
 have hk4:(w.alloc (.cells #[.int .i64 5,.int .i64 N,.int .i64 K,.int .i64 P,.slice ba bl bc] 31)).cell? ⟨w.heap.size,4,none⟩=some (.slice ba bl bc):=by rw [cell_heap hbx];rfl
 have hrd:=hrowd _ hq2
 have hrq:=hrow _ hq2
 have HS:=Lib.hid hs
 have HZ:=Lib.hid hz
 have HI:=Lib.hid hi
 have HML:Hid (w.heap.size<(w.alloc (.cells #[.int .i64 5,.int .i64 N,.int .i64 K,.int .i64 P,.slice ba bl bc] 31)).heap.size):=Lib.hid (by simp)
 clear hs hz h hi hbw hbx hrow hrowd
 generalize actI N n=q at *
 go_enter Try.func11,Try.ntmps11
 go_upto_region 1 with (fail)
 generalize w.alloc (.cells #[.int .i64 5,.int .i64 N,.int .i64 K,.int .i64 P,.slice ba bl bc] 31)=W at *
 generalize w.heap.size=M at *
 go_cut [4] (fun v wx=>v = .int .i64 (q:Int)∧∃nq,wx=W.drewN nq)
 case first =>
  go_quiet (fail)
  go_wp2_with fail
  go_meet
  exact ⟨by rw [←HQ1.out],nq,rfl⟩
 case rest =>
 obtain ⟨rfl,nq,rfl⟩:=hcut
 have hb1:=below_drewN W nq
 have HS1:=Lib.hid (HS.out.below hb1)
 have M1:Hid (Mv A A Z Z w (W.drewN nq)):=Lib.hid (HM0.out.trans (Mv.below hb1))
 have hup:=HS1.out.upAt q hq2
 have hc0:(W.drewN nq).cell? ⟨c,0,none⟩=some (.slice (some ⟨gr,0,none⟩) n kr):=hc0
 have hc1:(W.drewN nq).cell? ⟨c,1,none⟩=some (.slice (some ⟨gd,0,none⟩) n kd):=hc1
 have hc2:(W.drewN nq).cell? ⟨c,2,none⟩=some (.slice (some ⟨gu,0,none⟩) n n):=hc2
 have hk0:(W.drewN nq).cell? ⟨M,0,none⟩=some (.int .i64 5):=hk0
 have hk1:(W.drewN nq).cell? ⟨M,1,none⟩=some (.int .i64 N):=hk1
 have hk2:(W.drewN nq).cell? ⟨M,2,none⟩=some (.int .i64 K):=hk2
 have hk3:(W.drewN nq).cell? ⟨M,3,none⟩=some (.int .i64 P):=hk3
 have hk4:(W.drewN nq).cell? ⟨M,4,none⟩=some (.slice ba bl bc):=hk4
 have hrd:(W.drewN nq).cell? ⟨gd,q,none⟩=some (.pointer (some ⟨ds q,0,none⟩)):=hrd
 have hrq:(W.drewN nq).cell? ⟨gr,q,none⟩=some (.pointer (some ⟨rs q,0,none⟩)):=hrq
 have HML:Hid (M<(W.drewN nq).heap.size):=Lib.hid HML.out
 have hq3:(q:Int)<(n:Int):=by omega
 clear hb1 HS HM0 hq1 HQ1
 generalize W.drewN nq=W1 at *
 cases hupq:(S.at q).up with
 | true =>
  rw [hupq] at hup
  have HF:Hid (SyP w W1 A Z c n (S.back n q)):=Lib.hid (by
   unfold Mn.back
   rw [hupq]
   exact (⟨_,_,_,_,_,_,_,_,_,_,_,HS1.out,HZ.out⟩:Sy _ A Z c n S).syp M1.out)
  go_wp2_with fail
  go_end0
  exact ⟨rfl,HF.out⟩
 | false =>
  rw [hupq] at hup
  obtain ⟨hdn,hsn,hl0,hl1⟩:=HI.out q hq2 hupq
  have HBE:Hid (S.back n q=S.set q ⟨backS q n (S.at q).s (S.at q).k,backK (S.at q).s (S.at q).k,true⟩):=Lib.hid (by unfold Mn.back;rw [hupq];rfl)
  have hdk:=(HS1.out.node q hq2).dn hupq
  have hXA:=(HS1.out.node q hq2).xA
  have HON:=Lib.hid (on_any hdk (by omega) hl0)
  obtain ⟨ht,hr,htot,ns,hb,hd,hk,hns⟩:=back_ok hdn
  have HYX:=Lib.hid (HS1.out.yx q hq2)
  have HXA:=Lib.hid hXA
  have HOPEN:Hid (∀V,IsDk V (Xs q) (ds q) (onD (S.at q).k)→(∀b∈A,b<V.heap.size)→Calls Try.prog 21 #[.int .i64 (q:Int),.int .i64 (n:Int),.pointer (some ⟨ds q,0,none⟩)] V fun e w'=>∃r l A' X',e = .returned (.tuple #[.pointer (some ⟨r,0,none⟩),.int .i64 0])∧Nd w' A' X' r (ds q) l (backS q n (S.at q).s (S.at q).k) (backK (S.at q).s (S.at q).k)∧Mv A A' (Xs q) X' V w'):=Lib.hid (fun V hv hA=>by
   have h9:=rpOpen_any (A:=A) hv rfl q n hn5 hq2 ns (by rw [←hb];exact ht) (by rw [←hb];exact hr) htot ((replay_like (rpNew q n (onD (S.at q).k).lives (ns.map Note.bytes)) (rp00 n) rfl rfl rfl rfl ns).2.2.2.2 (by rw [←hsn];exact hk)) hns hA HXA.out
   rw [←hb] at h9
   have e:backS q n (S.at q).s (S.at q).k=replay (rpNew q n ((S.at q).k.lives+1) (backR (S.at q).s (S.at q).k)) ns:=by unfold backS;rw [hd]
   rw [e]
   exact h9)
  clear hdn hsn hl0 hl1 hdk hXA ht hr htot hb hd hk hns
  generalize hsb:backS q n (S.at q).s (S.at q).k=sb at *
  generalize hkb:backK (S.at q).s (S.at q).k=kb at *
  clear hsb hkb
  go_wp2_with fail
  refine HON.out.mono ?_
  rintro e W2 ⟨rfl,hd2,ho2⟩
  have HD2:Hid (IsDk W2 (Xs q) (ds q) (onD (S.at q).k)):=Lib.hid hd2
  have HO2:=Lib.hid ho2
  have hcX:c∉Xs q:=HYX.out c HS1.out.cY
  have hgrX:gr∉Xs q:=HYX.out gr (HS1.out.rY gr rfl)
  have hgdX:gd∉Xs q:=HYX.out gd (HS1.out.dY gd rfl)
  have hguX:gu∉Xs q:=HYX.out gu HS1.out.uY
  have hc0:W2.cell? ⟨c,0,none⟩=some (.slice (some ⟨gr,0,none⟩) n kr):=ho2.cell hc0 hcX
  have hc1:W2.cell? ⟨c,1,none⟩=some (.slice (some ⟨gd,0,none⟩) n kd):=ho2.cell hc1 hcX
  have hrd:W2.cell? ⟨gd,q,none⟩=some (.pointer (some ⟨ds q,0,none⟩)):=ho2.cell hrd hgdX
  have hA2:∀b∈A,b<W2.drew.heap.size:=fun b hb=>Nat.lt_of_lt_of_le (HS1.out.alt b hb) ho2.size
  have hd3:IsDk W2.drew (Xs q) (ds q) (onD (S.at q).k):=HD2.out.below (below_drewN W2 1)
  have HOP:=Lib.hid (HOPEN.out W2.drew hd3 hA2)
  have hs0:W2.drew.cell? ⟨c,0,none⟩=some (.slice (some ⟨gr,0,none⟩) n kr)∧W2.drew.cell? ⟨c,1,none⟩=some (.slice (some ⟨gd,0,none⟩) n kd)∧W2.drew.cell? ⟨gd,q,none⟩=some (.pointer (some ⟨ds q,0,none⟩)):=⟨hc0,hc1,hrd⟩
  have HK:Hid (∀w2,Only (Xs q) W2.drew w2→w2.cell? ⟨c,0,none⟩=some (.slice (some ⟨gr,0,none⟩) n kr)∧w2.cell? ⟨c,1,none⟩=some (.slice (some ⟨gd,0,none⟩) n kd)∧w2.cell? ⟨gd,q,none⟩=some (.pointer (some ⟨ds q,0,none⟩))):=Lib.hid (fun w2 ho=>⟨ho.cell hs0.1 hcX,ho.cell hs0.2.1 hcX,ho.cell hs0.2.2 hgdX⟩)
  have HX:=Lib.hid (And.intro hcX (And.intro hgrX hguX))
  have hD0:Only (Xs q) W1 W2:=ho2
  have HMX:Hid (Mv A A (Xs q) (Xs q) W1 W2.drew):=Lib.hid ((Mv.only hD0 (fun b hb=>hb)).trans (Mv.below (below_drewN W2 1)))
  clear hd2 ho2 hcX hgrX hgdX hguX hA2 hd3 hD0
  go_upto_region 12 with (fail)
  go_cut [5,6] (fun v e6 wx=>e6 = .int .i64 0∧∃r' l' A3 X3,v = .pointer (some ⟨r',0,none⟩)∧Nd wx A3 X3 r' (ds q) l' sb kb∧Mv A A3 (Xs q) X3 W2.drew wx)
  case first =>
   as_aux_lemma =>
   refine wp_region_held_drew (S:=fun w'=>w'.cell? ⟨c,0,none⟩=some (.slice (some ⟨gr,0,none⟩) n kr)∧w'.cell? ⟨c,1,none⟩=some (.slice (some ⟨gd,0,none⟩) n kd)∧w'.cell? ⟨gd,q,none⟩=some (.pointer (some ⟨ds q,0,none⟩))) (by kernel_rfl) hs0 (fun hHeld=>?_)
   refine qtl 0 (z0rx0 _) rfl ?_
   refine qtl 1 (z0rx1 _) rfl ?_
   refine qtl 2 (z0rx2 _) rfl ?_
   refine qtl 3 (z0rx3 _) rfl ?_
   refine qtl 4 (z0rx4 _) rfl ?_
   refine qtl 5 (z0rx5 _) rfl ?_
   refine qtl 6 (z0rx6 _) rfl ?_
   refine qtl 7 (z0rx7 _) rfl ?_
   refine qtl 8 (z0rx8 _) rfl ?_
   refine qtl 9 (z0rx9 _) rfl ?_
   refine qtl 10 (z0rx10 _) rfl ?_
   refine qtl 11 (z0rx11 _) rfl ?_
   refine qtl 12 (z0rx12 _) rfl ?_
   generalize W2.drew=V1 at *
   refine qr1 13 (z0rx13 _) rfl fun K hK=>?_
   unfold z0rx13
   go_simp
   refine HOP.out.mono ?_
   rintro e W3 ⟨r',l',A3,X3,rfl,hn3,hm3⟩
   have HN3:=Lib.hid hn3
   have HM3:=Lib.hid hm3
   have hk12:=HK.out _ hm3.mv.only
   clear hn3 hm3
   go_wp2_with fail
   refine hK.out _ _ hk12 (fun hHeld=>?_)
   clear hK K
   refine qsp ?_
   clear hk12
   refine qtl 14 (z0rx14 _) rfl ?_
   refine qtl 15 (z0rx15 _) rfl ?_
   refine qtl 16 (z0rx16 _) rfl ?_
   refine qtl 17 (z0rx17 _) rfl ?_
   refine qtl 18 (z0rx18 _) rfl ?_
   refine qdn ?_
   clear hHeld
   go_wp2_with fail
   go_meet
   exact ⟨rfl,r',l',A3,X3,rfl,HN3.out,HM3.out⟩
  case rest =>
  obtain ⟨rfl,r',l',A3,X3,rfl,hn3,hm3⟩:=hcut
  rename World=>W3
  have hmm:=HMX.out.trans hm3
  have HF:Hid (SyP w ((W3.setCell ⟨gr,q,none⟩ (ptrV r')).setCell ⟨gu,q,none⟩ (.bool true)) A Z c n (S.back n q)):=Lib.hid (by
   rw [HBE.out]
   exact SyP.trans M1.out (HS1.out.backed (nd:=⟨sb,kb,true⟩) HZ.out hq2 hmm hn3 rfl))
  have hce:=hmm.mv.only.keeps HS1.out.cell HX.out.1
  have hue:=hmm.mv.only.keeps HS1.out.up HX.out.2.2
  have hr1:=rows_only0 HS1.out.rr hmm.mv.only (fun b hb=>by cases hb;exact HX.out.2.1)
  have hge:=rows_at hr1 (show (Value.slice (some ⟨gr,0,none⟩) n kr).ownBlock=some gr from rfl)
  have hne:gu≠gr:=heap_ne hue hge (by decide)
  have hneC:c≠gr:=heap_ne hce hge (by decide)
  have hyr:W3.cell? ⟨gr,q,none⟩=some (.pointer (some ⟨rs q,0,none⟩)):=by
   obtain ⟨g9,k9,e9,_,hrow9⟩:=ptr_cell hr1 (by omega)
   cases e9
   exact hrow9 q hq2
  have hzr:=free_heap hge q
  have hy0:W3.cell? ⟨c,0,none⟩=some (.slice (some ⟨gr,0,none⟩) n kr):=by rw [cell_heap hce];rfl
  have hon:Only [gr] W3 (W3.setCell ⟨gr,q,none⟩ (.pointer (some ⟨r',0,none⟩))):=(Only.refl _ _).setCell (by simp) _
  have hce2:=hon.keeps hce (by simpa using hneC)
  have hue2:=hon.keeps hue (by simpa using hne)
  have hy2:(W3.setCell ⟨gr,q,none⟩ (.pointer (some ⟨r',0,none⟩))).cell? ⟨c,2,none⟩=some (.slice (some ⟨gu,0,none⟩) n n):=by rw [cell_heap hce2];rfl
  obtain ⟨zu,hyu⟩:∃z,(W3.setCell ⟨gr,q,none⟩ (.pointer (some ⟨r',0,none⟩))).cell? ⟨gu,q,none⟩=some z:=by
   rw [cell_heap hue2]
   exact ⟨_,boolsA_at _ _ (by rw [List.length_map,HS1.out.nl];exact hq2)⟩
  have hzu:=free_heap hue2 q
  unfold ptrV at HF
  clear hn3 hm3 hmm hce hue hr1 hge hon hce2 hue2 hup hc0 hc1 hc2 hs0 hk0 hk1 hk2 hk3 hk4 hrd hrq
  go_upto_region 16 with (fail)
  generalize W3.setCell ⟨gr,q,none⟩ (.pointer (some ⟨r',0,none⟩))=W4 at *
  go_wp2_with fail
  go_end0
  exact ⟨rfl,HF.out⟩
end
end Go.Proofs.Ytnicaicjgaoolaa
namespace Go.Proofs.Ytnicaicjgaoolaa
open Go.RowKit Go.ChangeMaps Go.WideMaps Go.Maps
set_option maxRecDepth 20000
/-- a record; none: wherever it points to -/
def ImmZ (w:World) (A:List Nat) (v:Value) (l:List UInt8):Prop:=l.length=0∨Imm w A v l
section
variable {w w':World} {A X:List Nat} {r d l:Nat} {s:Rp} {k:Dk}
theorem ImmZ.below {v:Value} {l:List UInt8} (h:ImmZ w A v l) (hb:Below w.heap.size w w'):ImmZ w' A v l:=h.imp id (fun h=>h.below hb)
theorem submit_z (h:Nd w A X r d l s k) (hw:Wf s k) (ao:Option Addr) (n c:Nat) (rec:List UInt8) (hi:ImmZ w A (.slice ao n c) rec) (hn:n=rec.length) (hnb:n≤1000000):Calls Try.prog 16 #[.pointer (some ⟨r,0,none⟩),.slice ao n c] w fun e w'=>SbP w w' A X r d l e (submitM s k rec):=by
 rcases hi with hi | hi
 ·have HE:Hid (submitM s k rec=([],1,s,k)):=Lib.hid (by unfold submitM;rw [if_pos hi])
  have H:=Lib.hid h
  have hn0:n=0:=by omega
  subst hn0
  clear h hw hn hi
  go_enter Try.func16,Try.ntmps16
  go_wp2_with fail
  go_ret2
  rw [HE.out]
  exact SbP.none (H.out.ndp (Mv.refl _ _ _))
 ·exact submit_any h hw ao n c rec hi hn hnb
end
end Go.Proofs.Ytnicaicjgaoolaa
