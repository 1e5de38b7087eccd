/-
  What the proof of the law leans on: contracts of the program's functions, one behind another. No condition.
-/
import Derived.Test.YtnicaicjgaoolaaT20
import Derived.Test.YtnicaicjgaoolaaT3
set_option linter.unusedVariables false
set_option linter.unusedSimpArgs false
namespace Go.Proofs.Ytnicaicjgaoolaa
open Go.RowKit Go.ChangeMaps Go.WideMaps Go.Maps
set_option maxRecDepth 20000
section
variable (p:String)
def z0dx0:Oper:=⟨some 50,.move (.tmp 0),39,p,#[],none⟩
def z0dx1:Oper:=⟨some 51,.fieldAddr 51 (.tmp 3) 0,0,p,#[],none⟩
def z0dx2:Oper:=⟨some 52,.load 3 (.tmp 51),3,p,#[⟨1,.data⟩],none⟩
def z0dx3:Oper:=⟨some 53,.move (.tmp 0),39,p,#[],none⟩
def z0dx4:Oper:=⟨some 54,.nilCheck (.tmp 53),0,p,#[⟨3,.data⟩],none⟩
def z0dx5:Oper:=⟨some 55,.fieldAddr 66 (.tmp 54) 6,0,p,#[⟨4,.data⟩],none⟩
def z0dx6:Oper:=⟨some 56,.load 2 (.tmp 55),2,p,#[⟨5,.data⟩],none⟩
def z0dx7:Oper:=⟨some 57,.buildSlice 49 3 #[(0,.tmp 56),(1,Operand.const (Value.int IntKind.i64 0)),(2,Operand.const (Value.int IntKind.i64 0))],49,p,#[⟨6,.data⟩],none⟩
def z0dx8:Oper:=⟨some 58,.call { callee:=Callee.value (Operand.func 44),args:=#[.tmp 50,.tmp 52,Operand.const (Value.int IntKind.i64 4),.tmp 57],argTypes:=#[39,3,3,49]},51,p,#[⟨0,.data⟩,⟨2,.data⟩,⟨7,.data⟩],none⟩
def z0dx9:Oper:=⟨some 59,.buildSlice 35 1 #[(0,.tmp 58)],35,p,#[⟨8,.data⟩],none⟩
def z0dx10:Oper:=⟨some 4,.assign (.tmp 59),35,p,#[⟨9,.data⟩,⟨8,.chain⟩,⟨0,.phase⟩,⟨1,.phase⟩,⟨2,.phase⟩,⟨3,.phase⟩,⟨4,.phase⟩,⟨5,.phase⟩,⟨6,.phase⟩,⟨7,.phase⟩,⟨8,.phase⟩,⟨9,.phase⟩],none⟩
def z0dx11:Oper:=⟨some 63,.move (.tmp 0),39,p,#[],none⟩
def z0dx12:Oper:=⟨some 64,.fieldAddr 51 (.tmp 3) 3,0,p,#[],none⟩
def z0dx13:Oper:=⟨some 65,.load 49 (.tmp 64),49,p,#[⟨1,.data⟩],none⟩
def z0dx14:Oper:=⟨some 66,.indexAddr 49 (.tmp 65) (Operand.const (Value.int IntKind.i64 1)),0,p,#[⟨2,.data⟩],none⟩
def z0dx15:Oper:=⟨some 67,.load 2 (.tmp 66),2,p,#[⟨3,.data⟩],none⟩
def z0dx16:Oper:=⟨some 68,.fieldAddr 51 (.tmp 3) 3,0,p,#[],none⟩
def z0dx17:Oper:=⟨some 69,.load 49 (.tmp 68),49,p,#[⟨5,.data⟩],none⟩
def z0dx18:Oper:=⟨some 70,.indexAddr 49 (.tmp 69) (Operand.const (Value.int IntKind.i64 2)),0,p,#[⟨6,.data⟩],none⟩
def z0dx19:Oper:=⟨some 71,.load 2 (.tmp 70),2,p,#[⟨7,.data⟩],none⟩
def z0dx20:Oper:=⟨some 72,.call { callee:=Callee.value (Operand.func 54),args:=#[.tmp 63,.tmp 67,.tmp 71],argTypes:=#[39,2,2]},4,p,#[⟨0,.data⟩,⟨4,.data⟩,⟨8,.data⟩],none⟩
def z0dx21:Oper:=⟨some 73,.unOp UnOp.not 4 (.tmp 72),4,p,#[⟨9,.data⟩],none⟩
def z0dx22:Oper:=⟨some 74,.move (.tmp 0),39,p,#[],none⟩
def z0dx23:Oper:=⟨some 75,.fieldAddr 51 (.tmp 3) 0,0,p,#[],none⟩
def z0dx24:Oper:=⟨some 76,.load 3 (.tmp 75),3,p,#[⟨1,.data⟩],none⟩
def z0dx25:Oper:=⟨some 77,.move (.tmp 0),39,p,#[],none⟩
def z0dx26:Oper:=⟨some 78,.nilCheck (.tmp 77),0,p,#[⟨3,.data⟩],none⟩
def z0dx27:Oper:=⟨some 79,.fieldAddr 66 (.tmp 78) 6,0,p,#[⟨4,.data⟩],none⟩
def z0dx28:Oper:=⟨some 80,.load 2 (.tmp 79),2,p,#[⟨5,.data⟩],none⟩
def z0dx29:Oper:=⟨some 81,.move (.tmp 0),39,p,#[],none⟩
def z0dx30:Oper:=⟨some 82,.nilCheck (.tmp 81),0,p,#[⟨7,.data⟩],none⟩
def z0dx31:Oper:=⟨some 83,.fieldAddr 66 (.tmp 82) 8,0,p,#[⟨8,.data⟩],none⟩
def z0dx32:Oper:=⟨some 84,.load 62 (.tmp 83),62,p,#[⟨9,.data⟩],none⟩
def z0dx33:Oper:=⟨some 85,.call { callee:=Callee.builtin Builtin.len,args:=#[.tmp 84],argTypes:=#[62]},3,p,#[⟨10,.data⟩],none⟩
def z0dx34:Oper:=⟨some 86,.fieldAddr 51 (.tmp 3) 3,0,p,#[],none⟩
def z0dx35:Oper:=⟨some 87,.load 49 (.tmp 86),49,p,#[⟨12,.data⟩],none⟩
def z0dx36:Oper:=⟨some 88,.indexAddr 49 (.tmp 87) (Operand.const (Value.int IntKind.i64 1)),0,p,#[⟨13,.data⟩],none⟩
def z0dx37:Oper:=⟨some 89,.load 2 (.tmp 88),2,p,#[⟨14,.data⟩],none⟩
def z0dx38:Oper:=⟨some 90,.binOp BinOp.sub 2 (.tmp 89) (Operand.const (Value.int IntKind.i64 1)) 2,2,p,#[⟨15,.data⟩],none⟩
def z0dx39:Oper:=⟨some 91,.call { callee:=Callee.builtin Builtin.max,args:=#[.tmp 90,Operand.const (Value.int IntKind.i64 0)],argTypes:=#[2,2]},2,p,#[⟨16,.data⟩],none⟩
def z0dx40:Oper:=⟨some 92,.call { callee:=Callee.builtin Builtin.min,args:=#[.tmp 85,.tmp 91],argTypes:=#[2,2]},2,p,#[⟨11,.data⟩,⟨17,.data⟩],none⟩
def z0dx41:Oper:=⟨some 93,.buildSlice 49 3 #[(0,.tmp 80),(1,Operand.const (Value.int IntKind.i64 0)),(2,.tmp 92)],49,p,#[⟨6,.data⟩,⟨18,.data⟩],none⟩
def z0dx42:Oper:=⟨some 94,.call { callee:=Callee.value (Operand.func 44),args:=#[.tmp 74,.tmp 76,Operand.const (Value.int IntKind.i64 4),.tmp 93],argTypes:=#[39,3,3,49]},51,p,#[⟨0,.data⟩,⟨2,.data⟩,⟨19,.data⟩],none⟩
def z0dx43:Oper:=⟨some 95,.buildSlice 35 1 #[(0,.tmp 94)],35,p,#[⟨20,.data⟩],none⟩
def z0dx44:Oper:=⟨some 4,.assign (.tmp 95),35,p,#[⟨21,.data⟩,⟨20,.chain⟩,⟨0,.phase⟩,⟨1,.phase⟩,⟨2,.phase⟩,⟨3,.phase⟩,⟨4,.phase⟩,⟨5,.phase⟩,⟨6,.phase⟩,⟨7,.phase⟩,⟨8,.phase⟩,⟨9,.phase⟩,⟨10,.phase⟩,⟨11,.phase⟩,⟨12,.phase⟩,⟨13,.phase⟩,⟨14,.phase⟩,⟨15,.phase⟩,⟨16,.phase⟩,⟨17,.phase⟩,⟨18,.phase⟩,⟨19,.phase⟩,⟨20,.phase⟩,⟨21,.phase⟩],none⟩
end
attribute [go_sem,reducible] z0dx0 z0dx1 z0dx2 z0dx3 z0dx4 z0dx5 z0dx6 z0dx7 z0dx8 z0dx9 z0dx10 z0dx11 z0dx12 z0dx13 z0dx14 z0dx15 z0dx16 z0dx17 z0dx18 z0dx19 z0dx20 z0dx21 z0dx22 z0dx23 z0dx24 z0dx25 z0dx26 z0dx27 z0dx28 z0dx29 z0dx30 z0dx31 z0dx32 z0dx33 z0dx34 z0dx35 z0dx36 z0dx37 z0dx38 z0dx39 z0dx40 z0dx41 z0dx42 z0dx43 z0dx44
section
variable {w w':World} {A A' X X':List Nat} {r d l:Nat} {s s':Rp} {k k':Dk}
def layBad (s:Rp) (m:Msg):Bool := !(m.N.length==4+m.B.length)||decide (m.N.getD 1 0<0)||(m.N.getD 0 0==s.term&&s.leads)
theorem lays_bad (m:Msg) (h:layBad s m=true):laysM s k m=([],s,k):=by unfold laysM;rw [if_pos (by exact h)]
theorem lays_old (m:Msg) (h:layBad s m=false) (h2:m.N.getD 0 0<s.term):laysM s k m=([sayM s m.frm 4 [s.term,0,0]],s,k):=by
 unfold laysM;rw [if_neg (by show ¬layBad s m=true;rw [h];decide),if_pos h2]
theorem lays_unfit (m:Msg) (h:layBad s m=false) (h2:¬m.N.getD 0 0<s.term) (h3:fitsM { s with ticks:=0 } (m.N.getD 1 0) (m.N.getD 2 0)=false):laysM s k m=([sayM { s with ticks:=0 } m.frm 4 [s.term,0,min (s.log.length:Int) (max (m.N.getD 1 0 - 1) 0)]],{ s with ticks:=0 },k):=by
 unfold laysM
 rw [if_neg (by show ¬layBad s m=true;rw [h];decide),if_neg h2]
 simp only
 rw [if_neg (by rw [h3];decide)]
theorem lays_fit (m:Msg) (f:Nat) (h:layBad s m=false) (h2:¬m.N.getD 0 0<s.term) (h3:fitsM { s with ticks:=0 } (m.N.getD 1 0) (m.N.getD 2 0)=true) (hf:m.N.getD 1 0=(f:Int)):laysM s k m =
  (let p:=laysF f ((m.N.drop 4).zip m.B) 0 { s with ticks:=0 } k
   if p.1 then
    let q:=if m.B.length=0 then p.2 else syncM p.2.1 p.2.2
    if 0<m.B.length∧q.1.done=true then ([],q) else
    let s2:=agreeM q.1 (min (m.N.getD 3 0) ((f+m.B.length:Nat):Int)).toNat
    ([sayM s2 m.frm 4 [s2.term,1,((f+m.B.length:Nat):Int)]],s2,q.2)
   else ([],p.2)):=by
 unfold laysM
 rw [if_neg (by show ¬layBad s m=true;rw [h];decide),if_neg h2]
 simp only
 rw [if_pos h3,hf,Int.toNat_natCast]
theorem zip_step (m:Msg) (j:Nat) (h1:4+j<m.N.length) (h2:j<m.B.length):((m.N.drop 4).zip m.B).drop j=(m.N.getD (4+j) 0,m.B.getD j [])::((m.N.drop 4).zip m.B).drop (j+1):=by
 have hl:j<((m.N.drop 4).zip m.B).length:=by rw [List.length_zip,List.length_drop];omega
 rw [List.drop_eq_getElem_cons hl]
 congr 1
 simp [List.getElem_zip,List.getD,h1,h2]
set_option maxHeartbeats 80000000 in
theorem lays_no (h:Nd w A X r d l s k) (hw:Wf s k) (m:Msg) (v u:Value) (hm:IsMsg w A m v u) (hlen:2≤m.N.length) (hle:m.N.getD 0 0≤s.term) (hN1m:m.N.getD 1 0≤4611686018427387904) (hB:m.B.length≤1000000) (HC:Hid (¬(layBad s m=false∧¬m.N.getD 0 0<s.term∧fitsM { s with ticks:=0 } (m.N.getD 1 0) (m.N.getD 2 0)=true))) :
  Calls Try.prog 37 #[.pointer (some ⟨r,0,none⟩),msgV m v u] w fun e w'=>MsP w w' A X r d l e (laysM s k m):=by
 have hbw:Below w.heap.size w (w.alloc (.cells (msgC m v u) 51)):=(Below.refl _ _).alloc (Nat.le_refl _) _
 have h1:=h.below hbw
 have HM0:Hid (Mv A A X X w (w.alloc (.cells (msgC m v u) 51))):=Lib.hid (Mv.below hbw)
 obtain ⟨b,off,c,ev,hlc⟩:=layC_new h.alt hm (by omega)
 subst ev
 obtain ⟨ub,bc,eu⟩:=bs_shape hm.b
 subst eu
 have hM0:(w.alloc (.cells (msgC m (.slice (some ⟨b,off,none⟩) m.N.length c) (.slice ub m.B.length bc)) 51)).cell? ⟨w.heap.size,0,none⟩=some (.int .i64 m.frm):=by rw [cell_heap hlc.cell];rfl
 have hM3:(w.alloc (.cells (msgC m (.slice (some ⟨b,off,none⟩) m.N.length c) (.slice ub m.B.length bc)) 51)).cell? ⟨w.heap.size,3,none⟩=some (.slice (some ⟨b,off,none⟩) m.N.length c):=by rw [cell_heap hlc.cell];rfl
 have hM4:(w.alloc (.cells (msgC m (.slice (some ⟨b,off,none⟩) m.N.length c) (.slice ub m.B.length bc)) 51)).cell? ⟨w.heap.size,4,none⟩=some (.slice ub m.B.length bc):=by rw [cell_heap hlc.cell];rfl
 have hN0:=hlc.nums 0 (by omega)
 have hN1:=hlc.nums 1 (by omega)
 rw [Nat.add_zero] at hN0
 obtain ⟨al,cl,hc8,hl1,hl2⟩:=h1.loglen
 obtain ⟨vl,gv0,gn0,gm0,gh0,hcell⟩:=h1.cells
 have hc6:(w.alloc (.cells (msgC m (.slice (some ⟨b,off,none⟩) m.N.length c) (.slice ub m.B.length bc)) 51)).cell? ⟨r,6,none⟩=some (.int .i64 s.term):=by rw [cell_heap hcell];rfl
 have hc15:(w.alloc (.cells (msgC m (.slice (some ⟨b,off,none⟩) m.N.length c) (.slice ub m.B.length bc)) 51)).cell? ⟨r,15,none⟩=some (.int .i64 (s.ticks:Int)):=by rw [cell_heap hcell];rfl
 have hz15:=free_heap hcell 15
 have hc11:(w.alloc (.cells (msgC m (.slice (some ⟨b,off,none⟩) m.N.length c) (.slice ub m.B.length bc)) 51)).cell? ⟨r,11,none⟩=some (.bool s.leads):=by rw [cell_heap hcell];rfl
 have HN1:=Lib.hid h1
 have HW:=Lib.hid hw
 have HLC:=Lib.hid hlc
 have HBAD:=Lib.hid (lays_bad (s:=s) (k:=k) m)
 have HOLD:=Lib.hid (lays_old (s:=s) (k:=k) m)
 have HUNF:=Lib.hid (lays_unfit (s:=s) (k:=k) m)
 have HFIT:=Lib.hid (lays_fit (s:=s) (k:=k) m)
 have HBE:Hid (layBad s m=(!(m.N.length==4+m.B.length)||decide (m.N.getD 1 0<0)||(m.N.getD 0 0==s.term&&s.leads))):=Lib.hid rfl
 have HSAYG:Hid (∀(W8:World) A8 X8 s8 k8,Nd W8 A8 X8 r d l s8 k8→∀W9,Below W8.heap.size W8 W9→∀dst kind N ao n c,Calls Try.prog 44 #[.pointer (some ⟨r,0,none⟩),.int .i64 dst,.int .i64 kind,.slice ao n c] W9 fun e w2=>e = .returned (msgV (sayM s8 dst kind N) (.slice ao n c) (.slice none 0 0))∧Below W9.heap.size W9 w2):=Lib.hid (fun W8 A8 X8 s8 k8 h W9 hb dst kind N ao n c=>say_any (h.below hb) dst kind N ao n c)
 have hl0:(0:Int)<(m.N.length:Int):=by omega
 have hl1':(1:Int)<(m.N.length:Int):=by omega
 have q1:IntKind.i64.wrap (4+(m.B.length:Int))=4+(m.B.length:Int):=IntWalk.i64_in _ (by omega)
 have HNL:Hid (∃z,z=m.N):=Lib.hid ⟨_,rfl⟩
 clear h h1 hw hm hcell hbw hlc
 unfold msgV msgC at *
 go_enter Try.func37,Try.ntmps37
 go_upto_region 1 with (fail)
 generalize hWW:w.alloc (.cells #[.int .i64 m.frm,.int .i64 m.dst,.int .i64 m.kind,.slice (some ⟨b,off,none⟩) m.N.length c,.slice ub m.B.length bc] 51)=W at *
 generalize hMM:w.heap.size=M at *
 generalize hn0:m.N.getD 0 0=n0 at *
 generalize hn1:m.N.getD 1 0=n1 at *
 generalize hn2:m.N.getD 2 0=n2 at *
 generalize hn3:m.N.getD 3 0=n3 at *
 generalize hnl:m.N.length=nl at *
 generalize hbl:m.B.length=bl at *
 have HDR:=Lib.hid (fun a b=>drewN_drewN W a b)
 go_cut [40] (fun v wx=>v = .bool (!(nl==4+bl)||decide (n1<0)||(n0==s.term&&s.leads))∧∃q,wx=W.drewN q)
 case first =>
  by_cases h4:nl=4+bl
  ·subst h4
   have E4:Hid ((4+bl==4+bl)=true):=Lib.hid (by simp)
   cases b1:decide (n1<0) with
   | true =>
    go_quiet (fail)
    go_wp2_with fail
    go_meet
    exact ⟨by rw [E4.out,b1];rfl,nq,rfl⟩
   | false =>
    cases b2:n0==s.term with
    | false =>
     go_quiet (fail)
     go_wp2_with fail
     go_meet
     exact ⟨by rw [E4.out,b1,b2];rfl,nq,rfl⟩
    | true =>
     go_quiet (fail)
     go_wp2_with fail
     go_meet
     exact ⟨by rw [E4.out,b1,b2];rfl,nq,rfl⟩
  ·have g4:((nl:Int) != 4+(bl:Int))=true:=by rw [bne_iff_ne];omega
   have e4:(nl==4+bl)=false:=by simpa using h4
   go_quiet (fail)
   go_wp2_with fail
   go_meet
   exact ⟨by rw [e4];rfl,nq,rfl⟩
 case rest =>
 obtain ⟨rfl,q2,rfl⟩:=hcut
 cases hno:(!(nl==4+bl)||decide (n1<0)||(n0==s.term&&s.leads)) with
 | true =>
  have HE:=Lib.hid (HBAD.out (HBE.out.trans hno))
  go_wp2_with fail
  go_ret
  rw [HE.out]
  exact MsP.none (NdP.trans (HM0.out.trans (Mv.below (below_drewN W q2))) ((HN1.out.below (below_drewN W q2)).ndp (Mv.refl _ _ _)))
 | false =>
  have HNB:=Lib.hid (HBE.out.trans hno)
  simp only [Bool.or_eq_false_iff,Bool.not_eq_false',decide_eq_false_iff_not,beq_iff_eq,Bool.and_eq_false_imp] at hno
  obtain ⟨⟨h4,h5⟩,h6⟩:=hno
  subst h4
  go_upto_region 3 with (fail)
  by_cases hold:n0<s.term
  ·have HE:=Lib.hid (HOLD.out HNB.out hold)
   have g1:decide (n0<s.term)=true:=decide_eq_true hold
   go_quiet (fail)
   go_upto_region 4 with (fail)
   (try rw [drewN_drewN W q2 nq])
   obtain ⟨st8,hst8⟩:∃st8,st8=s.term:=⟨_,rfl⟩
   obtain ⟨s8,hs8⟩:∃s8,s8=s:=⟨_,rfl⟩
   obtain ⟨k8,hk8⟩:∃k8,k8=k:=⟨_,rfl⟩
   obtain ⟨A8,hA8⟩:∃A8,A8=A:=⟨_,rfl⟩
   obtain ⟨X8,hX8⟩:∃X8,X8=X:=⟨_,rfl⟩
   have h8:Nd (W.drewN (q2+nq)).drew A8 X8 r d l s8 k8:=by rw [hs8,hk8,hA8,hX8];exact (HN1.out.below (below_drewN W (q2+nq))).below (below_drewN _ 1)
   have M8:Hid (Mv A A8 X X8 w (W.drewN (q2+nq)).drew):=Lib.hid (by rw [hA8,hX8];exact (HM0.out.trans (Mv.below (below_drewN W (q2+nq)))).trans (Mv.below (below_drewN _ 1)))
   have hMV:(W.drewN (q2+nq)).drew.cell? ⟨M,0,none⟩=some (.int .i64 m.frm):=hM0
   have hr6:(W.drewN (q2+nq)).drew.cell? ⟨r,6,none⟩=some (.int .i64 st8):=by rw [hst8];exact hc6
   have HE:Hid (laysM s k m=([sayM s8 m.frm 4 [st8,0,0]],s8,k8)):=Lib.hid (by rw [hs8,hk8,hst8];exact HE.out)
   clear hc6 hc8 hc11 hc15 hz15 hM0 hM3 hM4 hN0 hN1 hst8 hs8 hk8 hA8 hX8 hl0 hl1'
   generalize W.drewN (q2+nq)=W8 at *
   have HK8:Hid (∀W',Below W8.drew.heap.size W8.drew W'→W'.cell? ⟨M,0,none⟩=some (.int .i64 m.frm)∧W'.cell? ⟨r,6,none⟩=some (.int .i64 st8)):=Lib.hid (fun W' hb=>⟨cell_later hb hMV,cell_later hb hr6⟩)
   have HSAY:=Lib.hid (HSAYG.out _ _ _ _ _ h8)
   have HA8:=Lib.hid h8.alt
   have HBV:Hid (∀o,Below W8.drew.heap.size W8.drew (W8.drew.alloc o)):=Lib.hid (fun o=>(Below.refl _ _).alloc (Nat.le_refl _) o)
   have HF8:Hid (∀V10 vv N,Below W8.drew.heap.size W8.drew V10→ImmI V10 A8 vv N→MsP w (V10.alloc (.cells (msgC (sayM s8 m.frm 4 N) vv (.slice none 0 0)) 51)) A X r d l (.returned (.slice (some ⟨V10.heap.size,0,none⟩) 1 1)) ([sayM s8 m.frm 4 N],s8,k8)):=Lib.hid (fun V10 vv N hb hi=>MsP.trans M8.out (one_ms h8 hb (sayM s8 m.frm 4 N) vv (.slice none 0 0) ⟨hi,.inl ⟨rfl,rfl⟩⟩))
   unfold msgC at HF8
   refine wp_region_held_drew (S:=fun w'=>w'.cell? ⟨M,0,none⟩=some (.int .i64 m.frm)∧w'.cell? ⟨r,6,none⟩=some (.int .i64 st8)) (by kernel_rfl) (HK8.out _ (Below.refl _ _)) (fun hHeld=>?_)
   refine qtl 0 (z0dx0 _) rfl ?_
   refine qtl 1 (z0dx1 _) rfl ?_
   refine qtl 2 (z0dx2 _) rfl ?_
   refine qtl 3 (z0dx3 _) rfl ?_
   refine qtl 4 (z0dx4 _) rfl ?_
   refine qtl 5 (z0dx5 _) rfl ?_
   refine qtl 6 (z0dx6 _) rfl ?_
   generalize W8.drew=V8 at *
   refine qr1 7 (z0dx7 _) rfl fun K hK=>?_
   unfold z0dx7
   go_simp
   refine hK.out _ _ (HK8.out _ (HBV.out (.cells #[.int .i64 st8,.int .i64 0,.int .i64 0] 2))) (fun hHeld=>?_)
   clear hK K
   refine qsp ?_
   have HI8:Hid (ImmI (V8.alloc (.cells #[.int .i64 st8,.int .i64 0,.int .i64 0] 2)) A8 (.slice (some ⟨V8.heap.size,0,none⟩) 3 3) [st8,0,0]):=Lib.hid (ImmI.fresh [st8,0,0] _ rfl 2 3 rfl (by omega) HA8.out)
   have HB8:=Lib.hid (HBV.out (.cells #[.int .i64 st8,.int .i64 0,.int .i64 0] 2))
   generalize V8.alloc (.cells #[.int .i64 st8,.int .i64 0,.int .i64 0] 2)=V9 at *
   refine qr1 8 (z0dx8 _) rfl fun K hK=>?_
   unfold z0dx8
   go_simp
   refine (HSAY.out _ HB8.out _ _ [st8,0,0] _ _ _).mono ?_
   rintro e V10 ⟨rfl,hb10⟩
   have HB10:=Lib.hid (HB8.out.trans (hb10.mono HB8.out.size))
   have HI10:=Lib.hid (HI8.out.below hb10)
   clear hb10
   go_wp2_with fail
   refine hK.out _ _ (HK8.out _ HB10.out) (fun hHeld=>?_)
   clear hK K
   refine qsp ?_
   refine qr1 9 (z0dx9 _) rfl fun K hK=>?_
   unfold z0dx9
   (try unfold msgV)
   go_simp
   refine hK.out _ _ (HK8.out _ (HB10.out.alloc HB10.out.size _)) (fun hHeld=>?_)
   clear hK K
   refine qsp ?_
   refine qtl 10 (z0dx10 _) rfl ?_
   refine qdn ?_
   clear hHeld
   go_wp2_with fail
   go_ret
   rw [HE.out]
   exact HF8.out _ _ _ HB10.out HI10.out
  ·have g1:decide (n0<s.term)=false:=decide_eq_false hold
   have HLD:Hid (s.leads=false):=Lib.hid (h6 (by omega))
   go_quiet (fail)
   go_upto_region 6 with (fail)
   (try rw [drewN_drewN W q2 nq])
   have hlb:=HW.out.logb
   have hrA:r∈A:=HN1.out.xA r HN1.out.rX
   have HN5:Hid (NdP (W.drewN (q2+nq)) ((W.drewN (q2+nq)).setCell ⟨r,15,none⟩ (.int .i64 0)) A X r d l { s with ticks:=0 } k):=Lib.hid (by
    refine Nd.scal (HN1.out.below (below_drewN W (q2+nq))) ((Only.refl _ _).setCell (by simp) _) ?_ rfl rfl rfl rfl rfl rfl
    intro vl gv gn gm gh hc
    rw [heap_set hc]
    rfl)
   have HLC5:Hid (LayC ((W.drewN (q2+nq)).setCell ⟨r,15,none⟩ (.int .i64 0)) A M m b off c (.slice ub bl bc)):=Lib.hid ((HLC.out.below (below_drewN W (q2+nq))).step (S:=[r]) ((Only.refl _ _).setCell (by simp) _) (by simpa using hrA) (Ext.refl _ _))
   have HO5:Hid (Only [r] (W.drewN (q2+nq)) ((W.drewN (q2+nq)).setCell ⟨r,15,none⟩ (.int .i64 0))):=Lib.hid ((Only.refl _ _).setCell (by simp) _)
   have HW5:Hid (Wf { s with ticks:=0 } k):=Lib.hid (wf_scal HW.out s.lives 0 s.clock s.votes (Nat.zero_le _) HW.out.vl (Nat.le_refl _))
   have HMD:Hid (Mv A A X X w (W.drewN (q2+nq))):=Lib.hid (HM0.out.trans (Mv.below (below_drewN W (q2+nq))))
   clear hc6 hc8 hc11 hc15 hz15 hM0 hM3 hM4 hN0 hN1 h6
   generalize (W.drewN (q2+nq)).setCell ⟨r,15,none⟩ (.int .i64 0)=W5 at *
   obtain ⟨A5,X5,h5n,m5⟩:=HN5.out
   have hX5A:∀x∈[r],x∈A:=by simpa using hrA
   have HLC5:Hid (LayC W5 A5 M m b off c (.slice ub bl bc)):=Lib.hid ((HLC.out.below (below_drewN W (q2+nq))).step HO5.out hX5A m5.ext)
   have M5:=Lib.hid (HMD.out.trans m5)
   have H5:=Lib.hid h5n
   clear m5 HO5 HMD hX5A
   have hm3:W5.drew.cell? ⟨M,3,none⟩=some (.slice (some ⟨b,off,none⟩) (4+bl) c):=by
    have h9:=cell_heap HLC5.out.cell 3
    rw [show (4+bl)=m.N.length from hnl.symm]
    exact h9
   have hn1c:W5.drew.cell? ⟨b,off+1,none⟩=some (.int .i64 n1):=by rw [←hn1];exact HLC5.out.nums 1 (by omega)
   have hn2c:W5.drew.cell? ⟨b,off+2,none⟩=some (.int .i64 n2):=by rw [←hn2];exact HLC5.out.nums 2 (by omega)
   have h5d:Nd W5.drew A5 X5 r d l { s with ticks:=0 } k:=h5n.below (below_drewN W5 1)
   have HFT:=Lib.hid (fits_any h5d n1 n2 (by omega) (show s.log.length≤1000000 by omega))
   have hl2':(2:Int)<(4:Int)+(bl:Int):=by omega
   have hl1b:(1:Int)<(4:Int)+(bl:Int):=by omega
   have HUNF:=Lib.hid (HUNF.out HNB.out hold)
   have HFIT:=Lib.hid (fun f hf h3=>HFIT.out f HNB.out hold h3 hf)
   generalize hs5:({ s with ticks:=0 }:Rp)=s5 at *
   have HS5:Hid (s5.term=s.term∧s5.log=s.log∧s5.leads=s.leads):=Lib.hid (by rw [←hs5];exact ⟨rfl,rfl,rfl⟩)
   have HOLDF:=Lib.hid hold
   clear h5n hs5 hold h5d
   go_cut [73] (fun v wx=>v = .bool (!fitsM s5 n1 n2)∧wx=W5.drew)
   case first =>
    refine wp_region_held_drew (S:=fun w'=>w'.cell? ⟨M,3,none⟩=some (.slice (some ⟨b,off,none⟩) (4+bl) c)∧w'.cell? ⟨b,off+1,none⟩=some (.int .i64 n1)∧w'.cell? ⟨b,off+2,none⟩=some (.int .i64 n2)) (by kernel_rfl) ⟨hm3,hn1c,hn2c⟩ (fun hHeld=>?_)
    refine qtl 0 (z0dx11 _) rfl ?_
    refine qtl 1 (z0dx12 _) rfl ?_
    refine qtl 2 (z0dx13 _) rfl ?_
    refine qtl 3 (z0dx14 _) rfl ?_
    refine qtl 4 (z0dx15 _) rfl ?_
    refine qtl 5 (z0dx16 _) rfl ?_
    refine qtl 6 (z0dx17 _) rfl ?_
    refine qtl 7 (z0dx18 _) rfl ?_
    refine qtl 8 (z0dx19 _) rfl ?_
    generalize W5.drew=V6 at *
    refine qr1 9 (z0dx20 _) rfl fun K hK=>?_
    unfold z0dx20
    go_simp
    refine HFT.out.mono ?_
    rintro e wa ⟨rfl,rfl⟩
    go_wp2_with fail
    refine hK.out _ _ hHeld (fun hHeld=>?_)
    clear hK K
    refine qsp ?_
    refine qtl 10 (z0dx21 _) rfl ?_
    refine qdn ?_
    clear hHeld
    go_wp2_with fail
    go_meet
    exact ⟨rfl,rfl⟩
   case rest =>
   obtain ⟨rfl,rfl⟩:=hcut
   have H6:Hid (Nd W5.drew A5 X5 r d l s5 k):=Lib.hid (H5.out.below (below_drewN W5 1))
   have HLC6:Hid (LayC W5.drew A5 M m b off c (.slice ub bl bc)):=Lib.hid (HLC5.out.below (below_drewN W5 1))
   have M6:Hid (Mv A A5 X X5 w W5.drew):=Lib.hid (M5.out.trans (Mv.below (below_drewN W5 1)))
   clear HFT H5 M5 HLC5
   generalize W5.drew=W6 at *
   cases hft:fitsM s5 n1 n2 with
   | false =>
    have HE:=Lib.hid (HUNF.out hft)
    go_upto_region 7 with (fail)
    obtain ⟨st8,hst8⟩:∃st8,st8=s5.term:=⟨_,rfl⟩
    obtain ⟨s8,hs8⟩:∃s8,s8=s5:=⟨_,rfl⟩
    obtain ⟨k8,hk8⟩:∃k8,k8=k:=⟨_,rfl⟩
    obtain ⟨A8,hA8⟩:∃A8,A8=A5:=⟨_,rfl⟩
    obtain ⟨X8,hX8⟩:∃X8,X8=X5:=⟨_,rfl⟩
    obtain ⟨sl8,hsl8⟩:∃sl8,sl8=s5.log.length:=⟨_,rfl⟩
    have h8:Nd W6.drew A8 X8 r d l s8 k8:=by rw [hs8,hk8,hA8,hX8];exact H6.out.below (below_drewN _ 1)
    have M8:Hid (Mv A A8 X X8 w W6.drew):=Lib.hid (by rw [hA8,hX8];exact M6.out.trans (Mv.below (below_drewN _ 1)))
    have HLC8:Hid (LayC W6.drew A5 M m b off c (.slice ub bl bc)):=Lib.hid (HLC6.out.below (below_drewN W6 1))
    have hMV:W6.drew.cell? ⟨M,0,none⟩=some (.int .i64 m.frm):=by
     have h9:=(cell_heap HLC8.out.cell 0).trans (show _=some (Value.int .i64 m.frm) from rfl)
     exact h9
    have hm3:W6.drew.cell? ⟨M,3,none⟩=some (.slice (some ⟨b,off,none⟩) (4+bl) c):=hm3
    have hn1c:W6.drew.cell? ⟨b,off+1,none⟩=some (.int .i64 n1):=hn1c
    obtain ⟨al8,cl8,hr8,hl8,hl82⟩:=h8.loglen
    rw [hs8,←hsl8] at hr8 hl8
    have hr6:W6.drew.cell? ⟨r,6,none⟩=some (.int .i64 st8):=by
     obtain ⟨vl,gv,gn,gm,gh,hcell⟩:=h8.cells
     rw [cell_heap hcell,hst8,hs8];rfl
    have HE:Hid (laysM s k m=([sayM s8 m.frm 4 [st8,0,min (sl8:Int) (max (n1 - 1) 0)]],s8,k8)):=Lib.hid (by rw [hs8,hk8,hst8,hsl8,HS5.out.1,HS5.out.2.1];exact HE.out)
    have q3:IntKind.i64.wrap (n1 - 1)=n1 - 1:=IntWalk.i64_in _ (by omega)
    clear hst8 hs8 hk8 hA8 hX8 hn2c hsl8
    generalize hgW:W6=W8 at *
    have HK8:Hid (∀W',Below W8.drew.heap.size W8.drew W'→W'.cell? ⟨M,0,none⟩=some (.int .i64 m.frm)∧W'.cell? ⟨r,6,none⟩=some (.int .i64 st8)∧W'.cell? ⟨r,8,none⟩=some (.slice al8 sl8 cl8)∧W'.cell? ⟨M,3,none⟩=some (.slice (some ⟨b,off,none⟩) (4+bl) c)∧W'.cell? ⟨b,off+1,none⟩=some (.int .i64 n1)):=Lib.hid (fun W' hb=>⟨cell_later hb hMV,cell_later hb hr6,cell_later hb hr8,cell_later hb hm3,cell_later hb hn1c⟩)
    have HSAY:=Lib.hid (HSAYG.out _ _ _ _ _ h8)
    have HA8:=Lib.hid h8.alt
    have HBV:Hid (∀o,Below W8.drew.heap.size W8.drew (W8.drew.alloc o)):=Lib.hid (fun o=>(Below.refl _ _).alloc (Nat.le_refl _) o)
    have HF8:Hid (∀V10 vv N,Below W8.drew.heap.size W8.drew V10→ImmI V10 A8 vv N→MsP w (V10.alloc (.cells (msgC (sayM s8 m.frm 4 N) vv (.slice none 0 0)) 51)) A X r d l (.returned (.slice (some ⟨V10.heap.size,0,none⟩) 1 1)) ([sayM s8 m.frm 4 N],s8,k8)):=Lib.hid (fun V10 vv N hb hi=>MsP.trans M8.out (one_ms h8 hb (sayM s8 m.frm 4 N) vv (.slice none 0 0) ⟨hi,.inl ⟨rfl,rfl⟩⟩))
    unfold msgC at HF8
    refine wp_region_held_drew (S:=fun w'=>w'.cell? ⟨M,0,none⟩=some (.int .i64 m.frm)∧w'.cell? ⟨r,6,none⟩=some (.int .i64 st8)∧w'.cell? ⟨r,8,none⟩=some (.slice al8 sl8 cl8)∧w'.cell? ⟨M,3,none⟩=some (.slice (some ⟨b,off,none⟩) (4+bl) c)∧w'.cell? ⟨b,off+1,none⟩=some (.int .i64 n1)) (by kernel_rfl) (HK8.out _ (Below.refl _ _)) (fun hHeld=>?_)
    refine qtl 0 (z0dx22 _) rfl ?_
    refine qtl 1 (z0dx23 _) rfl ?_
    refine qtl 2 (z0dx24 _) rfl ?_
    refine qtl 3 (z0dx25 _) rfl ?_
    refine qtl 4 (z0dx26 _) rfl ?_
    refine qtl 5 (z0dx27 _) rfl ?_
    refine qtl 6 (z0dx28 _) rfl ?_
    refine qtl 7 (z0dx29 _) rfl ?_
    refine qtl 8 (z0dx30 _) rfl ?_
    refine qtl 9 (z0dx31 _) rfl ?_
    refine qtl 10 (z0dx32 _) rfl ?_
    refine qtl 11 (z0dx33 _) rfl ?_
    refine qtl 12 (z0dx34 _) rfl ?_
    refine qtl 13 (z0dx35 _) rfl ?_
    refine qtl 14 (z0dx36 _) rfl ?_
    refine qtl 15 (z0dx37 _) rfl ?_
    refine qtl 16 (z0dx38 _) rfl ?_
    refine qtl 17 (z0dx39 _) rfl ?_
    refine qtl 18 (z0dx40 _) rfl ?_
    generalize W8.drew=V8 at *
    refine qr1 19 (z0dx41 _) rfl fun K hK=>?_
    unfold z0dx41
    go_simp
    refine hK.out _ _ (HK8.out _ (HBV.out (.cells #[.int .i64 st8,.int .i64 0,.int .i64 (min (sl8:Int) (max (n1 - 1) 0))] 2))) (fun hHeld=>?_)
    clear hK K
    refine qsp ?_
    have HI8:Hid (ImmI (V8.alloc (.cells #[.int .i64 st8,.int .i64 0,.int .i64 (min (sl8:Int) (max (n1 - 1) 0))] 2)) A8 (.slice (some ⟨V8.heap.size,0,none⟩) 3 3) [st8,0,min (sl8:Int) (max (n1 - 1) 0)]):=Lib.hid (ImmI.fresh [st8,0,min (sl8:Int) (max (n1 - 1) 0)] _ rfl 2 3 rfl (by omega) HA8.out)
    have HB8:=Lib.hid (HBV.out (.cells #[.int .i64 st8,.int .i64 0,.int .i64 (min (sl8:Int) (max (n1 - 1) 0))] 2))
    generalize V8.alloc (.cells #[.int .i64 st8,.int .i64 0,.int .i64 (min (sl8:Int) (max (n1 - 1) 0))] 2)=V9 at *
    refine qr1 20 (z0dx42 _) rfl fun K hK=>?_
    unfold z0dx42
    go_simp
    refine (HSAY.out _ HB8.out _ _ [st8,0,min (sl8:Int) (max (n1 - 1) 0)] _ _ _).mono ?_
    rintro e V10 ⟨rfl,hb10⟩
    have HB10:=Lib.hid (HB8.out.trans (hb10.mono HB8.out.size))
    have HI10:=Lib.hid (HI8.out.below hb10)
    clear hb10
    go_wp2_with fail
    refine hK.out _ _ (HK8.out _ HB10.out) (fun hHeld=>?_)
    clear hK K
    refine qsp ?_
    refine qr1 21 (z0dx43 _) rfl fun K hK=>?_
    unfold z0dx43
    (try unfold msgV)
    go_simp
    refine hK.out _ _ (HK8.out _ (HB10.out.alloc HB10.out.size _)) (fun hHeld=>?_)
    clear hK K
    refine qsp ?_
    refine qtl 22 (z0dx44 _) rfl ?_
    refine qdn ?_
    clear hHeld
    go_wp2_with fail
    go_ret
    rw [HE.out]
    exact HF8.out _ _ _ HB10.out HI10.out
   | true =>
    exact absurd ⟨HNB.out,HOLDF.out,hft⟩ HC.out
end
end Go.Proofs.Ytnicaicjgaoolaa
