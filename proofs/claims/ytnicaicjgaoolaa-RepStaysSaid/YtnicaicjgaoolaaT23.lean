/-
  What the proof of the law leans on: contracts of the program's functions, one behind another. No condition.
-/
import Derived.Test.YtnicaicjgaoolaaT20
import Derived.Test.YtnicaicjgaoolaaT15
import Derived.Test.YtnicaicjgaoolaaT3
set_option linter.unusedVariables false
set_option linter.unusedSimpArgs false
namespace Go.Proofs.Ytnicaicjgaoolaa
open Go.RowKit Go.ChangeMaps Go.WideMaps Go.Maps
set_option maxRecDepth 20000
section
variable (p:String)
def z0fx0:Oper:=⟨some 5,.move (.tmp 0),39,p,#[],none⟩
def z0fx1:Oper:=⟨some 6,.call { callee:=Callee.value (Operand.func 18),args:=#[.tmp 5],argTypes:=#[39]},4,p,#[⟨0,.data⟩],none⟩
def z0fx2:Oper:=⟨some 7,.move (.tmp 6),4,p,#[⟨1,.data⟩,⟨1,.chain⟩],none⟩
def z0fx3:Oper:=⟨some 8,.fieldAddr 51 (.tmp 3) 1,0,p,#[⟨2,.guard⟩],some (2,false)⟩
def z0fx4:Oper:=⟨some 9,.load 3 (.tmp 8),3,p,#[⟨3,.data⟩,⟨2,.guard⟩],some (2,false)⟩
def z0fx5:Oper:=⟨some 10,.move (.tmp 0),39,p,#[⟨2,.guard⟩],some (2,false)⟩
def z0fx6:Oper:=⟨some 11,.nilCheck (.tmp 10),0,p,#[⟨5,.data⟩,⟨2,.guard⟩],some (2,false)⟩
def z0fx7:Oper:=⟨some 12,.fieldAddr 66 (.tmp 11) 0,0,p,#[⟨6,.data⟩,⟨2,.guard⟩],some (2,false)⟩
def z0fx8:Oper:=⟨some 13,.load 3 (.tmp 12),3,p,#[⟨7,.data⟩,⟨2,.guard⟩],some (2,false)⟩
def z0fx9:Oper:=⟨some 14,.binOp BinOp.neq 3 (.tmp 9) (.tmp 13) 3,4,p,#[⟨4,.data⟩,⟨8,.data⟩,⟨2,.guard⟩],some (2,false)⟩
def z0fx10:Oper:=⟨some 15,.pick (.tmp 7) (Operand.const (Value.bool true)) (.tmp 14),4,p,#[⟨2,.data⟩,⟨9,.data⟩],none⟩
def z0fx11:Oper:=⟨some 16,.move (.tmp 15),4,p,#[⟨10,.data⟩,⟨2,.chain⟩],none⟩
def z0fx12:Oper:=⟨some 17,.fieldAddr 51 (.tmp 3) 0,0,p,#[⟨11,.guard⟩],some (11,false)⟩
def z0fx13:Oper:=⟨some 18,.load 3 (.tmp 17),3,p,#[⟨12,.data⟩,⟨11,.guard⟩],some (11,false)⟩
def z0fx14:Oper:=⟨some 19,.move (.tmp 0),39,p,#[⟨11,.guard⟩],some (11,false)⟩
def z0fx15:Oper:=⟨some 20,.nilCheck (.tmp 19),0,p,#[⟨14,.data⟩,⟨11,.guard⟩],some (11,false)⟩
def z0fx16:Oper:=⟨some 21,.fieldAddr 66 (.tmp 20) 0,0,p,#[⟨15,.data⟩,⟨11,.guard⟩],some (11,false)⟩
def z0fx17:Oper:=⟨some 22,.load 3 (.tmp 21),3,p,#[⟨16,.data⟩,⟨11,.guard⟩],some (11,false)⟩
def z0fx18:Oper:=⟨some 23,.binOp BinOp.eql 3 (.tmp 18) (.tmp 22) 3,4,p,#[⟨13,.data⟩,⟨17,.data⟩,⟨11,.guard⟩],some (11,false)⟩
def z0fx19:Oper:=⟨some 24,.pick (.tmp 16) (Operand.const (Value.bool true)) (.tmp 23),4,p,#[⟨11,.data⟩,⟨18,.data⟩],none⟩
def z0fx20:Oper:=⟨some 25,.move (.tmp 24),4,p,#[⟨19,.data⟩,⟨11,.chain⟩],none⟩
def z0fx21:Oper:=⟨some 26,.fieldAddr 51 (.tmp 3) 0,0,p,#[⟨20,.guard⟩],some (20,false)⟩
def z0fx22:Oper:=⟨some 27,.load 3 (.tmp 26),3,p,#[⟨21,.data⟩,⟨20,.guard⟩],some (20,false)⟩
def z0fx23:Oper:=⟨some 28,.binOp BinOp.lss 3 (.tmp 27) (Operand.const (Value.int IntKind.i64 0)) 3,4,p,#[⟨22,.data⟩,⟨20,.guard⟩],some (20,false)⟩
def z0fx24:Oper:=⟨some 29,.pick (.tmp 25) (Operand.const (Value.bool true)) (.tmp 28),4,p,#[⟨20,.data⟩,⟨23,.data⟩],none⟩
def z0fx25:Oper:=⟨some 30,.move (.tmp 29),4,p,#[⟨24,.data⟩,⟨20,.chain⟩],none⟩
def z0fx26:Oper:=⟨some 31,.fieldAddr 51 (.tmp 3) 0,0,p,#[⟨25,.guard⟩],some (25,false)⟩
def z0fx27:Oper:=⟨some 32,.load 3 (.tmp 31),3,p,#[⟨26,.data⟩,⟨25,.guard⟩],some (25,false)⟩
def z0fx28:Oper:=⟨some 33,.move (.tmp 0),39,p,#[⟨25,.guard⟩],some (25,false)⟩
def z0fx29:Oper:=⟨some 34,.nilCheck (.tmp 33),0,p,#[⟨28,.data⟩,⟨25,.guard⟩],some (25,false)⟩
def z0fx30:Oper:=⟨some 35,.fieldAddr 66 (.tmp 34) 1,0,p,#[⟨29,.data⟩,⟨25,.guard⟩],some (25,false)⟩
def z0fx31:Oper:=⟨some 36,.load 3 (.tmp 35),3,p,#[⟨30,.data⟩,⟨25,.guard⟩],some (25,false)⟩
def z0fx32:Oper:=⟨some 37,.binOp BinOp.geq 3 (.tmp 32) (.tmp 36) 3,4,p,#[⟨27,.data⟩,⟨31,.data⟩,⟨25,.guard⟩],some (25,false)⟩
def z0fx33:Oper:=⟨some 38,.pick (.tmp 30) (Operand.const (Value.bool true)) (.tmp 37),4,p,#[⟨25,.data⟩,⟨32,.data⟩],none⟩
def z0fx34:Oper:=⟨some 39,.move (.tmp 38),4,p,#[⟨33,.data⟩,⟨25,.chain⟩],none⟩
def z0fx35:Oper:=⟨some 40,.fieldAddr 51 (.tmp 3) 3,0,p,#[⟨34,.guard⟩],some (34,false)⟩
def z0fx36:Oper:=⟨some 41,.load 49 (.tmp 40),49,p,#[⟨35,.data⟩,⟨34,.guard⟩],some (34,false)⟩
def z0fx37:Oper:=⟨some 42,.call { callee:=Callee.builtin Builtin.len,args:=#[.tmp 41],argTypes:=#[49]},3,p,#[⟨36,.data⟩,⟨34,.guard⟩],some (34,false)⟩
def z0fx38:Oper:=⟨some 43,.binOp BinOp.lss 3 (.tmp 42) (Operand.const (Value.int IntKind.i64 2)) 3,4,p,#[⟨37,.data⟩,⟨34,.guard⟩],some (34,false)⟩
def z0fx39:Oper:=⟨some 44,.pick (.tmp 39) (Operand.const (Value.bool true)) (.tmp 43),4,p,#[⟨34,.data⟩,⟨38,.data⟩],none⟩
def z0fx40:Oper:=⟨some 45,.move (.tmp 44),4,p,#[⟨39,.data⟩,⟨34,.chain⟩],none⟩
def z0fx41:Oper:=⟨some 46,.fieldAddr 51 (.tmp 3) 3,0,p,#[⟨40,.guard⟩],some (40,false)⟩
def z0fx42:Oper:=⟨some 47,.load 49 (.tmp 46),49,p,#[⟨41,.data⟩,⟨40,.guard⟩],some (40,false)⟩
def z0fx43:Oper:=⟨some 48,.indexAddr 49 (.tmp 47) (Operand.const (Value.int IntKind.i64 0)),0,p,#[⟨42,.data⟩,⟨40,.guard⟩],some (40,false)⟩
def z0fx44:Oper:=⟨some 49,.load 2 (.tmp 48),2,p,#[⟨43,.data⟩,⟨40,.guard⟩],some (40,false)⟩
def z0fx45:Oper:=⟨some 50,.binOp BinOp.lss 2 (.tmp 49) (Operand.const (Value.int IntKind.i64 1)) 2,4,p,#[⟨44,.data⟩,⟨40,.guard⟩],some (40,false)⟩
def z0fx46:Oper:=⟨some 51,.pick (.tmp 45) (Operand.const (Value.bool true)) (.tmp 50),4,p,#[⟨40,.data⟩,⟨45,.data⟩],none⟩
def z0fx47:Oper:=⟨some 52,.move (.tmp 51),4,p,#[⟨46,.data⟩,⟨40,.chain⟩],none⟩
def z0fx48:Oper:=⟨some 53,.fieldAddr 51 (.tmp 3) 3,0,p,#[⟨47,.guard⟩],some (47,false)⟩
def z0fx49:Oper:=⟨some 54,.load 49 (.tmp 53),49,p,#[⟨48,.data⟩,⟨47,.guard⟩],some (47,false)⟩
def z0fx50:Oper:=⟨some 55,.indexAddr 49 (.tmp 54) (Operand.const (Value.int IntKind.i64 0)),0,p,#[⟨49,.data⟩,⟨47,.guard⟩],some (47,false)⟩
def z0fx51:Oper:=⟨some 56,.load 2 (.tmp 55),2,p,#[⟨50,.data⟩,⟨47,.guard⟩],some (47,false)⟩
def z0fx52:Oper:=⟨some 57,.binOp BinOp.gtr 2 (.tmp 56) (Operand.const (Value.int IntKind.i64 1099511627776)) 2,4,p,#[⟨51,.data⟩,⟨47,.guard⟩],some (47,false)⟩
def z0fx53:Oper:=⟨some 58,.pick (.tmp 52) (Operand.const (Value.bool true)) (.tmp 57),4,p,#[⟨47,.data⟩,⟨52,.data⟩],none⟩
end
attribute [go_sem,reducible] z0fx0 z0fx1 z0fx2 z0fx3 z0fx4 z0fx5 z0fx6 z0fx7 z0fx8 z0fx9 z0fx10 z0fx11 z0fx12 z0fx13 z0fx14 z0fx15 z0fx16 z0fx17 z0fx18 z0fx19 z0fx20 z0fx21 z0fx22 z0fx23 z0fx24 z0fx25 z0fx26 z0fx27 z0fx28 z0fx29 z0fx30 z0fx31 z0fx32 z0fx33 z0fx34 z0fx35 z0fx36 z0fx37 z0fx38 z0fx39 z0fx40 z0fx41 z0fx42 z0fx43 z0fx44 z0fx45 z0fx46 z0fx47 z0fx48 z0fx49 z0fx50 z0fx51 z0fx52 z0fx53
theorem heardA_set (l:List (Int×Int×Int)) (i:Nat) (x:Int×Int×Int) (h:i<l.length):(((heardA l).set! (i*3) (.int .i64 x.1)).set! (i*3+1) (.int .i64 x.2.1)).set! (i*3+2) (.int .i64 x.2.2)=heardA (l.set i x):=by
 have key:∀(l:List (Int×Int×Int)) (i:Nat),i<l.length→(((l.flatMap rivA).set (i*3) (.int .i64 x.1)).set (i*3+1) (.int .i64 x.2.1)).set (i*3+2) (.int .i64 x.2.2)=(l.set i x).flatMap rivA:=by
  intro l
  induction l with
  | nil=>intro i h;cases h
  | cons a l ih =>
   intro i h
   cases i with
   | zero=>simp [rivA]
   | succ i =>
    have:=ih i (by simpa using h)
    rw [show (i+1)*3=i*3+3 by omega,show i*3+3+1=i*3+1+3 by omega,show i*3+3+2=i*3+2+3 by omega]
    simp only [List.flatMap_cons,List.set_cons_succ,rivA,List.cons_append,List.nil_append]
    rw [←this]
 unfold heardA
 simp only [Array.set!,List.setIfInBounds_toArray]
 rw [key l i h]
section
variable {w w':World} {A A' X X':List Nat} {r d l:Nat} {s s':Rp} {k k':Dk}
theorem enter_n (term who:Int):(enterM s k term who).2.1.n=s.n∧(enterM s k term who).2.1.own=s.own∧((enterM s k term who).1=true→(enterM s k term who).2.1.term=term):=by
 have e1:=write_same (s:=s) (k:=k) (noteT term who)
 unfold enterM
 generalize writeM s k (noteT term who)=p at *
 have f1:p.1.n=s.n:=by rw [e1]
 have f2:p.1.own=s.own:=by rw [e1]
 simp only
 split
 ·exact ⟨f1,f2,fun h=>by cases h⟩
 ·have e2:=sync_same (s:=p.1) (k:=p.2)
  generalize syncM p.1 p.2=q at *
  have f3:q.1.n=p.1.n:=by rw [e2]
  have f4:q.1.own=p.1.own:=by rw [e2]
  split
  ·exact ⟨f3.trans f1,f4.trans f2,fun h=>by cases h⟩
  ·exact ⟨f3.trans f1,f4.trans f2,fun _=>rfl⟩
/-- a message; where it has no numbers: wherever they would be -/
structure MsgZ (w:World) (A:List Nat) (m:Msg) (v u:Value):Prop where
 zv:∃ao c,v = .slice ao m.N.length c
 zn:1≤m.N.length→ImmI w A v m.N
 zu:∃ub bc,u = .slice ub m.B.length bc
theorem IsMsg.z {m:Msg} {v u:Value} (h:IsMsg w A m v u):MsgZ w A m v u:=by
 obtain ⟨ao,c,ev,_⟩:=id h.n
 exact ⟨⟨ao,c,ev⟩,fun _=>h.n,bs_shape h.b⟩
set_option maxHeartbeats 40000000 in
theorem get_bad (h:Nd w A X r d l s k) (m:Msg) (v u:Value) (hm:MsgZ w A m v u) (hbd:(doneM s k||badM (doneS s k) m)=true) (hn5:s.n≤5) (hlm:m.N.length≤1000000000) :
  Calls Try.prog 19 #[.pointer (some ⟨r,0,none⟩),msgV m v u] w fun e w'=>MsP w w' A X r d l e ([],doneS s k,k):=by
 have hbw:Below w.heap.size w (w.alloc (.cells (msgC m v u) 51)):=(Below.refl _ _).alloc (Nat.le_refl _) _
 have h1:=h.below hbw
 obtain ⟨⟨ao,c,ev⟩,hmn,⟨ub,bc,eu⟩⟩:=hm
 subst ev
 subst eu
 have HRX:=Lib.hid h.rX
 have hMA:w.heap.size∉A:=fun hb=>by have:=h.alt _ hb;omega
 have hrA:r∈A:=h.xA r h.rX
 have hMr:w.heap.size∉[r]:=by
  simp;intro e;exact hMA (e ▸ hrA)
 have hbx:=heap_new w (.cells (msgC m (.slice ao m.N.length c) (.slice ub m.B.length bc)) 51)
 have HM0:Hid (Mv A A X X w (w.alloc (.cells (msgC m (.slice ao m.N.length c) (.slice ub m.B.length bc)) 51)).drew):=Lib.hid ((Mv.below hbw).trans (Mv.below (below_drewN _ 1)))
 have h1d:Nd (w.alloc (.cells (msgC m (.slice ao m.N.length c) (.slice ub m.B.length bc)) 51)).drew A X r d l s k:=h1.below (below_drewN _ 1)
 have HDN:=Lib.hid (done_any h1d)
 have HCE:Hid (∀W s9,Nd W A X r d l s9 k→s9.own=s.own→s9.n=s.n→W.cell? ⟨r,0,none⟩=some (.int .i64 (s.own:Int))∧W.cell? ⟨r,1,none⟩=some (.int .i64 (s.n:Int))):=Lib.hid (fun W s9 h9 e1 e2=>by
  obtain ⟨vl,gv,gn,gm,gh,hcell⟩:=h9.cells
  exact ⟨by rw [cell_heap hcell,←e1];rfl,by rw [cell_heap hcell,←e2];rfl⟩)
 have HK0:Hid ((w.alloc (.cells (msgC m (.slice ao m.N.length c) (.slice ub m.B.length bc)) 51)).drew.cell? ⟨w.heap.size,0,none⟩=some (.int .i64 m.frm)∧(w.alloc (.cells (msgC m (.slice ao m.N.length c) (.slice ub m.B.length bc)) 51)).drew.cell? ⟨w.heap.size,1,none⟩=some (.int .i64 m.dst)∧(w.alloc (.cells (msgC m (.slice ao m.N.length c) (.slice ub m.B.length bc)) 51)).drew.cell? ⟨w.heap.size,3,none⟩=some (.slice ao m.N.length c)∧(w.alloc (.cells (msgC m (.slice ao m.N.length c) (.slice ub m.B.length bc)) 51)).drew.cell? ⟨r,0,none⟩=some (.int .i64 (s.own:Int))∧(w.alloc (.cells (msgC m (.slice ao m.N.length c) (.slice ub m.B.length bc)) 51)).drew.cell? ⟨r,1,none⟩=some (.int .i64 (s.n:Int))):=Lib.hid
  ⟨(cell_heap hbx 0).trans rfl,(cell_heap hbx 1).trans rfl,(cell_heap hbx 3).trans rfl,(HCE.out _ _ h1d rfl rfl).1,(HCE.out _ _ h1d rfl rfl).2⟩
 have HKK:Hid (∀w',Only [r] (w.alloc (.cells (msgC m (.slice ao m.N.length c) (.slice ub m.B.length bc)) 51)).drew w'→Nd w' A X r d l (doneS s k) k→w'.cell? ⟨w.heap.size,0,none⟩=some (.int .i64 m.frm)∧w'.cell? ⟨w.heap.size,1,none⟩=some (.int .i64 m.dst)∧w'.cell? ⟨w.heap.size,3,none⟩=some (.slice ao m.N.length c)∧w'.cell? ⟨r,0,none⟩=some (.int .i64 (s.own:Int))∧w'.cell? ⟨r,1,none⟩=some (.int .i64 (s.n:Int))):=Lib.hid (fun w' ho hn =>
  ⟨ho.cell HK0.out.1 hMr,ho.cell HK0.out.2.1 hMr,ho.cell HK0.out.2.2.1 hMr,(HCE.out _ _ hn rfl rfl).1,(HCE.out _ _ hn rfl rfl).2⟩)
 have HNUM:Hid (1≤m.N.length→∃b off,ao=some ⟨b,off,none⟩∧Hid ((w.alloc (.cells (msgC m (.slice ao m.N.length c) (.slice ub m.B.length bc)) 51)).drew.cell? ⟨b,off,none⟩=some (.int .i64 (m.N.getD 0 0)))∧Hid (∀w',Only [r] (w.alloc (.cells (msgC m (.slice ao m.N.length c) (.slice ub m.B.length bc)) 51)).drew w'→w'.cell? ⟨b,off,none⟩=some (.int .i64 (m.N.getD 0 0)))):=Lib.hid (fun hl=>by
  have hmi:=hmn hl
  obtain ⟨b,off,c9,hc9⟩:=numC (hmi.below hbw) (by omega)
  have e9:=hc9.v
  simp only [Value.slice.injEq] at e9
  obtain ⟨rfl,_,rfl⟩:=e9
  have h0:=hc9.at_ 0 (by omega)
  rw [Nat.add_zero] at h0
  have hbr:b∉[r]:=by
   obtain ⟨ao',c',e,_,_,_,h3⟩:=hmi
   cases e
   simp;intro e;exact (h3 _ rfl).1 (e ▸ hrA)
  exact ⟨b,off,rfl,Lib.hid h0,Lib.hid (fun w' ho=>ho.cell h0 hbr)⟩)
 clear h h1 hmn hbw hbx h1d HCE hMA hrA hMr
 have HBD:Hid ((doneM s k||(!(m.dst==(s.own:Int))||m.frm==(s.own:Int)||decide (m.frm<0)||decide ((s.n:Int)≤m.frm)||decide (m.N.length<2)||decide (m.N.getD 0 0<1)||decide (1099511627776<m.N.getD 0 0)))=true):=Lib.hid hbd
 clear hbd
 unfold msgV msgC at *
 go_enter Try.func19,Try.ntmps19
 go_upto_region 1 with (fail)
 generalize w.alloc (.cells #[.int .i64 m.frm,.int .i64 m.dst,.int .i64 m.kind,.slice ao m.N.length c,.slice ub m.B.length bc] 51)=W1 at *
 generalize w.heap.size=M at *
 generalize hs1:doneS s k=s1 at *
 have HS1:=Lib.hid hs1
 clear hs1
 go_cut [58] (fun v wx=>v = .bool true∧Nd wx A X r d l s1 k∧Only [r] W1.drew wx)
 case first =>
  cases hdn:doneM s k with
  | true =>
   rw [hdn] at HDN
   as_aux_lemma =>
   refine wp_region_held_drew (S:=fun w'=>w'.cell? ⟨M,0,none⟩=some (.int .i64 m.frm)∧w'.cell? ⟨M,1,none⟩=some (.int .i64 m.dst)∧w'.cell? ⟨M,3,none⟩=some (.slice ao m.N.length c)∧w'.cell? ⟨r,0,none⟩=some (.int .i64 (s.own:Int))∧w'.cell? ⟨r,1,none⟩=some (.int .i64 (s.n:Int))) (by kernel_rfl) HK0.out (fun hHeld=>?_)
   refine qtl 0 (z0fx0 _) rfl ?_
   generalize W1.drew=V1 at *
   refine qr1 1 (z0fx1 _) rfl fun K hK=>?_
   unfold z0fx1
   go_simp
   refine HDN.out.mono ?_
   rintro e w2 ⟨rfl,hn2,ho2⟩
   have HN2:=Lib.hid hn2
   have HO2:=Lib.hid ho2
   clear hn2 ho2
   go_wp2_with fail
   refine hK.out _ _ (HKK.out _ HO2.out HN2.out) (fun hHeld=>?_)
   clear hK K
   refine qsp ?_
   refine qtl 2 (z0fx2 _) rfl ?_
   refine qtu 3 (z0fx3 _) rfl ?_
   refine qtu 4 (z0fx4 _) rfl ?_
   refine qtu 5 (z0fx5 _) rfl ?_
   refine qtu 6 (z0fx6 _) rfl ?_
   refine qtu 7 (z0fx7 _) rfl ?_
   refine qtu 8 (z0fx8 _) rfl ?_
   refine qtu 9 (z0fx9 _) rfl ?_
   refine qtl 10 (z0fx10 _) rfl ?_
   refine qtl 11 (z0fx11 _) rfl ?_
   refine qtu 12 (z0fx12 _) rfl ?_
   refine qtu 13 (z0fx13 _) rfl ?_
   refine qtu 14 (z0fx14 _) rfl ?_
   refine qtu 15 (z0fx15 _) rfl ?_
   refine qtu 16 (z0fx16 _) rfl ?_
   refine qtu 17 (z0fx17 _) rfl ?_
   refine qtu 18 (z0fx18 _) rfl ?_
   refine qtl 19 (z0fx19 _) rfl ?_
   refine qtl 20 (z0fx20 _) rfl ?_
   refine qtu 21 (z0fx21 _) rfl ?_
   refine qtu 22 (z0fx22 _) rfl ?_
   refine qtu 23 (z0fx23 _) rfl ?_
   refine qtl 24 (z0fx24 _) rfl ?_
   refine qtl 25 (z0fx25 _) rfl ?_
   refine qtu 26 (z0fx26 _) rfl ?_
   refine qtu 27 (z0fx27 _) rfl ?_
   refine qtu 28 (z0fx28 _) rfl ?_
   refine qtu 29 (z0fx29 _) rfl ?_
   refine qtu 30 (z0fx30 _) rfl ?_
   refine qtu 31 (z0fx31 _) rfl ?_
   refine qtu 32 (z0fx32 _) rfl ?_
   refine qtl 33 (z0fx33 _) rfl ?_
   refine qtl 34 (z0fx34 _) rfl ?_
   refine qtu 35 (z0fx35 _) rfl ?_
   refine qtu 36 (z0fx36 _) rfl ?_
   refine qtu 37 (z0fx37 _) rfl ?_
   refine qtu 38 (z0fx38 _) rfl ?_
   refine qtl 39 (z0fx39 _) rfl ?_
   refine qtl 40 (z0fx40 _) rfl ?_
   refine qtu 41 (z0fx41 _) rfl ?_
   refine qtu 42 (z0fx42 _) rfl ?_
   refine qtu 43 (z0fx43 _) rfl ?_
   refine qtu 44 (z0fx44 _) rfl ?_
   refine qtu 45 (z0fx45 _) rfl ?_
   refine qtl 46 (z0fx46 _) rfl ?_
   refine qtl 47 (z0fx47 _) rfl ?_
   refine qtu 48 (z0fx48 _) rfl ?_
   refine qtu 49 (z0fx49 _) rfl ?_
   refine qtu 50 (z0fx50 _) rfl ?_
   refine qtu 51 (z0fx51 _) rfl ?_
   refine qtu 52 (z0fx52 _) rfl ?_
   refine qtl 53 (z0fx53 _) rfl ?_
   refine qdn ?_
   clear hHeld
   go_wp2_with fail
   go_meet
   exact ⟨rfl,HN2.out,HO2.out⟩
  | false =>
   rw [hdn] at HDN HBD
   by_cases c0:m.dst=(s.own:Int)
   ·have g0:(m.dst != (s.own:Int))=false:=by simpa using c0
    have e0:(m.dst==(s.own:Int))=true:=by simpa using c0
    clear c0
    by_cases c1:m.frm=(s.own:Int)
    ·have g1:(m.frm==(s.own:Int))=true:=by simpa using c1
     clear c1
     as_aux_lemma =>
     refine wp_region_held_drew (S:=fun w'=>w'.cell? ⟨M,0,none⟩=some (.int .i64 m.frm)∧w'.cell? ⟨M,1,none⟩=some (.int .i64 m.dst)∧w'.cell? ⟨M,3,none⟩=some (.slice ao m.N.length c)∧w'.cell? ⟨r,0,none⟩=some (.int .i64 (s.own:Int))∧w'.cell? ⟨r,1,none⟩=some (.int .i64 (s.n:Int))) (by kernel_rfl) HK0.out (fun hHeld=>?_)
     refine qtl 0 (z0fx0 _) rfl ?_
     generalize W1.drew=V1 at *
     refine qr1 1 (z0fx1 _) rfl fun K hK=>?_
     unfold z0fx1
     go_simp
     refine HDN.out.mono ?_
     rintro e w2 ⟨rfl,hn2,ho2⟩
     have HN2:=Lib.hid hn2
     have HO2:=Lib.hid ho2
     clear hn2 ho2
     go_wp2_with fail
     refine hK.out _ _ (HKK.out _ HO2.out HN2.out) (fun hHeld=>?_)
     clear hK K
     refine qsp ?_
     refine qtl 2 (z0fx2 _) rfl ?_
     refine qtl 3 (z0fx3 _) rfl ?_
     refine qtl 4 (z0fx4 _) rfl ?_
     refine qtl 5 (z0fx5 _) rfl ?_
     refine qtl 6 (z0fx6 _) rfl ?_
     refine qtl 7 (z0fx7 _) rfl ?_
     refine qtl 8 (z0fx8 _) rfl ?_
     refine qtl 9 (z0fx9 _) rfl ?_
     refine qtl 10 (z0fx10 _) rfl ?_
     refine qtl 11 (z0fx11 _) rfl ?_
     refine qtl 12 (z0fx12 _) rfl ?_
     refine qtl 13 (z0fx13 _) rfl ?_
     refine qtl 14 (z0fx14 _) rfl ?_
     refine qtl 15 (z0fx15 _) rfl ?_
     refine qtl 16 (z0fx16 _) rfl ?_
     refine qtl 17 (z0fx17 _) rfl ?_
     refine qtl 18 (z0fx18 _) rfl ?_
     refine qtl 19 (z0fx19 _) rfl ?_
     refine qtl 20 (z0fx20 _) rfl ?_
     refine qtu 21 (z0fx21 _) rfl ?_
     refine qtu 22 (z0fx22 _) rfl ?_
     refine qtu 23 (z0fx23 _) rfl ?_
     refine qtl 24 (z0fx24 _) rfl ?_
     refine qtl 25 (z0fx25 _) rfl ?_
     refine qtu 26 (z0fx26 _) rfl ?_
     refine qtu 27 (z0fx27 _) rfl ?_
     refine qtu 28 (z0fx28 _) rfl ?_
     refine qtu 29 (z0fx29 _) rfl ?_
     refine qtu 30 (z0fx30 _) rfl ?_
     refine qtu 31 (z0fx31 _) rfl ?_
     refine qtu 32 (z0fx32 _) rfl ?_
     refine qtl 33 (z0fx33 _) rfl ?_
     refine qtl 34 (z0fx34 _) rfl ?_
     refine qtu 35 (z0fx35 _) rfl ?_
     refine qtu 36 (z0fx36 _) rfl ?_
     refine qtu 37 (z0fx37 _) rfl ?_
     refine qtu 38 (z0fx38 _) rfl ?_
     refine qtl 39 (z0fx39 _) rfl ?_
     refine qtl 40 (z0fx40 _) rfl ?_
     refine qtu 41 (z0fx41 _) rfl ?_
     refine qtu 42 (z0fx42 _) rfl ?_
     refine qtu 43 (z0fx43 _) rfl ?_
     refine qtu 44 (z0fx44 _) rfl ?_
     refine qtu 45 (z0fx45 _) rfl ?_
     refine qtl 46 (z0fx46 _) rfl ?_
     refine qtl 47 (z0fx47 _) rfl ?_
     refine qtu 48 (z0fx48 _) rfl ?_
     refine qtu 49 (z0fx49 _) rfl ?_
     refine qtu 50 (z0fx50 _) rfl ?_
     refine qtu 51 (z0fx51 _) rfl ?_
     refine qtu 52 (z0fx52 _) rfl ?_
     refine qtl 53 (z0fx53 _) rfl ?_
     refine qdn ?_
     clear hHeld
     go_wp2_with fail
     go_meet
     exact ⟨rfl,HN2.out,HO2.out⟩
    ·have g1:(m.frm==(s.own:Int))=false:=by simpa using c1
     clear c1
     by_cases c2:m.frm<0
     ·have g2:decide (m.frm<0)=true:=decide_eq_true c2
      as_aux_lemma =>
      refine wp_region_held_drew (S:=fun w'=>w'.cell? ⟨M,0,none⟩=some (.int .i64 m.frm)∧w'.cell? ⟨M,1,none⟩=some (.int .i64 m.dst)∧w'.cell? ⟨M,3,none⟩=some (.slice ao m.N.length c)∧w'.cell? ⟨r,0,none⟩=some (.int .i64 (s.own:Int))∧w'.cell? ⟨r,1,none⟩=some (.int .i64 (s.n:Int))) (by kernel_rfl) HK0.out (fun hHeld=>?_)
      refine qtl 0 (z0fx0 _) rfl ?_
      generalize W1.drew=V1 at *
      refine qr1 1 (z0fx1 _) rfl fun K hK=>?_
      unfold z0fx1
      go_simp
      refine HDN.out.mono ?_
      rintro e w2 ⟨rfl,hn2,ho2⟩
      have HN2:=Lib.hid hn2
      have HO2:=Lib.hid ho2
      clear hn2 ho2
      go_wp2_with fail
      refine hK.out _ _ (HKK.out _ HO2.out HN2.out) (fun hHeld=>?_)
      clear hK K
      refine qsp ?_
      refine qtl 2 (z0fx2 _) rfl ?_
      refine qtl 3 (z0fx3 _) rfl ?_
      refine qtl 4 (z0fx4 _) rfl ?_
      refine qtl 5 (z0fx5 _) rfl ?_
      refine qtl 6 (z0fx6 _) rfl ?_
      refine qtl 7 (z0fx7 _) rfl ?_
      refine qtl 8 (z0fx8 _) rfl ?_
      refine qtl 9 (z0fx9 _) rfl ?_
      refine qtl 10 (z0fx10 _) rfl ?_
      refine qtl 11 (z0fx11 _) rfl ?_
      refine qtl 12 (z0fx12 _) rfl ?_
      refine qtl 13 (z0fx13 _) rfl ?_
      refine qtl 14 (z0fx14 _) rfl ?_
      refine qtl 15 (z0fx15 _) rfl ?_
      refine qtl 16 (z0fx16 _) rfl ?_
      refine qtl 17 (z0fx17 _) rfl ?_
      refine qtl 18 (z0fx18 _) rfl ?_
      refine qtl 19 (z0fx19 _) rfl ?_
      refine qtl 20 (z0fx20 _) rfl ?_
      refine qtl 21 (z0fx21 _) rfl ?_
      refine qtl 22 (z0fx22 _) rfl ?_
      refine qtl 23 (z0fx23 _) rfl ?_
      refine qtl 24 (z0fx24 _) rfl ?_
      refine qtl 25 (z0fx25 _) rfl ?_
      refine qtu 26 (z0fx26 _) rfl ?_
      refine qtu 27 (z0fx27 _) rfl ?_
      refine qtu 28 (z0fx28 _) rfl ?_
      refine qtu 29 (z0fx29 _) rfl ?_
      refine qtu 30 (z0fx30 _) rfl ?_
      refine qtu 31 (z0fx31 _) rfl ?_
      refine qtu 32 (z0fx32 _) rfl ?_
      refine qtl 33 (z0fx33 _) rfl ?_
      refine qtl 34 (z0fx34 _) rfl ?_
      refine qtu 35 (z0fx35 _) rfl ?_
      refine qtu 36 (z0fx36 _) rfl ?_
      refine qtu 37 (z0fx37 _) rfl ?_
      refine qtu 38 (z0fx38 _) rfl ?_
      refine qtl 39 (z0fx39 _) rfl ?_
      refine qtl 40 (z0fx40 _) rfl ?_
      refine qtu 41 (z0fx41 _) rfl ?_
      refine qtu 42 (z0fx42 _) rfl ?_
      refine qtu 43 (z0fx43 _) rfl ?_
      refine qtu 44 (z0fx44 _) rfl ?_
      refine qtu 45 (z0fx45 _) rfl ?_
      refine qtl 46 (z0fx46 _) rfl ?_
      refine qtl 47 (z0fx47 _) rfl ?_
      refine qtu 48 (z0fx48 _) rfl ?_
      refine qtu 49 (z0fx49 _) rfl ?_
      refine qtu 50 (z0fx50 _) rfl ?_
      refine qtu 51 (z0fx51 _) rfl ?_
      refine qtu 52 (z0fx52 _) rfl ?_
      refine qtl 53 (z0fx53 _) rfl ?_
      refine qdn ?_
      clear hHeld
      go_wp2_with fail
      go_meet
      exact ⟨rfl,HN2.out,HO2.out⟩
     ·have g2:decide (m.frm<0)=false:=decide_eq_false c2
      by_cases c3:(s.n:Int)≤m.frm
      ·have g3:decide ((s.n:Int)≤m.frm)=true:=decide_eq_true c3
       as_aux_lemma =>
       refine wp_region_held_drew (S:=fun w'=>w'.cell? ⟨M,0,none⟩=some (.int .i64 m.frm)∧w'.cell? ⟨M,1,none⟩=some (.int .i64 m.dst)∧w'.cell? ⟨M,3,none⟩=some (.slice ao m.N.length c)∧w'.cell? ⟨r,0,none⟩=some (.int .i64 (s.own:Int))∧w'.cell? ⟨r,1,none⟩=some (.int .i64 (s.n:Int))) (by kernel_rfl) HK0.out (fun hHeld=>?_)
       refine qtl 0 (z0fx0 _) rfl ?_
       generalize W1.drew=V1 at *
       refine qr1 1 (z0fx1 _) rfl fun K hK=>?_
       unfold z0fx1
       go_simp
       refine HDN.out.mono ?_
       rintro e w2 ⟨rfl,hn2,ho2⟩
       have HN2:=Lib.hid hn2
       have HO2:=Lib.hid ho2
       clear hn2 ho2
       go_wp2_with fail
       refine hK.out _ _ (HKK.out _ HO2.out HN2.out) (fun hHeld=>?_)
       clear hK K
       refine qsp ?_
       refine qtl 2 (z0fx2 _) rfl ?_
       refine qtl 3 (z0fx3 _) rfl ?_
       refine qtl 4 (z0fx4 _) rfl ?_
       refine qtl 5 (z0fx5 _) rfl ?_
       refine qtl 6 (z0fx6 _) rfl ?_
       refine qtl 7 (z0fx7 _) rfl ?_
       refine qtl 8 (z0fx8 _) rfl ?_
       refine qtl 9 (z0fx9 _) rfl ?_
       refine qtl 10 (z0fx10 _) rfl ?_
       refine qtl 11 (z0fx11 _) rfl ?_
       refine qtl 12 (z0fx12 _) rfl ?_
       refine qtl 13 (z0fx13 _) rfl ?_
       refine qtl 14 (z0fx14 _) rfl ?_
       refine qtl 15 (z0fx15 _) rfl ?_
       refine qtl 16 (z0fx16 _) rfl ?_
       refine qtl 17 (z0fx17 _) rfl ?_
       refine qtl 18 (z0fx18 _) rfl ?_
       refine qtl 19 (z0fx19 _) rfl ?_
       refine qtl 20 (z0fx20 _) rfl ?_
       refine qtl 21 (z0fx21 _) rfl ?_
       refine qtl 22 (z0fx22 _) rfl ?_
       refine qtl 23 (z0fx23 _) rfl ?_
       refine qtl 24 (z0fx24 _) rfl ?_
       refine qtl 25 (z0fx25 _) rfl ?_
       refine qtl 26 (z0fx26 _) rfl ?_
       refine qtl 27 (z0fx27 _) rfl ?_
       refine qtl 28 (z0fx28 _) rfl ?_
       refine qtl 29 (z0fx29 _) rfl ?_
       refine qtl 30 (z0fx30 _) rfl ?_
       refine qtl 31 (z0fx31 _) rfl ?_
       refine qtl 32 (z0fx32 _) rfl ?_
       refine qtl 33 (z0fx33 _) rfl ?_
       refine qtl 34 (z0fx34 _) rfl ?_
       refine qtu 35 (z0fx35 _) rfl ?_
       refine qtu 36 (z0fx36 _) rfl ?_
       refine qtu 37 (z0fx37 _) rfl ?_
       refine qtu 38 (z0fx38 _) rfl ?_
       refine qtl 39 (z0fx39 _) rfl ?_
       refine qtl 40 (z0fx40 _) rfl ?_
       refine qtu 41 (z0fx41 _) rfl ?_
       refine qtu 42 (z0fx42 _) rfl ?_
       refine qtu 43 (z0fx43 _) rfl ?_
       refine qtu 44 (z0fx44 _) rfl ?_
       refine qtu 45 (z0fx45 _) rfl ?_
       refine qtl 46 (z0fx46 _) rfl ?_
       refine qtl 47 (z0fx47 _) rfl ?_
       refine qtu 48 (z0fx48 _) rfl ?_
       refine qtu 49 (z0fx49 _) rfl ?_
       refine qtu 50 (z0fx50 _) rfl ?_
       refine qtu 51 (z0fx51 _) rfl ?_
       refine qtu 52 (z0fx52 _) rfl ?_
       refine qtl 53 (z0fx53 _) rfl ?_
       refine qdn ?_
       clear hHeld
       go_wp2_with fail
       go_meet
       exact ⟨rfl,HN2.out,HO2.out⟩
      ·have g3:decide ((s.n:Int)≤m.frm)=false:=decide_eq_false c3
       by_cases c4:m.N.length<2
       ·have g4:decide ((m.N.length:Int)<2)=true:=decide_eq_true (by omega)
        have e4:(m.N.length:Int)<2:=by omega
        as_aux_lemma =>
        refine wp_region_held_drew (S:=fun w'=>w'.cell? ⟨M,0,none⟩=some (.int .i64 m.frm)∧w'.cell? ⟨M,1,none⟩=some (.int .i64 m.dst)∧w'.cell? ⟨M,3,none⟩=some (.slice ao m.N.length c)∧w'.cell? ⟨r,0,none⟩=some (.int .i64 (s.own:Int))∧w'.cell? ⟨r,1,none⟩=some (.int .i64 (s.n:Int))) (by kernel_rfl) HK0.out (fun hHeld=>?_)
        refine qtl 0 (z0fx0 _) rfl ?_
        generalize W1.drew=V1 at *
        refine qr1 1 (z0fx1 _) rfl fun K hK=>?_
        unfold z0fx1
        go_simp
        refine HDN.out.mono ?_
        rintro e w2 ⟨rfl,hn2,ho2⟩
        have HN2:=Lib.hid hn2
        have HO2:=Lib.hid ho2
        clear hn2 ho2
        go_wp2_with fail
        refine hK.out _ _ (HKK.out _ HO2.out HN2.out) (fun hHeld=>?_)
        clear hK K
        refine qsp ?_
        refine qtl 2 (z0fx2 _) rfl ?_
        refine qtl 3 (z0fx3 _) rfl ?_
        refine qtl 4 (z0fx4 _) rfl ?_
        refine qtl 5 (z0fx5 _) rfl ?_
        refine qtl 6 (z0fx6 _) rfl ?_
        refine qtl 7 (z0fx7 _) rfl ?_
        refine qtl 8 (z0fx8 _) rfl ?_
        refine qtl 9 (z0fx9 _) rfl ?_
        refine qtl 10 (z0fx10 _) rfl ?_
        refine qtl 11 (z0fx11 _) rfl ?_
        refine qtl 12 (z0fx12 _) rfl ?_
        refine qtl 13 (z0fx13 _) rfl ?_
        refine qtl 14 (z0fx14 _) rfl ?_
        refine qtl 15 (z0fx15 _) rfl ?_
        refine qtl 16 (z0fx16 _) rfl ?_
        refine qtl 17 (z0fx17 _) rfl ?_
        refine qtl 18 (z0fx18 _) rfl ?_
        refine qtl 19 (z0fx19 _) rfl ?_
        refine qtl 20 (z0fx20 _) rfl ?_
        refine qtl 21 (z0fx21 _) rfl ?_
        refine qtl 22 (z0fx22 _) rfl ?_
        refine qtl 23 (z0fx23 _) rfl ?_
        refine qtl 24 (z0fx24 _) rfl ?_
        refine qtl 25 (z0fx25 _) rfl ?_
        refine qtl 26 (z0fx26 _) rfl ?_
        refine qtl 27 (z0fx27 _) rfl ?_
        refine qtl 28 (z0fx28 _) rfl ?_
        refine qtl 29 (z0fx29 _) rfl ?_
        refine qtl 30 (z0fx30 _) rfl ?_
        refine qtl 31 (z0fx31 _) rfl ?_
        refine qtl 32 (z0fx32 _) rfl ?_
        refine qtl 33 (z0fx33 _) rfl ?_
        refine qtl 34 (z0fx34 _) rfl ?_
        refine qtl 35 (z0fx35 _) rfl ?_
        refine qtl 36 (z0fx36 _) rfl ?_
        refine qtl 37 (z0fx37 _) rfl ?_
        refine qtl 38 (z0fx38 _) rfl ?_
        refine qtl 39 (z0fx39 _) rfl ?_
        refine qtl 40 (z0fx40 _) rfl ?_
        refine qtu 41 (z0fx41 _) rfl ?_
        refine qtu 42 (z0fx42 _) rfl ?_
        refine qtu 43 (z0fx43 _) rfl ?_
        refine qtu 44 (z0fx44 _) rfl ?_
        refine qtu 45 (z0fx45 _) rfl ?_
        refine qtl 46 (z0fx46 _) rfl ?_
        refine qtl 47 (z0fx47 _) rfl ?_
        refine qtu 48 (z0fx48 _) rfl ?_
        refine qtu 49 (z0fx49 _) rfl ?_
        refine qtu 50 (z0fx50 _) rfl ?_
        refine qtu 51 (z0fx51 _) rfl ?_
        refine qtu 52 (z0fx52 _) rfl ?_
        refine qtl 53 (z0fx53 _) rfl ?_
        refine qdn ?_
        clear hHeld
        go_wp2_with fail
        go_meet
        exact ⟨rfl,HN2.out,HO2.out⟩
       ·have g4:decide ((m.N.length:Int)<2)=false:=decide_eq_false (by omega)
        have e4:¬(m.N.length:Int)<2:=by omega
        have el0:(0:Int)<(m.N.length:Int):=by omega
        have el1:0<m.N.length:=by omega
        obtain ⟨b,off,hao,HN0,HKN⟩:=HNUM.out (by omega)
        subst hao
        have HK0:Hid (_∧_∧_∧_∧_∧_):=Lib.hid ⟨HK0.out.1,HK0.out.2.1,HK0.out.2.2.1,HK0.out.2.2.2.1,HK0.out.2.2.2.2,HN0.out⟩
        have HKK:=Lib.hid (fun w' (ho:Only [r] W1.drew w') (hn:Nd w' A X r d l s1 k)=>(⟨(HKK.out w' ho hn).1,(HKK.out w' ho hn).2.1,(HKK.out w' ho hn).2.2.1,(HKK.out w' ho hn).2.2.2.1,(HKK.out w' ho hn).2.2.2.2,HKN.out w' ho⟩:_∧_∧_∧_∧_∧_))
        generalize m.N.getD 0 0=n0 at *
        by_cases c5:n0<1
        ·have g5:decide (n0<1)=true:=decide_eq_true c5
         as_aux_lemma =>
         refine wp_region_held_drew (S:=fun w'=>w'.cell? ⟨M,0,none⟩=some (.int .i64 m.frm)∧w'.cell? ⟨M,1,none⟩=some (.int .i64 m.dst)∧w'.cell? ⟨M,3,none⟩=some (.slice (some ⟨b,off,none⟩) m.N.length c)∧w'.cell? ⟨r,0,none⟩=some (.int .i64 (s.own:Int))∧w'.cell? ⟨r,1,none⟩=some (.int .i64 (s.n:Int))∧w'.cell? ⟨b,off,none⟩=some (.int .i64 n0)) (by kernel_rfl) HK0.out (fun hHeld=>?_)
         refine qtl 0 (z0fx0 _) rfl ?_
         generalize W1.drew=V1 at *
         refine qr1 1 (z0fx1 _) rfl fun K hK=>?_
         unfold z0fx1
         go_simp
         refine HDN.out.mono ?_
         rintro e w2 ⟨rfl,hn2,ho2⟩
         have HN2:=Lib.hid hn2
         have HO2:=Lib.hid ho2
         clear hn2 ho2
         go_wp2_with fail
         refine hK.out _ _ (HKK.out _ HO2.out HN2.out) (fun hHeld=>?_)
         clear hK K
         refine qsp ?_
         refine qtl 2 (z0fx2 _) rfl ?_
         refine qtl 3 (z0fx3 _) rfl ?_
         refine qtl 4 (z0fx4 _) rfl ?_
         refine qtl 5 (z0fx5 _) rfl ?_
         refine qtl 6 (z0fx6 _) rfl ?_
         refine qtl 7 (z0fx7 _) rfl ?_
         refine qtl 8 (z0fx8 _) rfl ?_
         refine qtl 9 (z0fx9 _) rfl ?_
         refine qtl 10 (z0fx10 _) rfl ?_
         refine qtl 11 (z0fx11 _) rfl ?_
         refine qtl 12 (z0fx12 _) rfl ?_
         refine qtl 13 (z0fx13 _) rfl ?_
         refine qtl 14 (z0fx14 _) rfl ?_
         refine qtl 15 (z0fx15 _) rfl ?_
         refine qtl 16 (z0fx16 _) rfl ?_
         refine qtl 17 (z0fx17 _) rfl ?_
         refine qtl 18 (z0fx18 _) rfl ?_
         refine qtl 19 (z0fx19 _) rfl ?_
         refine qtl 20 (z0fx20 _) rfl ?_
         refine qtl 21 (z0fx21 _) rfl ?_
         refine qtl 22 (z0fx22 _) rfl ?_
         refine qtl 23 (z0fx23 _) rfl ?_
         refine qtl 24 (z0fx24 _) rfl ?_
         refine qtl 25 (z0fx25 _) rfl ?_
         refine qtl 26 (z0fx26 _) rfl ?_
         refine qtl 27 (z0fx27 _) rfl ?_
         refine qtl 28 (z0fx28 _) rfl ?_
         refine qtl 29 (z0fx29 _) rfl ?_
         refine qtl 30 (z0fx30 _) rfl ?_
         refine qtl 31 (z0fx31 _) rfl ?_
         refine qtl 32 (z0fx32 _) rfl ?_
         refine qtl 33 (z0fx33 _) rfl ?_
         refine qtl 34 (z0fx34 _) rfl ?_
         refine qtl 35 (z0fx35 _) rfl ?_
         refine qtl 36 (z0fx36 _) rfl ?_
         refine qtl 37 (z0fx37 _) rfl ?_
         refine qtl 38 (z0fx38 _) rfl ?_
         refine qtl 39 (z0fx39 _) rfl ?_
         refine qtl 40 (z0fx40 _) rfl ?_
         refine qtl 41 (z0fx41 _) rfl ?_
         refine qtl 42 (z0fx42 _) rfl ?_
         refine qtl 43 (z0fx43 _) rfl ?_
         refine qtl 44 (z0fx44 _) rfl ?_
         refine qtl 45 (z0fx45 _) rfl ?_
         refine qtl 46 (z0fx46 _) rfl ?_
         refine qtl 47 (z0fx47 _) rfl ?_
         refine qtu 48 (z0fx48 _) rfl ?_
         refine qtu 49 (z0fx49 _) rfl ?_
         refine qtu 50 (z0fx50 _) rfl ?_
         refine qtu 51 (z0fx51 _) rfl ?_
         refine qtu 52 (z0fx52 _) rfl ?_
         refine qtl 53 (z0fx53 _) rfl ?_
         refine qdn ?_
         clear hHeld
         go_wp2_with fail
         go_meet
         exact ⟨rfl,HN2.out,HO2.out⟩
        ·have g5:decide (n0<1)=false:=decide_eq_false c5
         by_cases c6:1099511627776<n0
         ·have g6:decide (1099511627776<n0)=true:=decide_eq_true c6
          as_aux_lemma =>
          refine wp_region_held_drew (S:=fun w'=>w'.cell? ⟨M,0,none⟩=some (.int .i64 m.frm)∧w'.cell? ⟨M,1,none⟩=some (.int .i64 m.dst)∧w'.cell? ⟨M,3,none⟩=some (.slice (some ⟨b,off,none⟩) m.N.length c)∧w'.cell? ⟨r,0,none⟩=some (.int .i64 (s.own:Int))∧w'.cell? ⟨r,1,none⟩=some (.int .i64 (s.n:Int))∧w'.cell? ⟨b,off,none⟩=some (.int .i64 n0)) (by kernel_rfl) HK0.out (fun hHeld=>?_)
          refine qtl 0 (z0fx0 _) rfl ?_
          generalize W1.drew=V1 at *
          refine qr1 1 (z0fx1 _) rfl fun K hK=>?_
          unfold z0fx1
          go_simp
          refine HDN.out.mono ?_
          rintro e w2 ⟨rfl,hn2,ho2⟩
          have HN2:=Lib.hid hn2
          have HO2:=Lib.hid ho2
          clear hn2 ho2
          go_wp2_with fail
          refine hK.out _ _ (HKK.out _ HO2.out HN2.out) (fun hHeld=>?_)
          clear hK K
          refine qsp ?_
          refine qtl 2 (z0fx2 _) rfl ?_
          refine qtl 3 (z0fx3 _) rfl ?_
          refine qtl 4 (z0fx4 _) rfl ?_
          refine qtl 5 (z0fx5 _) rfl ?_
          refine qtl 6 (z0fx6 _) rfl ?_
          refine qtl 7 (z0fx7 _) rfl ?_
          refine qtl 8 (z0fx8 _) rfl ?_
          refine qtl 9 (z0fx9 _) rfl ?_
          refine qtl 10 (z0fx10 _) rfl ?_
          refine qtl 11 (z0fx11 _) rfl ?_
          refine qtl 12 (z0fx12 _) rfl ?_
          refine qtl 13 (z0fx13 _) rfl ?_
          refine qtl 14 (z0fx14 _) rfl ?_
          refine qtl 15 (z0fx15 _) rfl ?_
          refine qtl 16 (z0fx16 _) rfl ?_
          refine qtl 17 (z0fx17 _) rfl ?_
          refine qtl 18 (z0fx18 _) rfl ?_
          refine qtl 19 (z0fx19 _) rfl ?_
          refine qtl 20 (z0fx20 _) rfl ?_
          refine qtl 21 (z0fx21 _) rfl ?_
          refine qtl 22 (z0fx22 _) rfl ?_
          refine qtl 23 (z0fx23 _) rfl ?_
          refine qtl 24 (z0fx24 _) rfl ?_
          refine qtl 25 (z0fx25 _) rfl ?_
          refine qtl 26 (z0fx26 _) rfl ?_
          refine qtl 27 (z0fx27 _) rfl ?_
          refine qtl 28 (z0fx28 _) rfl ?_
          refine qtl 29 (z0fx29 _) rfl ?_
          refine qtl 30 (z0fx30 _) rfl ?_
          refine qtl 31 (z0fx31 _) rfl ?_
          refine qtl 32 (z0fx32 _) rfl ?_
          refine qtl 33 (z0fx33 _) rfl ?_
          refine qtl 34 (z0fx34 _) rfl ?_
          refine qtl 35 (z0fx35 _) rfl ?_
          refine qtl 36 (z0fx36 _) rfl ?_
          refine qtl 37 (z0fx37 _) rfl ?_
          refine qtl 38 (z0fx38 _) rfl ?_
          refine qtl 39 (z0fx39 _) rfl ?_
          refine qtl 40 (z0fx40 _) rfl ?_
          refine qtl 41 (z0fx41 _) rfl ?_
          refine qtl 42 (z0fx42 _) rfl ?_
          refine qtl 43 (z0fx43 _) rfl ?_
          refine qtl 44 (z0fx44 _) rfl ?_
          refine qtl 45 (z0fx45 _) rfl ?_
          refine qtl 46 (z0fx46 _) rfl ?_
          refine qtl 47 (z0fx47 _) rfl ?_
          refine qtl 48 (z0fx48 _) rfl ?_
          refine qtl 49 (z0fx49 _) rfl ?_
          refine qtl 50 (z0fx50 _) rfl ?_
          refine qtl 51 (z0fx51 _) rfl ?_
          refine qtl 52 (z0fx52 _) rfl ?_
          refine qtl 53 (z0fx53 _) rfl ?_
          refine qdn ?_
          clear hHeld
          go_wp2_with fail
          go_meet
          exact ⟨rfl,HN2.out,HO2.out⟩
         ·exfalso
          have g6:decide (1099511627776<n0)=false:=decide_eq_false c6
          have e44:decide (m.N.length<2)=false:=decide_eq_false c4
          have:=HBD.out
          rw [e0,g1,g2,g3,e44,g5,g6] at this
          cases this
   ·have g0:(m.dst != (s.own:Int))=true:=by simpa using c0
    clear c0
    as_aux_lemma =>
    refine wp_region_held_drew (S:=fun w'=>w'.cell? ⟨M,0,none⟩=some (.int .i64 m.frm)∧w'.cell? ⟨M,1,none⟩=some (.int .i64 m.dst)∧w'.cell? ⟨M,3,none⟩=some (.slice ao m.N.length c)∧w'.cell? ⟨r,0,none⟩=some (.int .i64 (s.own:Int))∧w'.cell? ⟨r,1,none⟩=some (.int .i64 (s.n:Int))) (by kernel_rfl) HK0.out (fun hHeld=>?_)
    refine qtl 0 (z0fx0 _) rfl ?_
    generalize W1.drew=V1 at *
    refine qr1 1 (z0fx1 _) rfl fun K hK=>?_
    unfold z0fx1
    go_simp
    refine HDN.out.mono ?_
    rintro e w2 ⟨rfl,hn2,ho2⟩
    have HN2:=Lib.hid hn2
    have HO2:=Lib.hid ho2
    clear hn2 ho2
    go_wp2_with fail
    refine hK.out _ _ (HKK.out _ HO2.out HN2.out) (fun hHeld=>?_)
    clear hK K
    refine qsp ?_
    refine qtl 2 (z0fx2 _) rfl ?_
    refine qtl 3 (z0fx3 _) rfl ?_
    refine qtl 4 (z0fx4 _) rfl ?_
    refine qtl 5 (z0fx5 _) rfl ?_
    refine qtl 6 (z0fx6 _) rfl ?_
    refine qtl 7 (z0fx7 _) rfl ?_
    refine qtl 8 (z0fx8 _) rfl ?_
    refine qtl 9 (z0fx9 _) rfl ?_
    refine qtl 10 (z0fx10 _) rfl ?_
    refine qtl 11 (z0fx11 _) rfl ?_
    refine qtu 12 (z0fx12 _) rfl ?_
    refine qtu 13 (z0fx13 _) rfl ?_
    refine qtu 14 (z0fx14 _) rfl ?_
    refine qtu 15 (z0fx15 _) rfl ?_
    refine qtu 16 (z0fx16 _) rfl ?_
    refine qtu 17 (z0fx17 _) rfl ?_
    refine qtu 18 (z0fx18 _) rfl ?_
    refine qtl 19 (z0fx19 _) rfl ?_
    refine qtl 20 (z0fx20 _) rfl ?_
    refine qtu 21 (z0fx21 _) rfl ?_
    refine qtu 22 (z0fx22 _) rfl ?_
    refine qtu 23 (z0fx23 _) rfl ?_
    refine qtl 24 (z0fx24 _) rfl ?_
    refine qtl 25 (z0fx25 _) rfl ?_
    refine qtu 26 (z0fx26 _) rfl ?_
    refine qtu 27 (z0fx27 _) rfl ?_
    refine qtu 28 (z0fx28 _) rfl ?_
    refine qtu 29 (z0fx29 _) rfl ?_
    refine qtu 30 (z0fx30 _) rfl ?_
    refine qtu 31 (z0fx31 _) rfl ?_
    refine qtu 32 (z0fx32 _) rfl ?_
    refine qtl 33 (z0fx33 _) rfl ?_
    refine qtl 34 (z0fx34 _) rfl ?_
    refine qtu 35 (z0fx35 _) rfl ?_
    refine qtu 36 (z0fx36 _) rfl ?_
    refine qtu 37 (z0fx37 _) rfl ?_
    refine qtu 38 (z0fx38 _) rfl ?_
    refine qtl 39 (z0fx39 _) rfl ?_
    refine qtl 40 (z0fx40 _) rfl ?_
    refine qtu 41 (z0fx41 _) rfl ?_
    refine qtu 42 (z0fx42 _) rfl ?_
    refine qtu 43 (z0fx43 _) rfl ?_
    refine qtu 44 (z0fx44 _) rfl ?_
    refine qtu 45 (z0fx45 _) rfl ?_
    refine qtl 46 (z0fx46 _) rfl ?_
    refine qtl 47 (z0fx47 _) rfl ?_
    refine qtu 48 (z0fx48 _) rfl ?_
    refine qtu 49 (z0fx49 _) rfl ?_
    refine qtu 50 (z0fx50 _) rfl ?_
    refine qtu 51 (z0fx51 _) rfl ?_
    refine qtu 52 (z0fx52 _) rfl ?_
    refine qtl 53 (z0fx53 _) rfl ?_
    refine qdn ?_
    clear hHeld
    go_wp2_with fail
    go_meet
    exact ⟨rfl,HN2.out,HO2.out⟩
 case rest =>
 obtain ⟨rfl,hn2,ho2⟩:=hcut
 rename World=>W2
 have HF:Hid (MsP w W2 A X r d l (.returned (.slice none 0 0)) ([],s1,k)):=Lib.hid (MsP.none (NdP.trans HM0.out (hn2.ndp (Mv.only ho2 (by simpa using HRX.out)))))
 clear hn2 ho2
 go_wp2_with fail
 go_ret
 have hf:=HF.out
 rw [←HS1.out] at hf
 exact hf
end
end Go.Proofs.Ytnicaicjgaoolaa
