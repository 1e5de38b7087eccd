/-
  What the proof of the law leans on: contracts of the program's functions, one behind another. No condition.
-/
import Derived.Test.YtnicaicjgaoolaaT23
import Derived.Test.YtnicaicjgaoolaaT22
import Derived.Test.YtnicaicjgaoolaaT3
set_option linter.unusedVariables false
set_option linter.unusedSimpArgs false
namespace Go.Proofs.Ytnicaicjgaoolaa
open Go.RowKit Go.ChangeMaps Go.WideMaps Go.Maps
set_option maxRecDepth 20000
section
variable (p:String)
def z0gx0:Oper:=⟨some 5,.move (.tmp 0),39,p,#[],none⟩
def z0gx1:Oper:=⟨some 6,.call { callee:=Callee.value (Operand.func 18),args:=#[.tmp 5],argTypes:=#[39]},4,p,#[⟨0,.data⟩],none⟩
def z0gx2:Oper:=⟨some 7,.move (.tmp 6),4,p,#[⟨1,.data⟩,⟨1,.chain⟩],none⟩
def z0gx3:Oper:=⟨some 8,.fieldAddr 51 (.tmp 3) 1,0,p,#[⟨2,.guard⟩],some (2,false)⟩
def z0gx4:Oper:=⟨some 9,.load 3 (.tmp 8),3,p,#[⟨3,.data⟩,⟨2,.guard⟩],some (2,false)⟩
def z0gx5:Oper:=⟨some 10,.move (.tmp 0),39,p,#[⟨2,.guard⟩],some (2,false)⟩
def z0gx6:Oper:=⟨some 11,.nilCheck (.tmp 10),0,p,#[⟨5,.data⟩,⟨2,.guard⟩],some (2,false)⟩
def z0gx7:Oper:=⟨some 12,.fieldAddr 66 (.tmp 11) 0,0,p,#[⟨6,.data⟩,⟨2,.guard⟩],some (2,false)⟩
def z0gx8:Oper:=⟨some 13,.load 3 (.tmp 12),3,p,#[⟨7,.data⟩,⟨2,.guard⟩],some (2,false)⟩
def z0gx9:Oper:=⟨some 14,.binOp BinOp.neq 3 (.tmp 9) (.tmp 13) 3,4,p,#[⟨4,.data⟩,⟨8,.data⟩,⟨2,.guard⟩],some (2,false)⟩
def z0gx10:Oper:=⟨some 15,.pick (.tmp 7) (Operand.const (Value.bool true)) (.tmp 14),4,p,#[⟨2,.data⟩,⟨9,.data⟩],none⟩
def z0gx11:Oper:=⟨some 16,.move (.tmp 15),4,p,#[⟨10,.data⟩,⟨2,.chain⟩],none⟩
def z0gx12:Oper:=⟨some 17,.fieldAddr 51 (.tmp 3) 0,0,p,#[⟨11,.guard⟩],some (11,false)⟩
def z0gx13:Oper:=⟨some 18,.load 3 (.tmp 17),3,p,#[⟨12,.data⟩,⟨11,.guard⟩],some (11,false)⟩
def z0gx14:Oper:=⟨some 19,.move (.tmp 0),39,p,#[⟨11,.guard⟩],some (11,false)⟩
def z0gx15:Oper:=⟨some 20,.nilCheck (.tmp 19),0,p,#[⟨14,.data⟩,⟨11,.guard⟩],some (11,false)⟩
def z0gx16:Oper:=⟨some 21,.fieldAddr 66 (.tmp 20) 0,0,p,#[⟨15,.data⟩,⟨11,.guard⟩],some (11,false)⟩
def z0gx17:Oper:=⟨some 22,.load 3 (.tmp 21),3,p,#[⟨16,.data⟩,⟨11,.guard⟩],some (11,false)⟩
def z0gx18:Oper:=⟨some 23,.binOp BinOp.eql 3 (.tmp 18) (.tmp 22) 3,4,p,#[⟨13,.data⟩,⟨17,.data⟩,⟨11,.guard⟩],some (11,false)⟩
def z0gx19:Oper:=⟨some 24,.pick (.tmp 16) (Operand.const (Value.bool true)) (.tmp 23),4,p,#[⟨11,.data⟩,⟨18,.data⟩],none⟩
def z0gx20:Oper:=⟨some 25,.move (.tmp 24),4,p,#[⟨19,.data⟩,⟨11,.chain⟩],none⟩
def z0gx21:Oper:=⟨some 26,.fieldAddr 51 (.tmp 3) 0,0,p,#[⟨20,.guard⟩],some (20,false)⟩
def z0gx22:Oper:=⟨some 27,.load 3 (.tmp 26),3,p,#[⟨21,.data⟩,⟨20,.guard⟩],some (20,false)⟩
def z0gx23:Oper:=⟨some 28,.binOp BinOp.lss 3 (.tmp 27) (Operand.const (Value.int IntKind.i64 0)) 3,4,p,#[⟨22,.data⟩,⟨20,.guard⟩],some (20,false)⟩
def z0gx24:Oper:=⟨some 29,.pick (.tmp 25) (Operand.const (Value.bool true)) (.tmp 28),4,p,#[⟨20,.data⟩,⟨23,.data⟩],none⟩
def z0gx25:Oper:=⟨some 30,.move (.tmp 29),4,p,#[⟨24,.data⟩,⟨20,.chain⟩],none⟩
def z0gx26:Oper:=⟨some 31,.fieldAddr 51 (.tmp 3) 0,0,p,#[⟨25,.guard⟩],some (25,false)⟩
def z0gx27:Oper:=⟨some 32,.load 3 (.tmp 31),3,p,#[⟨26,.data⟩,⟨25,.guard⟩],some (25,false)⟩
def z0gx28:Oper:=⟨some 33,.move (.tmp 0),39,p,#[⟨25,.guard⟩],some (25,false)⟩
def z0gx29:Oper:=⟨some 34,.nilCheck (.tmp 33),0,p,#[⟨28,.data⟩,⟨25,.guard⟩],some (25,false)⟩
def z0gx30:Oper:=⟨some 35,.fieldAddr 66 (.tmp 34) 1,0,p,#[⟨29,.data⟩,⟨25,.guard⟩],some (25,false)⟩
def z0gx31:Oper:=⟨some 36,.load 3 (.tmp 35),3,p,#[⟨30,.data⟩,⟨25,.guard⟩],some (25,false)⟩
def z0gx32:Oper:=⟨some 37,.binOp BinOp.geq 3 (.tmp 32) (.tmp 36) 3,4,p,#[⟨27,.data⟩,⟨31,.data⟩,⟨25,.guard⟩],some (25,false)⟩
def z0gx33:Oper:=⟨some 38,.pick (.tmp 30) (Operand.const (Value.bool true)) (.tmp 37),4,p,#[⟨25,.data⟩,⟨32,.data⟩],none⟩
def z0gx34:Oper:=⟨some 39,.move (.tmp 38),4,p,#[⟨33,.data⟩,⟨25,.chain⟩],none⟩
def z0gx35:Oper:=⟨some 40,.fieldAddr 51 (.tmp 3) 3,0,p,#[⟨34,.guard⟩],some (34,false)⟩
def z0gx36:Oper:=⟨some 41,.load 49 (.tmp 40),49,p,#[⟨35,.data⟩,⟨34,.guard⟩],some (34,false)⟩
def z0gx37:Oper:=⟨some 42,.call { callee:=Callee.builtin Builtin.len,args:=#[.tmp 41],argTypes:=#[49]},3,p,#[⟨36,.data⟩,⟨34,.guard⟩],some (34,false)⟩
def z0gx38:Oper:=⟨some 43,.binOp BinOp.lss 3 (.tmp 42) (Operand.const (Value.int IntKind.i64 2)) 3,4,p,#[⟨37,.data⟩,⟨34,.guard⟩],some (34,false)⟩
def z0gx39:Oper:=⟨some 44,.pick (.tmp 39) (Operand.const (Value.bool true)) (.tmp 43),4,p,#[⟨34,.data⟩,⟨38,.data⟩],none⟩
def z0gx40:Oper:=⟨some 45,.move (.tmp 44),4,p,#[⟨39,.data⟩,⟨34,.chain⟩],none⟩
def z0gx41:Oper:=⟨some 46,.fieldAddr 51 (.tmp 3) 3,0,p,#[⟨40,.guard⟩],some (40,false)⟩
def z0gx42:Oper:=⟨some 47,.load 49 (.tmp 46),49,p,#[⟨41,.data⟩,⟨40,.guard⟩],some (40,false)⟩
def z0gx43:Oper:=⟨some 48,.indexAddr 49 (.tmp 47) (Operand.const (Value.int IntKind.i64 0)),0,p,#[⟨42,.data⟩,⟨40,.guard⟩],some (40,false)⟩
def z0gx44:Oper:=⟨some 49,.load 2 (.tmp 48),2,p,#[⟨43,.data⟩,⟨40,.guard⟩],some (40,false)⟩
def z0gx45:Oper:=⟨some 50,.binOp BinOp.lss 2 (.tmp 49) (Operand.const (Value.int IntKind.i64 1)) 2,4,p,#[⟨44,.data⟩,⟨40,.guard⟩],some (40,false)⟩
def z0gx46:Oper:=⟨some 51,.pick (.tmp 45) (Operand.const (Value.bool true)) (.tmp 50),4,p,#[⟨40,.data⟩,⟨45,.data⟩],none⟩
def z0gx47:Oper:=⟨some 52,.move (.tmp 51),4,p,#[⟨46,.data⟩,⟨40,.chain⟩],none⟩
def z0gx48:Oper:=⟨some 53,.fieldAddr 51 (.tmp 3) 3,0,p,#[⟨47,.guard⟩],some (47,false)⟩
def z0gx49:Oper:=⟨some 54,.load 49 (.tmp 53),49,p,#[⟨48,.data⟩,⟨47,.guard⟩],some (47,false)⟩
def z0gx50:Oper:=⟨some 55,.indexAddr 49 (.tmp 54) (Operand.const (Value.int IntKind.i64 0)),0,p,#[⟨49,.data⟩,⟨47,.guard⟩],some (47,false)⟩
def z0gx51:Oper:=⟨some 56,.load 2 (.tmp 55),2,p,#[⟨50,.data⟩,⟨47,.guard⟩],some (47,false)⟩
def z0gx52:Oper:=⟨some 57,.binOp BinOp.gtr 2 (.tmp 56) (Operand.const (Value.int IntKind.i64 1099511627776)) 2,4,p,#[⟨51,.data⟩,⟨47,.guard⟩],some (47,false)⟩
def z0gx53:Oper:=⟨some 58,.pick (.tmp 52) (Operand.const (Value.bool true)) (.tmp 57),4,p,#[⟨47,.data⟩,⟨52,.data⟩],none⟩
def z0gx54:Oper:=⟨some 59,.fieldAddr 51 (.tmp 3) 3,0,p,#[],none⟩
def z0gx55:Oper:=⟨some 60,.load 49 (.tmp 59),49,p,#[⟨0,.data⟩],none⟩
def z0gx56:Oper:=⟨some 61,.indexAddr 49 (.tmp 60) (Operand.const (Value.int IntKind.i64 0)),0,p,#[⟨1,.data⟩],none⟩
def z0gx57:Oper:=⟨some 62,.load 2 (.tmp 61),2,p,#[⟨2,.data⟩],none⟩
def z0gx58:Oper:=⟨some 63,.move (.tmp 0),39,p,#[],none⟩
def z0gx59:Oper:=⟨some 64,.nilCheck (.tmp 63),0,p,#[⟨4,.data⟩],none⟩
def z0gx60:Oper:=⟨some 65,.fieldAddr 66 (.tmp 64) 6,0,p,#[⟨5,.data⟩],none⟩
def z0gx61:Oper:=⟨some 66,.load 2 (.tmp 65),2,p,#[⟨6,.data⟩],none⟩
def z0gx62:Oper:=⟨some 67,.binOp BinOp.gtr 2 (.tmp 62) (.tmp 66) 2,4,p,#[⟨3,.data⟩,⟨7,.data⟩],none⟩
def z0gx63:Oper:=⟨some 68,.move (.tmp 67),4,p,#[⟨8,.data⟩],none⟩
def z0gx64:Oper:=⟨some 69,.move (.tmp 0),39,p,#[⟨9,.guard⟩],some (9,true)⟩
def z0gx65:Oper:=⟨some 70,.fieldAddr 51 (.tmp 3) 3,0,p,#[⟨9,.guard⟩],some (9,true)⟩
def z0gx66:Oper:=⟨some 71,.load 49 (.tmp 70),49,p,#[⟨11,.data⟩,⟨9,.guard⟩],some (9,true)⟩
def z0gx67:Oper:=⟨some 72,.indexAddr 49 (.tmp 71) (Operand.const (Value.int IntKind.i64 0)),0,p,#[⟨12,.data⟩,⟨9,.guard⟩],some (9,true)⟩
def z0gx68:Oper:=⟨some 73,.load 2 (.tmp 72),2,p,#[⟨13,.data⟩,⟨9,.guard⟩],some (9,true)⟩
def z0gx69:Oper:=⟨some 74,.call { callee:=Callee.value (Operand.func 34),args:=#[.tmp 69,.tmp 73,Operand.const (Value.int IntKind.i64 (-1))],argTypes:=#[39,2,3]},4,p,#[⟨10,.data⟩,⟨14,.data⟩,⟨9,.chain⟩,⟨9,.guard⟩],some (9,true)⟩
def z0gx70:Oper:=⟨some 75,.unOp UnOp.not 4 (.tmp 74),4,p,#[⟨15,.data⟩,⟨9,.guard⟩],some (9,true)⟩
def z0gx71:Oper:=⟨some 76,.pick (.tmp 68) (.tmp 75) (Operand.const (Value.bool false)),4,p,#[⟨9,.data⟩,⟨16,.data⟩],none⟩
def z0gx72:Oper:=⟨some 105,.move (.tmp 0),39,p,#[],none⟩
def z0gx73:Oper:=⟨some 106,.nilCheck (.tmp 105),0,p,#[⟨0,.data⟩],none⟩
def z0gx74:Oper:=⟨some 107,.fieldAddr 66 (.tmp 106) 17,0,p,#[⟨1,.data⟩],none⟩
def z0gx75:Oper:=⟨some 108,.load 64 (.tmp 107),64,p,#[⟨2,.data⟩],none⟩
def z0gx76:Oper:=⟨some 109,.fieldAddr 51 (.tmp 3) 0,0,p,#[],none⟩
def z0gx77:Oper:=⟨some 110,.load 3 (.tmp 109),3,p,#[⟨4,.data⟩],none⟩
def z0gx78:Oper:=⟨some 111,.move (.tmp 0),39,p,#[],none⟩
def z0gx79:Oper:=⟨some 112,.nilCheck (.tmp 111),0,p,#[⟨6,.data⟩],none⟩
def z0gx80:Oper:=⟨some 113,.fieldAddr 66 (.tmp 112) 16,0,p,#[⟨7,.data⟩],none⟩
def z0gx81:Oper:=⟨some 114,.load 3 (.tmp 113),3,p,#[⟨8,.data⟩],none⟩
def z0gx82:Oper:=⟨some 115,.fieldAddr 51 (.tmp 3) 3,0,p,#[],none⟩
def z0gx83:Oper:=⟨some 116,.load 49 (.tmp 115),49,p,#[⟨10,.data⟩],none⟩
def z0gx84:Oper:=⟨some 117,.indexAddr 49 (.tmp 116) (Operand.const (Value.int IntKind.i64 1)),0,p,#[⟨11,.data⟩],none⟩
def z0gx85:Oper:=⟨some 118,.load 2 (.tmp 117),2,p,#[⟨12,.data⟩],none⟩
def z0gx86:Oper:=⟨some 119,.fieldAddr 51 (.tmp 3) 3,0,p,#[],none⟩
def z0gx87:Oper:=⟨some 120,.load 49 (.tmp 119),49,p,#[⟨14,.data⟩],none⟩
def z0gx88:Oper:=⟨some 121,.indexAddr 49 (.tmp 120) (Operand.const (Value.int IntKind.i64 2)),0,p,#[⟨15,.data⟩],none⟩
def z0gx89:Oper:=⟨some 122,.load 2 (.tmp 121),2,p,#[⟨16,.data⟩],none⟩
def z0gx90:Oper:=⟨some 123,.build 76 #[(0,.tmp 114),(1,.tmp 118),(2,.tmp 122)],76,p,#[⟨9,.data⟩,⟨13,.data⟩,⟨17,.data⟩],none⟩
def z0gx91:Oper:=⟨some 124,.indexAddr 64 (.tmp 108) (.tmp 110),0,p,#[⟨3,.data⟩,⟨5,.data⟩,⟨0,.phase⟩,⟨1,.phase⟩,⟨2,.phase⟩,⟨3,.phase⟩,⟨4,.phase⟩,⟨5,.phase⟩,⟨6,.phase⟩,⟨7,.phase⟩,⟨8,.phase⟩,⟨9,.phase⟩,⟨10,.phase⟩,⟨11,.phase⟩,⟨12,.phase⟩,⟨13,.phase⟩,⟨14,.phase⟩,⟨15,.phase⟩,⟨16,.phase⟩,⟨17,.phase⟩,⟨18,.phase⟩],none⟩
def z0gx92:Oper:=⟨none,.store 76 (.tmp 124) (.tmp 123),0,p,#[⟨19,.data⟩,⟨18,.data⟩,⟨0,.phase⟩,⟨1,.phase⟩,⟨2,.phase⟩,⟨3,.phase⟩,⟨4,.phase⟩,⟨5,.phase⟩,⟨6,.phase⟩,⟨7,.phase⟩,⟨8,.phase⟩,⟨9,.phase⟩,⟨10,.phase⟩,⟨11,.phase⟩,⟨12,.phase⟩,⟨13,.phase⟩,⟨14,.phase⟩,⟨15,.phase⟩,⟨16,.phase⟩,⟨17,.phase⟩,⟨18,.phase⟩],none⟩
end
attribute [go_sem,reducible] z0gx0 z0gx1 z0gx2 z0gx3 z0gx4 z0gx5 z0gx6 z0gx7 z0gx8 z0gx9 z0gx10 z0gx11 z0gx12 z0gx13 z0gx14 z0gx15 z0gx16 z0gx17 z0gx18 z0gx19 z0gx20 z0gx21 z0gx22 z0gx23 z0gx24 z0gx25 z0gx26 z0gx27 z0gx28 z0gx29 z0gx30 z0gx31 z0gx32 z0gx33 z0gx34 z0gx35 z0gx36 z0gx37 z0gx38 z0gx39 z0gx40 z0gx41 z0gx42 z0gx43 z0gx44 z0gx45 z0gx46 z0gx47 z0gx48 z0gx49 z0gx50 z0gx51 z0gx52 z0gx53 z0gx54 z0gx55 z0gx56 z0gx57 z0gx58 z0gx59 z0gx60 z0gx61 z0gx62 z0gx63 z0gx64 z0gx65 z0gx66 z0gx67 z0gx68 z0gx69 z0gx70 z0gx71 z0gx72 z0gx73 z0gx74 z0gx75 z0gx76 z0gx77 z0gx78 z0gx79 z0gx80 z0gx81 z0gx82 z0gx83 z0gx84 z0gx85 z0gx86 z0gx87 z0gx88 z0gx89 z0gx90 z0gx91 z0gx92
/-- the part of Get behind the new term -/
def swM (s:Rp) (k:Dk) (m:Msg):List Msg×Rp×Dk :=
 if m.kind=1 then askedM s k m
 else if m.kind=2 then votedM s k m
 else if m.kind=3 then laysM s k m
 else if m.kind=4 then ((answeredM s m).1,(answeredM s m).2,k)
 else if m.kind=5 then (if m.N.length=3 then ([],{ s with heard:=s.heard.set m.frm.toNat ((s.clock:Int),m.N.getD 1 0,m.N.getD 2 0)},k) else ([],s,k))
 else ([],s,k)
theorem getM_eq (s0:Rp) (k0:Dk) (m:Msg):getM s0 k0 m=if (doneS s0 k0).done||badM (doneS s0 k0) m then ([],doneS s0 k0,k0) else
 let p:=if (doneS s0 k0).term<m.N.getD 0 0 then enterM (doneS s0 k0) k0 (m.N.getD 0 0) (-1) else (true,doneS s0 k0,k0)
 if p.1 then swM p.2.1 p.2.2 m else ([],p.2):=rfl
section
variable {w w':World} {A A' X X' D L R:List Nat} {r d l:Nat} {s s':Rp} {k k':Dk} {vl:Value} {gv gn gm gh:Nat}
theorem NdC.new_heard (h:NdC w A D L R r d l s k vl gv gn gm gh) (ho:Only [gh] w w') (l2:List (Int×Int×Int)) (hc:w'.heap[gh]? = some (.cells (heardA l2) 76 (0,0))):NdC w' A D L R r d l { s with heard:=l2 } k vl gv gn gm gh:=by
 have hS:∀b∈[gh],b∈R:=fun b hb=>by rw [List.mem_singleton.1 hb];exact h.hR
 exact ⟨h.wd_only ho hS,ho.keeps h.cell (by simpa using heap_ne h.cell h.heard (by decide)),h.log.step ho (fun b hb=>h.rA b (hS b hb)) (Ext.refl _ _),ho.keeps h.votes (by simpa using heap_ne h.votes h.heard (by decide)),
  ho.keeps h.next (by simpa using heap_ne h.next h.heard (by decide)),ho.keeps h.mat (by simpa using heap_ne h.mat h.heard (by decide)),hc,h.nm,h.rR,h.vR,h.nR,h.mR,h.hR,h.dRD,h.dRL,h.rA⟩
theorem heardA_set2 (l:List (Int×Int×Int)) (i:Nat) (x:Int×Int×Int) (h:i<l.length):(((heardA l).setIfInBounds (i*3) (.int .i64 x.1)).setIfInBounds (i*3+1) (.int .i64 x.2.1)).setIfInBounds (i*3+2) (.int .i64 x.2.2)=heardA (l.set i x):=heardA_set l i x h
theorem heardA_size (l:List (Int×Int×Int)):(heardA l).size=l.length*3:=by
 unfold heardA
 induction l with
 | nil=>rfl
 | cons a l ih =>
  simp only [List.flatMap_cons,List.size_toArray,List.length_append,List.length_cons] at ih ⊢
  rw [ih]
  simp [rivA];omega
set_option maxHeartbeats 40000000 in
theorem get_good (h:Nd w A X r d l s k) (hw:Wf s k) (m:Msg) (v u:Value) (hm:IsMsg w A m v u) (hdn:doneM s k=false) (hbd:badM (doneS s k) m=false) (hN1m:m.N.getD 1 0≤4611686018427387904) (hB:m.B.length≤1000000) (hlm:m.N.length≤1000000000) :
  Calls Try.prog 19 #[.pointer (some ⟨r,0,none⟩),msgV m v u] w fun e w'=>MsP w w' A X r d l e (getM s k m):=by
 have hbw:Below w.heap.size w (w.alloc (.cells (msgC m v u) 51)):=(Below.refl _ _).alloc (Nat.le_refl _) _
 have h1:=h.below hbw
 have hmw:=hm.below hbw
 obtain ⟨ao,c,ev,_⟩:=id hm.n
 subst ev
 obtain ⟨ub,bc,eu⟩:=bs_shape hm.b
 subst eu
 have HRX:=Lib.hid h.rX
 have hMA:w.heap.size∉A:=fun hb=>by have:=h.alt _ hb;omega
 have hrA:r∈A:=h.xA r h.rX
 have hMr:w.heap.size∉[r]:=by
  simp;intro e;exact hMA (e ▸ hrA)
 have hbx:=heap_new w (.cells (msgC m (.slice ao m.N.length c) (.slice ub m.B.length bc)) 51)
 have HM0:Hid (Mv A A X X w (w.alloc (.cells (msgC m (.slice ao m.N.length c) (.slice ub m.B.length bc)) 51)).drew):=Lib.hid ((Mv.below hbw).trans (Mv.below (below_drewN _ 1)))
 have h1d:Nd (w.alloc (.cells (msgC m (.slice ao m.N.length c) (.slice ub m.B.length bc)) 51)).drew A X r d l s k:=h1.below (below_drewN _ 1)
 have HDN:=Lib.hid (done_any h1d)
 have HCE:Hid (∀W s9,Nd W A X r d l s9 k→s9.own=s.own→s9.n=s.n→W.cell? ⟨r,0,none⟩=some (.int .i64 (s.own:Int))∧W.cell? ⟨r,1,none⟩=some (.int .i64 (s.n:Int))):=Lib.hid (fun W s9 h9 e1 e2=>by
  obtain ⟨vl,gv,gn,gm,gh,hcell⟩:=h9.cells
  exact ⟨by rw [cell_heap hcell,←e1];rfl,by rw [cell_heap hcell,←e2];rfl⟩)
 have HK0:Hid ((w.alloc (.cells (msgC m (.slice ao m.N.length c) (.slice ub m.B.length bc)) 51)).drew.cell? ⟨w.heap.size,0,none⟩=some (.int .i64 m.frm)∧(w.alloc (.cells (msgC m (.slice ao m.N.length c) (.slice ub m.B.length bc)) 51)).drew.cell? ⟨w.heap.size,1,none⟩=some (.int .i64 m.dst)∧(w.alloc (.cells (msgC m (.slice ao m.N.length c) (.slice ub m.B.length bc)) 51)).drew.cell? ⟨w.heap.size,3,none⟩=some (.slice ao m.N.length c)∧(w.alloc (.cells (msgC m (.slice ao m.N.length c) (.slice ub m.B.length bc)) 51)).drew.cell? ⟨r,0,none⟩=some (.int .i64 (s.own:Int))∧(w.alloc (.cells (msgC m (.slice ao m.N.length c) (.slice ub m.B.length bc)) 51)).drew.cell? ⟨r,1,none⟩=some (.int .i64 (s.n:Int))):=Lib.hid
  ⟨(cell_heap hbx 0).trans rfl,(cell_heap hbx 1).trans rfl,(cell_heap hbx 3).trans rfl,(HCE.out _ _ h1d rfl rfl).1,(HCE.out _ _ h1d rfl rfl).2⟩
 have HKK:Hid (∀w',Only [r] (w.alloc (.cells (msgC m (.slice ao m.N.length c) (.slice ub m.B.length bc)) 51)).drew w'→Nd w' A X r d l (doneS s k) k→w'.cell? ⟨w.heap.size,0,none⟩=some (.int .i64 m.frm)∧w'.cell? ⟨w.heap.size,1,none⟩=some (.int .i64 m.dst)∧w'.cell? ⟨w.heap.size,3,none⟩=some (.slice ao m.N.length c)∧w'.cell? ⟨r,0,none⟩=some (.int .i64 (s.own:Int))∧w'.cell? ⟨r,1,none⟩=some (.int .i64 (s.n:Int))):=Lib.hid (fun w' ho hn =>
  ⟨ho.cell HK0.out.1 hMr,ho.cell HK0.out.2.1 hMr,ho.cell HK0.out.2.2.1 hMr,(HCE.out _ _ hn rfl rfl).1,(HCE.out _ _ hn rfl rfl).2⟩)
 have HNUM:Hid (1≤m.N.length→∃b off,ao=some ⟨b,off,none⟩∧Hid ((w.alloc (.cells (msgC m (.slice ao m.N.length c) (.slice ub m.B.length bc)) 51)).drew.cell? ⟨b,off,none⟩=some (.int .i64 (m.N.getD 0 0)))∧Hid (∀w',Only [r] (w.alloc (.cells (msgC m (.slice ao m.N.length c) (.slice ub m.B.length bc)) 51)).drew w'→w'.cell? ⟨b,off,none⟩=some (.int .i64 (m.N.getD 0 0)))):=Lib.hid (fun hl=>by
  obtain ⟨b,off,c9,hc9⟩:=numC hmw.n (by omega)
  have e9:=hc9.v
  simp only [Value.slice.injEq] at e9
  obtain ⟨rfl,_,rfl⟩:=e9
  have h0:=hc9.at_ 0 (by omega)
  rw [Nat.add_zero] at h0
  have hbr:b∉[r]:=by
   obtain ⟨ao',c',e,_,_,_,h3⟩:=hm.n
   cases e
   simp;intro e;exact (h3 _ rfl).1 (e ▸ hrA)
  exact ⟨b,off,rfl,Lib.hid h0,Lib.hid (fun w' ho=>ho.cell h0 hbr)⟩)
 have hE:getM s k m=(let p:=if (doneS s k).term<m.N.getD 0 0 then enterM (doneS s k) k (m.N.getD 0 0) (-1) else (true,doneS s k,k)
  if p.1 then swM p.2.1 p.2.2 m else ([],p.2)):=by
  rw [getM_eq,if_neg (by rw [hbd];show ¬(doneM s k||false)=true;rw [hdn];decide)]
 have HE:=Lib.hid hE
 have hbd2:(!(m.dst==(s.own:Int))||m.frm==(s.own:Int)||decide (m.frm<0)||decide ((s.n:Int)≤m.frm)||decide (m.N.length<2)||decide (m.N.getD 0 0<1)||decide (1099511627776<m.N.getD 0 0))=false:=hbd
 simp only [Bool.or_eq_false_iff,Bool.not_eq_false',decide_eq_false_iff_not,beq_iff_eq] at hbd2
 obtain ⟨⟨⟨⟨⟨⟨c0,c1⟩,c2⟩,c3⟩,c4⟩,c5⟩,c6⟩:=hbd2
 have c1:(m.frm==(s.own:Int))=false:=c1
 have HWF:=Lib.hid (wf_doneS hw)
 have HMG:=Lib.hid (hmw.below (below_drewN _ 1))
 have HBX:Hid ((w.alloc (.cells (msgC m (.slice ao m.N.length c) (.slice ub m.B.length bc)) 51)).drew.heap[w.heap.size]? = some (.cells (msgC m (.slice ao m.N.length c) (.slice ub m.B.length bc)) 51 (0,0))):=Lib.hid hbx
 have HMA:=Lib.hid hMA
 have HMR:=Lib.hid hMr
 have HRA:=Lib.hid hrA
 have HSN:Hid ((doneS s k).n=s.n∧(doneS s k).own=s.own):=Lib.hid ⟨rfl,rfl⟩
 have g0:(m.dst != (s.own:Int))=false:=by simpa using c0
 have g2:decide (m.frm<0)=false:=decide_eq_false c2
 have g3:decide ((s.n:Int)≤m.frm)=false:=decide_eq_false c3
 have g4:decide ((m.N.length:Int)<2)=false:=decide_eq_false (by omega)
 have e4:¬(m.N.length:Int)<2:=by omega
 have el0:(0:Int)<(m.N.length:Int):=by omega
 have el1:0<m.N.length:=by omega
 have g5:decide (m.N.getD 0 0<1)=false:=decide_eq_false c5
 have g6:decide (1099511627776<m.N.getD 0 0)=false:=decide_eq_false c6
 obtain ⟨b,off,hao,HN0,HKN⟩:=HNUM.out (by omega)
 subst hao
 have HK0:Hid (_∧_∧_∧_∧_∧_):=Lib.hid ⟨HK0.out.1,HK0.out.2.1,HK0.out.2.2.1,HK0.out.2.2.2.1,HK0.out.2.2.2.2,HN0.out⟩
 have HKK:=Lib.hid (fun w' (ho:Only [r] (w.alloc (.cells (msgC m (.slice (some ⟨b,off,none⟩) m.N.length c) (.slice ub m.B.length bc)) 51)).drew w') (hn:Nd w' A X r d l (doneS s k) k)=>(⟨(HKK.out w' ho hn).1,(HKK.out w' ho hn).2.1,(HKK.out w' ho hn).2.2.1,(HKK.out w' ho hn).2.2.2.1,(HKK.out w' ho hn).2.2.2.2,HKN.out w' ho⟩:_∧_∧_∧_∧_∧_))
 rw [hdn] at HDN
 clear h h1 hm hmw hbw hbx h1d HCE hMA hrA hMr hw hdn hbd hE c0 HNUM HN0 HKN
 generalize hn0:m.N.getD 0 0=n0 at *
 have HN0E:=Lib.hid hn0
 clear hn0
 unfold msgV msgC at *
 go_enter Try.func19,Try.ntmps19
 go_upto_region 1 with (fail)
 generalize w.alloc (.cells #[.int .i64 m.frm,.int .i64 m.dst,.int .i64 m.kind,.slice (some ⟨b,off,none⟩) m.N.length c,.slice ub m.B.length bc] 51)=W1 at *
 generalize w.heap.size=M at *
 generalize hs1:doneS s k=s1 at *
 have HS1:=Lib.hid hs1
 clear hs1
 go_cut [58] (fun v wx=>v = .bool false∧Nd wx A X r d l s1 k∧Only [r] W1.drew wx)
 case first =>
  as_aux_lemma =>
  refine wp_region_held_drew (S:=fun w'=>w'.cell? ⟨M,0,none⟩=some (.int .i64 m.frm)∧w'.cell? ⟨M,1,none⟩=some (.int .i64 m.dst)∧w'.cell? ⟨M,3,none⟩=some (.slice (some ⟨b,off,none⟩) m.N.length c)∧w'.cell? ⟨r,0,none⟩=some (.int .i64 (s.own:Int))∧w'.cell? ⟨r,1,none⟩=some (.int .i64 (s.n:Int))∧w'.cell? ⟨b,off,none⟩=some (.int .i64 n0)) (by kernel_rfl) HK0.out (fun hHeld=>?_)
  refine qtl 0 (z0gx0 _) rfl ?_
  generalize W1.drew=V1 at *
  refine qr1 1 (z0gx1 _) rfl fun K hK=>?_
  unfold z0gx1
  go_simp
  refine HDN.out.mono ?_
  rintro e w2 ⟨rfl,hn2,ho2⟩
  have HN2:=Lib.hid hn2
  have HO2:=Lib.hid ho2
  clear hn2 ho2
  go_wp2_with fail
  refine hK.out _ _ (HKK.out _ HO2.out HN2.out) (fun hHeld=>?_)
  clear hK K
  refine qsp ?_
  refine qtl 2 (z0gx2 _) rfl ?_
  refine qtl 3 (z0gx3 _) rfl ?_
  refine qtl 4 (z0gx4 _) rfl ?_
  refine qtl 5 (z0gx5 _) rfl ?_
  refine qtl 6 (z0gx6 _) rfl ?_
  refine qtl 7 (z0gx7 _) rfl ?_
  refine qtl 8 (z0gx8 _) rfl ?_
  refine qtl 9 (z0gx9 _) rfl ?_
  refine qtl 10 (z0gx10 _) rfl ?_
  refine qtl 11 (z0gx11 _) rfl ?_
  refine qtl 12 (z0gx12 _) rfl ?_
  refine qtl 13 (z0gx13 _) rfl ?_
  refine qtl 14 (z0gx14 _) rfl ?_
  refine qtl 15 (z0gx15 _) rfl ?_
  refine qtl 16 (z0gx16 _) rfl ?_
  refine qtl 17 (z0gx17 _) rfl ?_
  refine qtl 18 (z0gx18 _) rfl ?_
  refine qtl 19 (z0gx19 _) rfl ?_
  refine qtl 20 (z0gx20 _) rfl ?_
  refine qtl 21 (z0gx21 _) rfl ?_
  refine qtl 22 (z0gx22 _) rfl ?_
  refine qtl 23 (z0gx23 _) rfl ?_
  refine qtl 24 (z0gx24 _) rfl ?_
  refine qtl 25 (z0gx25 _) rfl ?_
  refine qtl 26 (z0gx26 _) rfl ?_
  refine qtl 27 (z0gx27 _) rfl ?_
  refine qtl 28 (z0gx28 _) rfl ?_
  refine qtl 29 (z0gx29 _) rfl ?_
  refine qtl 30 (z0gx30 _) rfl ?_
  refine qtl 31 (z0gx31 _) rfl ?_
  refine qtl 32 (z0gx32 _) rfl ?_
  refine qtl 33 (z0gx33 _) rfl ?_
  refine qtl 34 (z0gx34 _) rfl ?_
  refine qtl 35 (z0gx35 _) rfl ?_
  refine qtl 36 (z0gx36 _) rfl ?_
  refine qtl 37 (z0gx37 _) rfl ?_
  refine qtl 38 (z0gx38 _) rfl ?_
  refine qtl 39 (z0gx39 _) rfl ?_
  refine qtl 40 (z0gx40 _) rfl ?_
  refine qtl 41 (z0gx41 _) rfl ?_
  refine qtl 42 (z0gx42 _) rfl ?_
  refine qtl 43 (z0gx43 _) rfl ?_
  refine qtl 44 (z0gx44 _) rfl ?_
  refine qtl 45 (z0gx45 _) rfl ?_
  refine qtl 46 (z0gx46 _) rfl ?_
  refine qtl 47 (z0gx47 _) rfl ?_
  refine qtl 48 (z0gx48 _) rfl ?_
  refine qtl 49 (z0gx49 _) rfl ?_
  refine qtl 50 (z0gx50 _) rfl ?_
  refine qtl 51 (z0gx51 _) rfl ?_
  refine qtl 52 (z0gx52 _) rfl ?_
  refine qtl 53 (z0gx53 _) rfl ?_
  refine qdn ?_
  clear hHeld
  go_wp2_with fail
  go_meet
  exact ⟨rfl,HN2.out,HO2.out⟩
 case rest =>
 obtain ⟨rfl,hn2,ho2⟩:=hcut
 rename World=>W2
 have H2:=Lib.hid hn2
 have HB2:=Lib.hid (ho2.keeps HBX.out HMR.out)
 have HMS2:=Lib.hid (HMG.out.step ho2 (by simpa using HRA.out) (Ext.refl _ _))
 have M2:Hid (Mv A A X X w W2):=Lib.hid (HM0.out.trans (Mv.only ho2 (by simpa using HRX.out)))
 have hm3:W2.drew.cell? ⟨M,3,none⟩=some (.slice (some ⟨b,off,none⟩) m.N.length c):=(cell_heap HB2.out 3).trans rfl
 have hn0c:W2.drew.cell? ⟨b,off,none⟩=some (.int .i64 n0):=(HKK.out W2 ho2 hn2).2.2.2.2.2
 obtain ⟨vl2,gv2,gn2,gm2,gh2,hcell2⟩:=hn2.cells
 have hr6:W2.drew.cell? ⟨r,6,none⟩=some (.int .i64 s1.term):=by
  have h9:=cell_heap hcell2 6
  exact h9.trans rfl
 have HXA2:=Lib.hid hn2.xA
 clear hn2 ho2 hcell2 HDN HK0 HKK HBX HM0 HMR
 have HEN:=Lib.hid (fun V (hb:Below W2.heap.size W2 V)=>enter_any (H2.out.below hb) HWF.out n0 (-1))
 have HWE:=Lib.hid (wf_enter HWF.out n0 (-1) (by omega) (by omega) (by omega) (by have:=HWF.out.n1;omega))
 have HEE:=Lib.hid (enter_n (s:=s1) (k:=k) n0 (-1))
 go_upto_region 3 with (fail)
 go_cut [76] (fun v wx=>∃p:Bool×Rp×Dk,p=(if s1.term<n0 then enterM s1 k n0 (-1) else (true,s1,k))∧v = .bool (!p.1)∧NdP W2 wx A X r d l p.2.1 p.2.2)
 case first =>
  as_aux_lemma =>
  by_cases hlt:s1.term<n0
  ·have glt:decide (s1.term<n0)=true:=decide_eq_true hlt
   have HEN:=Lib.hid (HEN.out W2.drew (below_drewN W2 1))
   have HMD:Hid (Mv A A X X W2 W2.drew):=Lib.hid (Mv.below (below_drewN W2 1))
   have HK4F:Hid (∀w4 s4 k4,NdP W2.drew w4 A X r d l s4 k4→w4.cell? ⟨M,3,none⟩=some (.slice (some ⟨b,off,none⟩) m.N.length c)∧w4.cell? ⟨b,off,none⟩=some (.int .i64 n0)):=Lib.hid (fun w4 s4 k4 hn=>by
    obtain ⟨A4,X4,h4,m4⟩:=hn
    have hb4:W2.drew.heap[M]? = _:=HB2.out
    refine ⟨(cell_heap (m4.mv.only.keeps hb4 (fun hm=>HMA.out (HXA2.out _ hm))) 3).trans rfl,m4.mv.only.cell hn0c (fun hm=>?_)⟩
    obtain ⟨ao',c',e,_,_,_,h3⟩:=HMS2.out.n
    cases e
    exact (h3 _ rfl).1 (HXA2.out _ hm))
   clear HWE HEE H2
   have HIF:Hid (enterM s1 k n0 (-1)=if s1.term<n0 then enterM s1 k n0 (-1) else (true,s1,k)):=Lib.hid (if_pos hlt).symm
   generalize enterM s1 k n0 (-1)=p at *
   obtain ⟨ok,s3,k3⟩:=p
   (try simp only at HEN)
   refine wp_region_held_drew (S:=fun w'=>w'.cell? ⟨M,3,none⟩=some (.slice (some ⟨b,off,none⟩) m.N.length c)∧w'.cell? ⟨b,off,none⟩=some (.int .i64 n0)) (by kernel_rfl) ⟨hm3,hn0c⟩ (fun hHeld=>?_)
   refine qtl 0 (z0gx54 _) rfl ?_
   refine qtl 1 (z0gx55 _) rfl ?_
   refine qtl 2 (z0gx56 _) rfl ?_
   refine qtl 3 (z0gx57 _) rfl ?_
   refine qtl 4 (z0gx58 _) rfl ?_
   refine qtl 5 (z0gx59 _) rfl ?_
   refine qtl 6 (z0gx60 _) rfl ?_
   generalize W2.drew=V2 at *
   refine qr1 7 (z0gx61 _) rfl fun K hK=>?_
   unfold z0gx61
   go_simp
   refine hK.out _ _ hHeld (fun hHeld=>?_)
   clear hK K
   refine qsp ?_
   refine qtl 8 (z0gx62 _) rfl ?_
   refine qtl 9 (z0gx63 _) rfl ?_
   refine qtl 10 (z0gx64 _) rfl ?_
   refine qtl 11 (z0gx65 _) rfl ?_
   refine qtl 12 (z0gx66 _) rfl ?_
   refine qtl 13 (z0gx67 _) rfl ?_
   refine qtl 14 (z0gx68 _) rfl ?_
   refine qr1 15 (z0gx69 _) rfl fun K hK=>?_
   unfold z0gx69
   go_simp
   refine HEN.out.mono ?_
   rintro e w4 ⟨rfl,hn4⟩
   have HN4:=Lib.hid hn4
   have HK4:=Lib.hid (HK4F.out _ _ _ hn4)
   clear hn4
   go_wp2_with fail
   refine hK.out _ _ HK4.out (fun hHeld=>?_)
   clear hK K
   refine qsp ?_
   refine qtl 16 (z0gx70 _) rfl ?_
   refine qtl 17 (z0gx71 _) rfl ?_
   refine qdn ?_
   clear hHeld
   go_wp2_with fail
   go_meet
   exact ⟨(ok,s3,k3),HIF.out,rfl,NdP.trans HMD.out HN4.out⟩
  ·have HIF:Hid ((true,s1,k)=if s1.term<n0 then enterM s1 k n0 (-1) else (true,s1,k)):=Lib.hid (by rw [if_neg hlt])
   have glt:decide (s1.term<n0)=false:=decide_eq_false hlt
   have hm3:W2.cell? ⟨M,3,none⟩=some (.slice (some ⟨b,off,none⟩) m.N.length c):=hm3
   have hn0c:W2.cell? ⟨b,off,none⟩=some (.int .i64 n0):=hn0c
   have hr6:W2.cell? ⟨r,6,none⟩=some (.int .i64 s1.term):=hr6
   go_quiet (fail)
   go_wp2_with fail
   go_meet
   exact ⟨_,HIF.out,rfl,(H2.out.below (below_drewN W2 nq)).ndp (Mv.below (below_drewN W2 nq))⟩
 case rest =>
 obtain ⟨p,hp,rfl,hn3⟩:=hcut
 rename World=>W3
 have HP3:Hid (Wf p.2.1 p.2.2∧p.2.1.n=s.n∧p.2.1.own=s.own∧(p.1=true→n0≤p.2.1.term)):=Lib.hid (by
  rw [hp]
  by_cases hlt:s1.term<n0
  ·rw [if_pos hlt]
   exact ⟨HWE.out,HEE.out.1.trans HSN.out.1,HEE.out.2.1.trans HSN.out.2,fun h=>by rw [HEE.out.2.2 h];exact Int.le_refl _⟩
  ·rw [if_neg hlt]
   exact ⟨HWF.out,HSN.out.1,HSN.out.2,fun _=>by show n0≤s1.term;omega⟩)
 have HE3:Hid (getM s k m=if p.1 then swM p.2.1 p.2.2 m else ([],p.2)):=Lib.hid (by rw [HE.out,hp])
 have HN3:=Lib.hid hn3
 clear hp hn3 HEN HWE HEE HE HWF hr6 hm3 hn0c
 obtain ⟨ok,s3,k3⟩:=p
 (try simp only at HP3);(try simp only at HE3);(try simp only at HN3)
 cases ok with
 | false =>
  rw [if_neg (by decide)] at HE3
  have HF:Hid (MsP w W3 A X r d l (.returned (.slice none 0 0)) ([],s3,k3)):=Lib.hid (MsP.none (NdP.trans M2.out HN3.out))
  go_wp2_with fail
  go_ret
  rw [HE3.out]
  exact HF.out
 | true =>
  rw [if_pos rfl] at HE3
  obtain ⟨A3,X3,h3,m3⟩:=HN3.out
  have H3:=Lib.hid h3
  have M3:=Lib.hid (M2.out.trans m3)
  have HB3:=Lib.hid (m3.mv.only.keeps HB2.out (fun hm=>HMA.out (HXA2.out _ hm)))
  have HMS3:=Lib.hid (HMS2.out.step m3.mv.only HXA2.out m3.ext)
  have HMA3:Hid (M∉A3):=Lib.hid (fun hm=>by
   rcases m3.ext _ hm with h1 | h1
   ·exact HMA.out h1
   ·have:=lt_of_heap HB2.out;omega)
  have HW3:=Lib.hid HP3.out.1
  obtain ⟨fr,hfr⟩:∃fr:Nat,m.frm=(fr:Int):=⟨m.frm.toNat,by omega⟩
  have HFR:=Lib.hid hfr
  have HFN:Hid (fr<s3.n):=Lib.hid (by rw [HP3.out.2.1];omega)
  have HLE:Hid (m.N.getD 0 0≤s3.term):=Lib.hid (by rw [HN0E.out];exact HP3.out.2.2.2 rfl)
  have HLEN:Hid (2≤m.N.length):=Lib.hid (by omega)
  have hm2:W3.cell? ⟨M,2,none⟩=some (.int .i64 m.kind):=(cell_heap HB3.out 2).trans rfl
  have hm0:W3.cell? ⟨M,0,none⟩=some (.int .i64 m.frm):=(cell_heap HB3.out 0).trans rfl
  have hm1:W3.cell? ⟨M,1,none⟩=some (.int .i64 m.dst):=(cell_heap HB3.out 1).trans rfl
  have hm3:W3.cell? ⟨M,3,none⟩=some (.slice (some ⟨b,off,none⟩) m.N.length c):=(cell_heap HB3.out 3).trans rfl
  have hm4:W3.cell? ⟨M,4,none⟩=some (.slice ub m.B.length bc):=(cell_heap HB3.out 4).trans rfl
  have HASK:Hid (Calls Try.prog 35 #[.pointer (some ⟨r,0,none⟩),.agg #[.int .i64 m.frm,.int .i64 m.dst,.int .i64 m.kind,.slice (some ⟨b,off,none⟩) m.N.length c,.slice ub m.B.length bc]] W3 fun e w'=>MsP W3 w' A3 X3 r d l e (askedM s3 k3 m)):=Lib.hid (asked_any h3 HW3.out m _ _ HMS3.out (by omega) (by rw [HFR.out];exact_mod_cast HFN.out))
  have HVOT:Hid (Calls Try.prog 36 #[.pointer (some ⟨r,0,none⟩),.agg #[.int .i64 m.frm,.int .i64 m.dst,.int .i64 m.kind,.slice (some ⟨b,off,none⟩) m.N.length c,.slice ub m.B.length bc]] W3 fun e w'=>MsP W3 w' A3 X3 r d l e (votedM s3 k3 m)):=Lib.hid (voted_any h3 HW3.out m _ _ HMS3.out fr HFR.out HFN.out HLEN.out)
  have HLAY:Hid (Calls Try.prog 37 #[.pointer (some ⟨r,0,none⟩),.agg #[.int .i64 m.frm,.int .i64 m.dst,.int .i64 m.kind,.slice (some ⟨b,off,none⟩) m.N.length c,.slice ub m.B.length bc]] W3 fun e w'=>MsP W3 w' A3 X3 r d l e (laysM s3 k3 m)):=Lib.hid (lays_any h3 HW3.out m _ _ HMS3.out HLEN.out HLE.out hN1m hB)
  have HANS:Hid (Calls Try.prog 38 #[.pointer (some ⟨r,0,none⟩),.agg #[.int .i64 m.frm,.int .i64 m.dst,.int .i64 m.kind,.slice (some ⟨b,off,none⟩) m.N.length c,.slice ub m.B.length bc]] W3 fun e w'=>MsP W3 w' A3 X3 r d l e ((answeredM s3 m).1,(answeredM s3 m).2,k3)):=Lib.hid (answered_any h3 HW3.out m _ _ HMS3.out fr HFR.out HFN.out HLEN.out)
  have HKIND:Hid (swM s3 k3 m=if m.kind=1 then askedM s3 k3 m else if m.kind=2 then votedM s3 k3 m else if m.kind=3 then laysM s3 k3 m else if m.kind=4 then ((answeredM s3 m).1,(answeredM s3 m).2,k3) else if m.kind=5 then (if m.N.length=3 then ([],{ s3 with heard:=s3.heard.set m.frm.toNat ((s3.clock:Int),m.N.getD 1 0,m.N.getD 2 0)},k3) else ([],s3,k3)) else ([],s3,k3)):=Lib.hid rfl
  clear h3 m3 hfr hB hN1m
  by_cases k1:m.kind=1
  ·have HR:Hid (swM s3 k3 m=askedM s3 k3 m):=Lib.hid (by rw [HKIND.out,if_pos k1])
   have f1:(m.kind==1)=true:=by simpa using k1
   clear k1
   as_aux_lemma =>
   go_wp2_with fail
   refine HASK.out.mono ?_
   intro e w4 h4
   have H4:=Lib.hid (MsP.trans M3.out h4)
   obtain ⟨v4,_,_,rfl,_⟩:=h4
   go_wp2_with fail
   go_ret
   rw [HE3.out,HR.out]
   exact H4.out
  ·have f1:(m.kind==1)=false:=by simpa using k1
   by_cases k2:m.kind=2
   ·have HR:Hid (swM s3 k3 m=votedM s3 k3 m):=Lib.hid (by rw [HKIND.out,if_neg k1,if_pos k2])
    have f2:(m.kind==2)=true:=by simpa using k2
    clear k1 k2
    as_aux_lemma =>
    go_wp2_with fail
    refine HVOT.out.mono ?_
    intro e w4 h4
    have H4:=Lib.hid (MsP.trans M3.out h4)
    obtain ⟨v4,_,_,rfl,_⟩:=h4
    go_wp2_with fail
    go_ret
    rw [HE3.out,HR.out]
    exact H4.out
   ·have f2:(m.kind==2)=false:=by simpa using k2
    by_cases k4:m.kind=3
    ·have HR:Hid (swM s3 k3 m=laysM s3 k3 m):=Lib.hid (by rw [HKIND.out,if_neg k1,if_neg k2,if_pos k4])
     have f3:(m.kind==3)=true:=by simpa using k4
     clear k1 k2 k4
     as_aux_lemma =>
     go_wp2_with fail
     refine HLAY.out.mono ?_
     intro e w4 h4
     have H4:=Lib.hid (MsP.trans M3.out h4)
     obtain ⟨v4,_,_,rfl,_⟩:=h4
     go_wp2_with fail
     go_ret
     rw [HE3.out,HR.out]
     exact H4.out
    ·have f3:(m.kind==3)=false:=by simpa using k4
     by_cases k5:m.kind=4
     ·have HR:Hid (swM s3 k3 m=((answeredM s3 m).1,(answeredM s3 m).2,k3)):=Lib.hid (by rw [HKIND.out,if_neg k1,if_neg k2,if_neg k4,if_pos k5])
      have f4:(m.kind==4)=true:=by simpa using k5
      clear k1 k2 k4 k5
      as_aux_lemma =>
      go_wp2_with fail
      refine HANS.out.mono ?_
      intro e w4 h4
      have H4:=Lib.hid (MsP.trans M3.out h4)
      obtain ⟨v4,_,_,rfl,_⟩:=h4
      go_wp2_with fail
      go_ret
      rw [HE3.out,HR.out]
      exact H4.out
     ·have f4:(m.kind==4)=false:=by simpa using k5
      by_cases k6:m.kind=5
      ·have f5:(m.kind==5)=true:=by simpa using k6
       by_cases k7:m.N.length=3
       ·have HR:Hid (swM s3 k3 m=([],{ s3 with heard:=s3.heard.set fr ((s3.clock:Int),m.N.getD 1 0,m.N.getD 2 0)},k3)):=Lib.hid (by rw [HKIND.out,if_neg k1,if_neg k2,if_neg k4,if_neg k5,if_pos k6,if_pos k7,HFR.out,Int.toNat_natCast])
        clear k1 k2 k4 k5 k6
        have f6:((m.N.length:Int)==3)=true:=by simp;omega
        obtain ⟨D,L,R,vl,gv,gn,gm,gh,hnc,hX3⟩:=H3.out
        have HNC:=Lib.hid hnc
        have HX3:=Lib.hid hX3
        have hgA:gh∈A3:=hnc.rA _ hnc.hR
        have hMA3:=HMA3.out
        obtain ⟨b9,off9,c9,hc9⟩:=numC HMS3.out.n (by omega)
        have e9:=hc9.v
        cases e9
        have hbgh:b≠gh:=fun e=>by
         obtain ⟨ao',c',e1,_,_,_,h3⟩:=HMS3.out.n
         cases e1
         exact (h3 _ rfl).1 (e ▸ hgA)
        have hMgh:M≠gh:=fun e=>hMA3 (e ▸ hgA)
        have hrgh:r≠gh:=heap_ne hnc.cell hnc.heard (by decide)
        have hfl:fr<s3.heard.length:=by rw [HW3.out.hl];exact HFN.out
        have hfn:(fr:Int)<(s3.n:Int):=by have:=HFN.out;omega
        have hl3:(1:Int)<(m.N.length:Int):=by omega
        have hl4:(2:Int)<(m.N.length:Int):=by omega
        have hS:∀w',Only [gh] W3.drew w'→w'.cell? ⟨r,17,none⟩=some (.slice (some ⟨gh,0,none⟩) s3.n s3.n)∧w'.cell? ⟨r,16,none⟩=some (.int .i64 (s3.clock:Int))∧w'.cell? ⟨M,0,none⟩=some (.int .i64 (fr:Int))∧w'.cell? ⟨M,3,none⟩=some (.slice (some ⟨b,off,none⟩) m.N.length c)∧w'.cell? ⟨b,off+1,none⟩=some (.int .i64 (m.N.getD 1 0))∧w'.cell? ⟨b,off+2,none⟩=some (.int .i64 (m.N.getD 2 0)):=fun w' ho=>by
         have k1:W3.drew.cell? ⟨r,17,none⟩=some (.slice (some ⟨gh,0,none⟩) s3.n s3.n):=by rw [show W3.drew.cell? ⟨r,17,none⟩=W3.cell? ⟨r,17,none⟩ from rfl,cell_heap hnc.cell];rfl
         have k2:W3.drew.cell? ⟨r,16,none⟩=some (.int .i64 (s3.clock:Int)):=by rw [show W3.drew.cell? ⟨r,16,none⟩=W3.cell? ⟨r,16,none⟩ from rfl,cell_heap hnc.cell];rfl
         have k3:W3.drew.cell? ⟨M,0,none⟩=some (.int .i64 (fr:Int)):=by rw [←HFR.out];exact hm0
         have k4:W3.drew.cell? ⟨b,off+1,none⟩=some (.int .i64 (m.N.getD 1 0)):=hc9.at_ 1 (by omega)
         have k5:W3.drew.cell? ⟨b,off+2,none⟩=some (.int .i64 (m.N.getD 2 0)):=hc9.at_ 2 (by omega)
         have k6:W3.drew.cell? ⟨M,3,none⟩=some (.slice (some ⟨b,off,none⟩) m.N.length c):=hm3
         exact ⟨ho.cell k1 (by simpa using hrgh),ho.cell k2 (by simpa using hrgh),ho.cell k3 (by simpa using hMgh),ho.cell k6 (by simpa using hMgh),ho.cell k4 (by simpa using hbgh),ho.cell k5 (by simpa using hbgh)⟩
        have HS:=Lib.hid hS
        have hh:W3.drew.heap[gh]? = some (.cells (heardA s3.heard) 76 (0,0)):=hnc.heard
        have hsz:(heardA s3.heard).size=s3.heard.length*3:=heardA_size _
        generalize hx1g:m.N.getD 1 0=x1 at *
        generalize hx2g:m.N.getD 2 0=x2 at *
        have HFH:Hid (MsP w (((W3.drew.setCell ⟨gh,fr*3,none⟩ (.int .i64 (s3.clock:Int))).setCell ⟨gh,fr*3+1,none⟩ (.int .i64 x1)).setCell ⟨gh,fr*3+2,none⟩ (.int .i64 x2)) A X r d l (.returned (.slice none 0 0)) ([],{ s3 with heard:=s3.heard.set fr ((s3.clock:Int),x1,x2)},k3)):=Lib.hid (by
         have ho:Only [gh] W3.drew (((W3.drew.setCell ⟨gh,fr*3,none⟩ (.int .i64 (s3.clock:Int))).setCell ⟨gh,fr*3+1,none⟩ (.int .i64 x1)).setCell ⟨gh,fr*3+2,none⟩ (.int .i64 x2)):=(((Only.refl _ _).setCell (by simp) _).setCell (by simp) _).setCell (by simp) _
         have h9:=(HNC.out.below (below_drewN W3 1)).new_heard ho (s3.heard.set fr ((s3.clock:Int),x1,x2)) (by
          rw [heap_set (heap_set (heap_set hh (fr*3) _) (fr*3+1) _) (fr*3+2) _,←heardA_set2 _ _ _ hfl])
         exact MsP.trans M3.out (MsP.none (NdP.trans (Mv.below (below_drewN W3 1)) ((h9.nd HX3.out).ndp (Mv.only ho (fun b hb=>by rw [List.mem_singleton.1 hb];exact (HX3.out gh).2 (.inr (.inr HNC.out.hR))))))))
        have HOF:Hid (Only [gh] W3.drew (((W3.drew.setCell ⟨gh,fr*3,none⟩ (.int .i64 (s3.clock:Int))).setCell ⟨gh,fr*3+1,none⟩ (.int .i64 x1)).setCell ⟨gh,fr*3+2,none⟩ (.int .i64 x2))):=Lib.hid ((((Only.refl _ _).setCell (by simp) _).setCell (by simp) _).setCell (by simp) _)
        obtain ⟨z0,hx0⟩:∃z,W3.drew.cell? ⟨gh,fr*3,none⟩=some z:=by rw [cell_heap hh];exact ⟨_,Array.getElem?_eq_getElem (by rw [hsz];omega)⟩
        have hh1:=heap_set hh (fr*3) (.int .i64 (s3.clock:Int))
        obtain ⟨z1,hx1⟩:∃z,(W3.drew.setCell ⟨gh,fr*3,none⟩ (.int .i64 (s3.clock:Int))).cell? ⟨gh,fr*3+1,none⟩=some z:=by rw [cell_heap hh1];exact ⟨_,Array.getElem?_eq_getElem (by rw [Array.size_setIfInBounds,hsz];omega)⟩
        have hh2:=heap_set hh1 (fr*3+1) (.int .i64 x1)
        obtain ⟨z2,hx2⟩:∃z,((W3.drew.setCell ⟨gh,fr*3,none⟩ (.int .i64 (s3.clock:Int))).setCell ⟨gh,fr*3+1,none⟩ (.int .i64 x1)).cell? ⟨gh,fr*3+2,none⟩=some z:=by rw [cell_heap hh2];exact ⟨_,Array.getElem?_eq_getElem (by rw [Array.size_setIfInBounds,Array.size_setIfInBounds,hsz];omega)⟩
        have HX0:=Lib.hid (And.intro hx0 (free_heap hh (fr*3)))
        have HX1:=Lib.hid (And.intro hx1 (free_heap hh1 (fr*3+1)))
        have HX2:=Lib.hid (And.intro hx2 (free_heap hh2 (fr*3+2)))
        clear hnc hX3 hgA hMA3 hc9 hbgh hMgh hrgh hS f1 f2 f3 f4 hm1 hm4 hh hh1 hh2 hx0 hx1 hx2 hx1g hx2g hsz
        go_upto_region 16 with (fail)
        clear hm0 hm2 hm3
        as_aux_lemma =>
        refine wp_region_held_drew (S:=fun w'=>w'.cell? ⟨r,17,none⟩=some (.slice (some ⟨gh,0,none⟩) s3.n s3.n)∧w'.cell? ⟨r,16,none⟩=some (.int .i64 (s3.clock:Int))∧w'.cell? ⟨M,0,none⟩=some (.int .i64 (fr:Int))∧w'.cell? ⟨M,3,none⟩=some (.slice (some ⟨b,off,none⟩) m.N.length c)∧w'.cell? ⟨b,off+1,none⟩=some (.int .i64 x1)∧w'.cell? ⟨b,off+2,none⟩=some (.int .i64 x2)) (by kernel_rfl) (HS.out _ (Only.refl _ _)) (fun hHeld=>?_)
        refine qtl 0 (z0gx72 _) rfl ?_
        refine qtl 1 (z0gx73 _) rfl ?_
        refine qtl 2 (z0gx74 _) rfl ?_
        refine qtl 3 (z0gx75 _) rfl ?_
        refine qtl 4 (z0gx76 _) rfl ?_
        refine qtl 5 (z0gx77 _) rfl ?_
        refine qtl 6 (z0gx78 _) rfl ?_
        refine qtl 7 (z0gx79 _) rfl ?_
        refine qtl 8 (z0gx80 _) rfl ?_
        refine qtl 9 (z0gx81 _) rfl ?_
        refine qtl 10 (z0gx82 _) rfl ?_
        refine qtl 11 (z0gx83 _) rfl ?_
        refine qtl 12 (z0gx84 _) rfl ?_
        refine qtl 13 (z0gx85 _) rfl ?_
        refine qtl 14 (z0gx86 _) rfl ?_
        refine qtl 15 (z0gx87 _) rfl ?_
        refine qtl 16 (z0gx88 _) rfl ?_
        refine qtl 17 (z0gx89 _) rfl ?_
        refine qtl 18 (z0gx90 _) rfl ?_
        refine qtl 19 (z0gx91 _) rfl ?_
        generalize W3.drew=V3 at *
        refine qr1 20 (z0gx92 _) rfl fun K hK=>?_
        unfold z0gx92
        obtain ⟨y0,f0⟩:=HX0.out
        obtain ⟨y1,f1⟩:=HX1.out
        obtain ⟨y2,f2⟩:=HX2.out
        go_simp
        clear y0 f0 y1 f1 y2 f2
        refine hK.out _ _ (HS.out _ HOF.out) (fun hHeld=>?_)
        clear hK K
        refine qsp ?_
        refine qdn ?_
        clear hHeld
        go_wp2_with fail
        go_ret
        rw [HE3.out,HR.out]
        exact HFH.out
       ·have HR:Hid (swM s3 k3 m=([],s3,k3)):=Lib.hid (by rw [HKIND.out,if_neg k1,if_neg k2,if_neg k4,if_neg k5,if_pos k6,if_neg k7])
        have f6:((m.N.length:Int)==3)=false:=by simp;omega
        have HF:Hid (MsP w W3 A X r d l (.returned (.slice none 0 0)) ([],s3,k3)):=Lib.hid (MsP.trans M3.out (MsP.none (H3.out.ndp (Mv.refl _ _ _))))
        clear k1 k2 k4 k5 k6 k7
        as_aux_lemma =>
        go_wp2_with fail
        go_ret
        rw [HE3.out,HR.out]
        exact HF.out
      ·have f5:(m.kind==5)=false:=by simpa using k6
       have HR:Hid (swM s3 k3 m=([],s3,k3)):=Lib.hid (by rw [HKIND.out,if_neg k1,if_neg k2,if_neg k4,if_neg k5,if_neg k6])
       have HF:Hid (MsP w W3 A X r d l (.returned (.slice none 0 0)) ([],s3,k3)):=Lib.hid (MsP.trans M3.out (MsP.none (H3.out.ndp (Mv.refl _ _ _))))
       clear k1 k2 k4 k5 k6
       as_aux_lemma =>
       go_wp2_with fail
       go_ret
       rw [HE3.out,HR.out]
       exact HF.out
end
end Go.Proofs.Ytnicaicjgaoolaa
namespace Go.Proofs.Ytnicaicjgaoolaa
section
variable {w w':World} {A A' X X':List Nat} {r d l:Nat} {s s':Rp} {k k':Dk}
theorem get_any (h:Nd w A X r d l s k) (hw:Wf s k) (m:Msg) (v u:Value) (hm:IsMsg w A m v u) (hN1m:m.N.getD 1 0≤4611686018427387904) (hB:m.B.length≤1000000) (hlm:m.N.length≤1000000000) :
  Calls Try.prog 19 #[.pointer (some ⟨r,0,none⟩),msgV m v u] w fun e w'=>MsP w w' A X r d l e (getM s k m):=by
 cases hb:(doneM s k||badM (doneS s k) m) with
 | true =>
  have e:getM s k m=([],doneS s k,k):=by rw [getM_eq,if_pos (by exact hb)]
  rw [e]
  exact get_bad h m v u hm.z hb hw.n5 hlm
 | false =>
  rw [Bool.or_eq_false_iff] at hb
  exact get_good h hw m v u hm hb.1 hb.2 hN1m hB hlm
end
end Go.Proofs.Ytnicaicjgaoolaa
