/-
  What the proof of the law leans on: contracts of the program's functions, one behind another. No condition.
-/
import Derived.Test.YtnicaicjgaoolaaPRepStrangeL1
import Derived.Test.YtnicaicjgaoolaaS3
set_option linter.unusedVariables false
set_option linter.unusedSimpArgs false
namespace Go.Proofs.Ytnicaicjgaoolaa
open Go.RowKit Go.ChangeMaps Go.WideMaps Go.Maps
set_option maxRecDepth 20000
section
variable (p : String)
def z0lx0 : Oper := ⟨some 54, .move (.tmp 5), 25, p, #[], none⟩
def z0lx1 : Oper := ⟨some 55, .nilCheck (.tmp 54), 0, p, #[⟨0, .data⟩], none⟩
def z0lx2 : Oper := ⟨some 56, .fieldAddr 38 (.tmp 55) 2, 0, p, #[⟨1, .data⟩], none⟩
def z0lx3 : Oper := ⟨some 57, .load 34 (.tmp 56), 34, p, #[⟨2, .data⟩], none⟩
def z0lx4 : Oper := ⟨some 58, .indexAddr 34 (.tmp 57) (Operand.const (Value.int IntKind.i64 0)), 0, p, #[⟨3, .data⟩], none⟩
def z0lx5 : Oper := ⟨some 59, .load 4 (.tmp 58), 4, p, #[⟨4, .data⟩], none⟩
def z0lx6 : Oper := ⟨some 60, .move (.tmp 59), 4, p, #[⟨5, .data⟩], none⟩
def z0lx7 : Oper := ⟨some 61, .move (.tmp 5), 25, p, #[⟨6, .guard⟩], some (6, true)⟩
def z0lx8 : Oper := ⟨some 62, .nilCheck (.tmp 61), 0, p, #[⟨7, .data⟩, ⟨6, .guard⟩], some (6, true)⟩
def z0lx9 : Oper := ⟨some 63, .fieldAddr 38 (.tmp 62) 0, 0, p, #[⟨8, .data⟩, ⟨6, .guard⟩], some (6, true)⟩
def z0lx10 : Oper := ⟨some 64, .load 32 (.tmp 63), 32, p, #[⟨9, .data⟩, ⟨6, .guard⟩], some (6, true)⟩
def z0lx11 : Oper := ⟨some 65, .indexAddr 32 (.tmp 64) (Operand.const (Value.int IntKind.i64 0)), 0, p, #[⟨10, .data⟩, ⟨6, .guard⟩], some (6, true)⟩
def z0lx12 : Oper := ⟨some 66, .load 39 (.tmp 65), 39, p, #[⟨11, .data⟩, ⟨6, .guard⟩], some (6, true)⟩
def z0lx13 : Oper := ⟨some 67, .load 51 (.tmp 2), 51, p, #[⟨6, .guard⟩], some (6, true)⟩
def z0lx14 : Oper := ⟨some 68, .call { callee := Callee.value (Operand.func 19), args := #[.tmp 66, .tmp 67], argTypes := #[39, 51] }, 35, p, #[⟨12, .data⟩, ⟨13, .data⟩, ⟨6, .chain⟩, ⟨6, .guard⟩], some (6, true)⟩
def z0lx15 : Oper := ⟨some 69, .call { callee := Callee.builtin Builtin.len, args := #[.tmp 68], argTypes := #[35] }, 3, p, #[⟨14, .data⟩, ⟨6, .guard⟩], some (6, true)⟩
def z0lx16 : Oper := ⟨some 70, .binOp BinOp.neq 3 (.tmp 69) (Operand.const (Value.int IntKind.i64 0)) 3, 4, p, #[⟨15, .data⟩, ⟨6, .guard⟩], some (6, true)⟩
def z0lx17 : Oper := ⟨some 71, .pick (.tmp 60) (.tmp 70) (Operand.const (Value.bool false)), 4, p, #[⟨6, .data⟩, ⟨16, .data⟩], none⟩
def z0lx18 : Oper := ⟨some 84, .move (.tmp 5), 25, p, #[], none⟩
def z0lx19 : Oper := ⟨some 85, .nilCheck (.tmp 84), 0, p, #[⟨0, .data⟩], none⟩
def z0lx20 : Oper := ⟨some 86, .fieldAddr 38 (.tmp 85) 3, 0, p, #[⟨1, .data⟩], none⟩
def z0lx21 : Oper := ⟨some 87, .load 35 (.tmp 86), 35, p, #[⟨2, .data⟩], none⟩
def z0lx22 : Oper := ⟨some 88, .call { callee := Callee.builtin Builtin.len, args := #[.tmp 87], argTypes := #[35] }, 3, p, #[⟨3, .data⟩], none⟩
def z0lx23 : Oper := ⟨some 89, .move (.tmp 6), 25, p, #[], none⟩
def z0lx24 : Oper := ⟨some 90, .nilCheck (.tmp 89), 0, p, #[⟨5, .data⟩], none⟩
def z0lx25 : Oper := ⟨some 91, .fieldAddr 38 (.tmp 90) 3, 0, p, #[⟨6, .data⟩], none⟩
def z0lx26 : Oper := ⟨some 92, .load 35 (.tmp 91), 35, p, #[⟨7, .data⟩], none⟩
def z0lx27 : Oper := ⟨some 93, .call { callee := Callee.builtin Builtin.len, args := #[.tmp 92], argTypes := #[35] }, 3, p, #[⟨8, .data⟩], none⟩
def z0lx28 : Oper := ⟨some 94, .binOp BinOp.neq 3 (.tmp 88) (.tmp 93) 3, 4, p, #[⟨4, .data⟩, ⟨9, .data⟩], none⟩
def z0lx29 : Oper := ⟨some 95, .move (.tmp 94), 4, p, #[⟨10, .data⟩], none⟩
def z0lx30 : Oper := ⟨some 96, .move (.tmp 5), 25, p, #[⟨11, .guard⟩], some (11, false)⟩
def z0lx31 : Oper := ⟨some 97, .nilCheck (.tmp 96), 0, p, #[⟨12, .data⟩, ⟨11, .guard⟩], some (11, false)⟩
def z0lx32 : Oper := ⟨some 98, .fieldAddr 38 (.tmp 97) 2, 0, p, #[⟨13, .data⟩, ⟨11, .guard⟩], some (11, false)⟩
def z0lx33 : Oper := ⟨some 99, .load 34 (.tmp 98), 34, p, #[⟨14, .data⟩, ⟨11, .guard⟩], some (11, false)⟩
def z0lx34 : Oper := ⟨some 100, .indexAddr 34 (.tmp 99) (Operand.const (Value.int IntKind.i64 0)), 0, p, #[⟨15, .data⟩, ⟨11, .guard⟩], some (11, false)⟩
def z0lx35 : Oper := ⟨some 101, .load 4 (.tmp 100), 4, p, #[⟨16, .data⟩, ⟨11, .guard⟩], some (11, false)⟩
def z0lx36 : Oper := ⟨some 102, .move (.tmp 101), 4, p, #[⟨17, .data⟩, ⟨11, .chain⟩, ⟨11, .guard⟩], some (11, false)⟩
def z0lx37 : Oper := ⟨some 103, .move (.tmp 5), 25, p, #[⟨18, .guard⟩], some (18, true)⟩
def z0lx38 : Oper := ⟨some 104, .nilCheck (.tmp 103), 0, p, #[⟨19, .data⟩, ⟨18, .guard⟩], some (18, true)⟩
def z0lx39 : Oper := ⟨some 105, .fieldAddr 38 (.tmp 104) 0, 0, p, #[⟨20, .data⟩, ⟨18, .guard⟩], some (18, true)⟩
def z0lx40 : Oper := ⟨some 106, .load 32 (.tmp 105), 32, p, #[⟨21, .data⟩, ⟨18, .guard⟩], some (18, true)⟩
def z0lx41 : Oper := ⟨some 107, .indexAddr 32 (.tmp 106) (Operand.const (Value.int IntKind.i64 0)), 0, p, #[⟨22, .data⟩, ⟨18, .guard⟩], some (18, true)⟩
def z0lx42 : Oper := ⟨some 108, .load 39 (.tmp 107), 39, p, #[⟨23, .data⟩, ⟨18, .guard⟩], some (18, true)⟩
def z0lx43 : Oper := ⟨some 109, .call { callee := Callee.value (Operand.func 15), args := #[.tmp 108], argTypes := #[39] }, 4, p, #[⟨24, .data⟩, ⟨18, .chain⟩, ⟨18, .guard⟩], some (18, true)⟩
def z0lx44 : Oper := ⟨some 110, .move (.tmp 6), 25, p, #[⟨18, .guard⟩], some (18, true)⟩
def z0lx45 : Oper := ⟨some 111, .nilCheck (.tmp 110), 0, p, #[⟨26, .data⟩, ⟨18, .guard⟩], some (18, true)⟩
def z0lx46 : Oper := ⟨some 112, .fieldAddr 38 (.tmp 111) 0, 0, p, #[⟨27, .data⟩, ⟨18, .guard⟩], some (18, true)⟩
def z0lx47 : Oper := ⟨some 113, .load 32 (.tmp 112), 32, p, #[⟨28, .data⟩, ⟨18, .guard⟩], some (18, true)⟩
def z0lx48 : Oper := ⟨some 114, .indexAddr 32 (.tmp 113) (Operand.const (Value.int IntKind.i64 0)), 0, p, #[⟨29, .data⟩, ⟨18, .guard⟩], some (18, true)⟩
def z0lx49 : Oper := ⟨some 115, .load 39 (.tmp 114), 39, p, #[⟨30, .data⟩, ⟨18, .guard⟩], some (18, true)⟩
def z0lx50 : Oper := ⟨some 116, .call { callee := Callee.value (Operand.func 15), args := #[.tmp 115], argTypes := #[39] }, 4, p, #[⟨31, .data⟩, ⟨25, .chain⟩, ⟨18, .guard⟩], some (18, true)⟩
def z0lx51 : Oper := ⟨some 117, .binOp BinOp.neq 4 (.tmp 109) (.tmp 116) 4, 4, p, #[⟨25, .data⟩, ⟨32, .data⟩, ⟨18, .guard⟩], some (18, true)⟩
def z0lx52 : Oper := ⟨some 118, .move (.tmp 117), 4, p, #[⟨33, .data⟩, ⟨32, .chain⟩, ⟨18, .guard⟩], some (18, true)⟩
def z0lx53 : Oper := ⟨some 119, .move (.tmp 5), 25, p, #[⟨34, .guard⟩], some (34, false)⟩
def z0lx54 : Oper := ⟨some 120, .nilCheck (.tmp 119), 0, p, #[⟨35, .data⟩, ⟨34, .guard⟩], some (34, false)⟩
def z0lx55 : Oper := ⟨some 121, .fieldAddr 38 (.tmp 120) 0, 0, p, #[⟨36, .data⟩, ⟨34, .guard⟩], some (34, false)⟩
def z0lx56 : Oper := ⟨some 122, .load 32 (.tmp 121), 32, p, #[⟨37, .data⟩, ⟨34, .guard⟩], some (34, false)⟩
def z0lx57 : Oper := ⟨some 123, .indexAddr 32 (.tmp 122) (Operand.const (Value.int IntKind.i64 0)), 0, p, #[⟨38, .data⟩, ⟨34, .guard⟩], some (34, false)⟩
def z0lx58 : Oper := ⟨some 124, .load 39 (.tmp 123), 39, p, #[⟨39, .data⟩, ⟨34, .guard⟩], some (34, false)⟩
def z0lx59 : Oper := ⟨some 125, .call { callee := Callee.value (Operand.func 12), args := #[.tmp 124], argTypes := #[39] }, 36, p, #[⟨40, .data⟩, ⟨34, .chain⟩, ⟨34, .guard⟩], some (34, false)⟩
def z0lx60 : Oper := ⟨some 126, .call { callee := Callee.builtin Builtin.len, args := #[.tmp 125], argTypes := #[36] }, 3, p, #[⟨41, .data⟩, ⟨34, .guard⟩], some (34, false)⟩
def z0lx61 : Oper := ⟨some 127, .move (.tmp 6), 25, p, #[⟨34, .guard⟩], some (34, false)⟩
def z0lx62 : Oper := ⟨some 128, .nilCheck (.tmp 127), 0, p, #[⟨43, .data⟩, ⟨34, .guard⟩], some (34, false)⟩
def z0lx63 : Oper := ⟨some 129, .fieldAddr 38 (.tmp 128) 0, 0, p, #[⟨44, .data⟩, ⟨34, .guard⟩], some (34, false)⟩
def z0lx64 : Oper := ⟨some 130, .load 32 (.tmp 129), 32, p, #[⟨45, .data⟩, ⟨34, .guard⟩], some (34, false)⟩
def z0lx65 : Oper := ⟨some 131, .indexAddr 32 (.tmp 130) (Operand.const (Value.int IntKind.i64 0)), 0, p, #[⟨46, .data⟩, ⟨34, .guard⟩], some (34, false)⟩
def z0lx66 : Oper := ⟨some 132, .load 39 (.tmp 131), 39, p, #[⟨47, .data⟩, ⟨34, .guard⟩], some (34, false)⟩
def z0lx67 : Oper := ⟨some 133, .call { callee := Callee.value (Operand.func 12), args := #[.tmp 132], argTypes := #[39] }, 36, p, #[⟨48, .data⟩, ⟨41, .chain⟩, ⟨34, .guard⟩], some (34, false)⟩
def z0lx68 : Oper := ⟨some 134, .call { callee := Callee.builtin Builtin.len, args := #[.tmp 133], argTypes := #[36] }, 3, p, #[⟨49, .data⟩, ⟨34, .guard⟩], some (34, false)⟩
def z0lx69 : Oper := ⟨some 135, .binOp BinOp.neq 3 (.tmp 126) (.tmp 134) 3, 4, p, #[⟨42, .data⟩, ⟨50, .data⟩, ⟨34, .guard⟩], some (34, false)⟩
def z0lx70 : Oper := ⟨some 136, .pick (.tmp 118) (Operand.const (Value.bool true)) (.tmp 135), 4, p, #[⟨34, .data⟩, ⟨51, .data⟩, ⟨18, .guard⟩], some (18, true)⟩
def z0lx71 : Oper := ⟨some 137, .pick (.tmp 102) (.tmp 136) (Operand.const (Value.bool false)), 4, p, #[⟨18, .data⟩, ⟨52, .data⟩, ⟨11, .guard⟩], some (11, false)⟩
def z0lx72 : Oper := ⟨some 138, .pick (.tmp 95) (Operand.const (Value.bool true)) (.tmp 137), 4, p, #[⟨11, .data⟩, ⟨53, .data⟩], none⟩
end
attribute [go_sem, reducible] z0lx0 z0lx1 z0lx2 z0lx3 z0lx4 z0lx5 z0lx6 z0lx7 z0lx8 z0lx9 z0lx10 z0lx11 z0lx12 z0lx13 z0lx14 z0lx15 z0lx16 z0lx17 z0lx18 z0lx19 z0lx20 z0lx21 z0lx22 z0lx23 z0lx24 z0lx25 z0lx26 z0lx27 z0lx28 z0lx29 z0lx30 z0lx31 z0lx32 z0lx33 z0lx34 z0lx35 z0lx36 z0lx37 z0lx38 z0lx39 z0lx40 z0lx41 z0lx42 z0lx43 z0lx44 z0lx45 z0lx46 z0lx47 z0lx48 z0lx49 z0lx50 z0lx51 z0lx52 z0lx53 z0lx54 z0lx55 z0lx56 z0lx57 z0lx58 z0lx59 z0lx60 z0lx61 z0lx62 z0lx63 z0lx64 z0lx65 z0lx66 z0lx67 z0lx68 z0lx69 z0lx70 z0lx71 z0lx72
/-- two of them, all in sight -/
structure TwoC (w wr : World) (A Za Zb Ya Yb : List Nat) (ca cb : Nat) (S : Mn) (rsa dsa lsa : Nat → Nat) (Xsa : Nat → List Nat) (vra vda : Value) (gua : Nat) (qva gva lva : Value) (rsb dsb lsb : Nat → Nat) (Xsb : Nat → List Nat) (vrb vdb : Value) (gub : Nat) (qvb gvb lvb : Value) (H : Nat) (o : Obj) : Prop where
 sa : SyC wr A Ya ca 3 S rsa dsa lsa Xsa vra vda gua qva gva lva
 sb : SyC wr A Yb cb 3 S rsb dsb lsb Xsb vrb vdb gub qvb gvb lvb
 za : ∀ b, b ∈ Za ↔ b ∈ Ya ∨ ∃ i, i < 3 ∧ b ∈ Xsa i
 zb : ∀ b, b ∈ Zb ↔ b ∈ Yb ∨ ∃ i, i < 3 ∧ b ∈ Xsb i
 dis : Dis Za Zb
 bel : Below w.heap.size w wr
 age : ∀ b ∈ A, w.heap.size ≤ b
 hA : H ∉ A
 hh : wr.heap[H]? = some o
section
variable {w wr w2 : World} {A Za Zb Ya Yb : List Nat} {ca cb cl lv : Nat} {S : Mn} {rsa dsa lsa : Nat → Nat} {Xsa : Nat → List Nat} {vra vda : Value} {gua : Nat} {qva gva lva : Value} {rsb dsb lsb : Nat → Nat} {Xsb : Nat → List Nat} {vrb vdb : Value} {gub : Nat} {qvb gvb lvb : Value} {H : Nat} {o : Obj}
theorem TwoC.two (h : TwoC w wr A Za Zb Ya Yb ca cb S rsa dsa lsa Xsa vra vda gua qva gva lva rsb dsb lsb Xsb vrb vdb gub qvb gvb lvb H o) : Two w wr A Za Zb ca cb S S H o :=
 ⟨⟨_, _, _, _, _, _, _, _, _, _, _, h.sa, h.za⟩, ⟨_, _, _, _, _, _, _, _, _, _, _, h.sb, h.zb⟩, h.dis, h.bel, h.age, h.hA, h.hh⟩
theorem TwoC.ls (h : TwoC w wr A Za Zb Ya Yb ca cb S rsa dsa lsa Xsa vra vda gua qva gva lva rsb dsb lsb Xsb vrb vdb gub qvb gvb lvb H o) : ∃ A2 Za2 Zb2, Two w wr A2 Za2 Zb2 ca cb S S H o := ⟨_, _, _, h.two⟩
theorem TwoC.swap (h : TwoC w wr A Za Zb Ya Yb ca cb S rsa dsa lsa Xsa vra vda gua qva gva lva rsb dsb lsb Xsb vrb vdb gub qvb gvb lvb H o) : TwoC w wr A Zb Za Yb Ya cb ca S rsb dsb lsb Xsb vrb vdb gub qvb gvb lvb rsa dsa lsa Xsa vra vda gua qva gva lva H o :=
 ⟨h.sb, h.sa, h.zb, h.za, fun b hb hx => h.dis b hx hb, h.bel, h.age, h.hA, h.hh⟩
theorem TwoC.below (h : TwoC w wr A Za Zb Ya Yb ca cb S rsa dsa lsa Xsa vra vda gua qva gva lva rsb dsb lsb Xsb vrb vdb gub qvb gvb lvb H o) (hb : Below wr.heap.size wr w2) : TwoC w w2 A Za Zb Ya Yb ca cb S rsa dsa lsa Xsa vra vda gua qva gva lva rsb dsb lsb Xsb vrb vdb gub qvb gvb lvb H o :=
 ⟨h.sa.below hb, h.sb.below hb, h.za, h.zb, h.dis, h.bel.trans (hb.mono h.bel.size), h.age, h.hA, (Only.ofBelow hb []).keeps h.hh (by simp)⟩
/-- one is asked whether it leads: all stays -/
theorem TwoC.lead (h : TwoC w wr A Za Zb Ya Yb ca cb S rsa dsa lsa Xsa vra vda gua qva gva lva rsb dsb lsb Xsb vrb vdb gub qvb gvb lvb H o) (hb : BInv 3 cl lv S) (hu : (S.at 0).up = true) :
  Calls Try.prog 15 #[.pointer (some ⟨rsa 0, 0, none⟩)] wr fun e w' => e = .returned (.bool (S.leads 0)) ∧ TwoC w w' A Za Zb Ya Yb ca cb S rsa dsa lsa Xsa vra vda gua qva gva lva rsb dsb lsb Xsb vrb vdb gub qvb gvb lvb H o := by
 have hn := (h.sa.node 0 (by omega)).up hu
 refine (leads_any hn).mono ?_
 rintro e w2 ⟨rfl, hn2, ho⟩
 have hr := hn.rX
 have hm : Mv A A (Xsa 0) (Xsa 0) wr w2 := Mv.only ho (fun b hb => by rw [List.mem_singleton.1 hb]; exact hr)
 have hrZ : rsa 0 ∈ Za := (h.za _).2 (.inr ⟨0, by omega, hr⟩)
 have hzA := h.two.sa.zA
 have hs := h.sa.call (nd := ⟨(leadsM (S.at 0).s (S.at 0).k).2, (S.at 0).k, true⟩) (by omega : 0 < 3) hm ⟨fun _ => hn2, (fun e => by cases e), hn2.xA⟩ hu.symm hn2.alt
 rw [setF_self, show S.set 0 ⟨(leadsM (S.at 0).s (S.at 0).k).2, (S.at 0).k, true⟩ = S from (leadsS_same hb 0 (by omega) hu).1] at hs
 refine ⟨rfl, hs, h.sb.keep ho (fun b hb => by rw [List.mem_singleton.1 hb]; exact hzA _ hrZ) (fun b hb hm2 => ?_) (fun i hi b hb hm2 => ?_) (Ext.refl _ _) (fun b hb => hb) hn2.alt, h.za, h.zb, h.dis, h.bel.trans (ho.below h.bel.size (fun b hb => by rw [List.mem_singleton.1 hb]; exact h.age _ (hzA _ hrZ))), h.age, h.hA, ho.keeps h.hh (fun hm2 => ?_)⟩
 ·rw [List.mem_singleton.1 hm2] at hb
  exact h.dis _ hrZ ((h.zb _).2 (.inl hb))
 ·rw [List.mem_singleton.1 hm2] at hb
  exact h.dis _ hrZ ((h.zb _).2 (.inr ⟨i, hi, hb⟩))
 ·exact h.hA (by rw [List.mem_singleton.1 hm2]; exact hzA _ hrZ)
theorem TwoC.agree (h : TwoC w wr A Za Zb Ya Yb ca cb S rsa dsa lsa Xsa vra vda gua qva gva lva rsb dsb lsb Xsb vrb vdb gub qvb gvb lvb H o) (hb : BInv 3 cl lv S) (hu : (S.at 0).up = true) :
  Calls Try.prog 12 #[.pointer (some ⟨rsa 0, 0, none⟩)] wr fun e w' => ∃ a c, e = .returned (.slice a (agreedM (S.at 0).s).length c) ∧ TwoC w w' A Za Zb Ya Yb ca cb S rsa dsa lsa Xsa vra vda gua qva gva lva rsb dsb lsb Xsb vrb vdb gub qvb gvb lvb H o := by
 refine (agreed_any ((h.sa.node 0 (by omega)).up hu) (hb.up 0 (by omega) hu).1.wf).mono ?_
 rintro e w2 ⟨v, rfl, hv, hbl⟩
 obtain ⟨a, c, rfl, _⟩ := hv.shape
 exact ⟨a, c, rfl, h.below hbl⟩
/-- a strange message: all stays -/
theorem TwoC.got {A2 X2 : List Nat} (h : TwoC w wr A Za Zb Ya Yb ca cb S rsa dsa lsa Xsa vra vda gua qva gva lva rsb dsb lsb Xsb vrb vdb gub qvb gvb lvb H o) (hb : BInv 3 cl lv S) (hu : (S.at 0).up = true) (hn : Nd w2 A2 X2 (rsa 0) (dsa 0) (lsa 0) (doneS (S.at 0).s (S.at 0).k) (S.at 0).k) (hm : Mv A A2 (Xsa 0) X2 wr w2) :
  ∃ A3 Za3 Zb3, Two w w2 A3 Za3 Zb3 ca cb S S H o := by
 have h1 := hb.up 0 (by omega) hu
 rw [done_same h1.1.off h1.2] at hn
 obtain ⟨Z', hz', hmz⟩ := mv_call (Y := Ya) (by omega : 0 < 3) h.za hm
 have hs := h.sa.call (nd := ⟨(S.at 0).s, (S.at 0).k, true⟩) (by omega : 0 < 3) hm ⟨fun _ => hn, (fun e => by cases e), hn.xA⟩ hu.symm hn.alt
 rw [set_same hb 0 (by omega) hu] at hs
 obtain ⟨A3, Z3, h3⟩ := h.two.left ⟨A2, Z', ⟨Ya, rsa, dsa, lsa, setF Xsa 0 X2, vra, vda, gua, qva, gva, lva, hs, hz'⟩, hmz⟩
 exact ⟨A3, Z3, Zb, h3⟩
end
/-- what is not asked -/
def skipB (mg : Msg) (l : List Ac) : Bool := !lightM l 60 || (decide (20 < mg.N.length) || (decide (20 < mg.B.length) || (mg.dst == 0 && (decide (0 < mg.frm) && decide (mg.frm < 3)))))
set_option maxHeartbeats 16000000 in
theorem strange_said (mg : Msg) (no : Option Addr) (nc : Nat) (ub : Option Addr) (bc : Nat) (ao : Option Addr) (m cp : Nat) (l : List Ac) (w : World) (hN : IsI w no mg.N.length nc mg.N) (hNc : mg.N.length ≤ nc) (hnc : nc ≤ 9223372036854775807) (h : IsAx w ao m l) (hle : m ≤ cp) (hm : m ≤ 140737488355328) :
  Calls Try.prog 6 #[.agg #[.int .i64 mg.frm, .int .i64 mg.dst, .int .i64 mg.kind, .slice no mg.N.length nc, .slice ub mg.B.length bc], .slice ao m cp] w fun e w' => e = .returned (.bool true) ∧ Below w.heap.size w w' := by
 have HX := Lib.hid h
 have HLEN := Lib.hid h.len
 have HNI := Lib.hid hN
 have hb0 : Below w.heap.size w (w.alloc (.cells #[.int .i64 mg.frm, .int .i64 mg.dst, .int .i64 mg.kind, .slice no mg.N.length nc, .slice ub mg.B.length bc] 51)) := (Below.refl _ _).alloc (Nat.le_refl _) _
 have HO0 := Lib.hid (heap_new w (.cells #[.int .i64 mg.frm, .int .i64 mg.dst, .int .i64 mg.kind, .slice no mg.N.length nc, .slice ub mg.B.length bc] 51))
 have HB0 := Lib.hid hb0
 have HHW : Hid (w.heap.size < (w.alloc (.cells #[.int .i64 mg.frm, .int .i64 mg.dst, .int .i64 mg.kind, .slice no mg.N.length nc, .slice ub mg.B.length bc] 51)).heap.size) := Lib.hid (by simp)
 clear h hN hb0
 go_enter Try.func6, Try.ntmps6
 go_wp2_with fail
 obtain ⟨H, hH⟩ : ∃ H, H = w.heap.size := ⟨_, rfl⟩
 generalize w.alloc (.cells #[.int .i64 mg.frm, .int .i64 mg.dst, .int .i64 mg.kind, .slice no mg.N.length nc, .slice ub mg.B.length bc] 51) = w0 at *
 have HHE := Lib.hid hH
 rw [← hH] at HO0 HHW
 refine awake_any.mono ?_
 rintro e w1 ⟨rfl, hb1⟩
 have HB1 : Hid (Below w.heap.size w w1) := Lib.hid (HB0.out.trans (hb1.mono HB0.out.size))
 have HO1 := Lib.hid ((Only.ofBelow hb1 []).keeps HO0.out (by simp))
 have HX1 := Lib.hid (HX.out.below HB1.out)
 rw [← hH]
 clear hb1 hH
 go_upto_region 3 with (fail)
 go_cut [39] (fun v wx => v = .bool (skipB mg l) ∧ Below w1.heap.size w1 wx)
 case first =>
  go_wp2_with fail
  refine (light_any ao m cp l HX1.out hm 60 (by omega)).mono ?_
  rintro e w2 ⟨rfl, hb2⟩
  have HB2 := Lib.hid hb2
  have HO2 := Lib.hid ((Only.ofBelow hb2 []).keeps HO1.out (by simp))
  clear hb2
  have k0 : w2.cell? ⟨H, 0, none⟩ = some (.int .i64 mg.frm) := by rw [cell_heap HO2.out]; rfl
  have k1 : w2.cell? ⟨H, 1, none⟩ = some (.int .i64 mg.dst) := by rw [cell_heap HO2.out]; rfl
  have k3 : w2.cell? ⟨H, 3, none⟩ = some (.slice no mg.N.length nc) := by rw [cell_heap HO2.out]; rfl
  have k4 : w2.cell? ⟨H, 4, none⟩ = some (.slice ub mg.B.length bc) := by rw [cell_heap HO2.out]; rfl
  have HSK : Hid (skipB mg l = (!lightM l 60 || (decide (20 < mg.N.length) || (decide (20 < mg.B.length) || (mg.dst == 0 && (decide (0 < mg.frm) && decide (mg.frm < 3))))))) := Lib.hid rfl
  generalize skipB mg l = sk at *
  cases hl : lightM l 60 with
  | false =>
   have HE : Hid (sk = true) := Lib.hid (by rw [HSK.out, hl]; rfl)
   go_wp2_with fail
   go_meet
   exact ⟨by rw [HE.out], HB2.out⟩
  | true =>
   by_cases hn20 : (20 : Int) < (mg.N.length : Int)
   ·have HE : Hid (sk = true) := Lib.hid (by rw [HSK.out, show decide (20 < mg.N.length) = true from decide_eq_true (by omega)]; simp)
    clear hl
    go_wp2_with fail
    go_meet
    exact ⟨by rw [HE.out], HB2.out⟩
   by_cases hb20 : (20 : Int) < (mg.B.length : Int)
   ·have HE : Hid (sk = true) := Lib.hid (by rw [HSK.out, show decide (20 < mg.B.length) = true from decide_eq_true (by omega)]; simp)
    clear hl
    go_wp2_with fail
    go_meet
    exact ⟨by rw [HE.out], HB2.out⟩
   have HN2 : Hid (decide (20 < mg.N.length) = false ∧ decide (20 < mg.B.length) = false ∧ lightM l 60 = true) := Lib.hid ⟨decide_eq_false (by omega), decide_eq_false (by omega), hl⟩
   clear hl
   have hq1 : decide ((20 : Int) < (mg.N.length : Int)) = false := decide_eq_false hn20
   have hq2 : decide ((20 : Int) < (mg.B.length : Int)) = false := decide_eq_false hb20
   by_cases hd : mg.dst = 0
   ·have e1 : (mg.dst == 0) = true := by simpa using hd
    by_cases hf : 0 < mg.frm
    ·by_cases hf3 : mg.frm < 3
     ·have HE : Hid (sk = true) := Lib.hid (by rw [HSK.out, HN2.out.1, HN2.out.2.1, HN2.out.2.2, e1, show decide (0 < mg.frm) = true from decide_eq_true hf, show decide (mg.frm < 3) = true from decide_eq_true hf3]; rfl)
      clear hd
      go_wp2_with fail
      go_meet
      exact ⟨by (rw [HE.out]) <;> (simp [hq1, hq2]; try omega), HB2.out⟩
     ·have HE : Hid (sk = false) := Lib.hid (by rw [HSK.out, HN2.out.1, HN2.out.2.1, HN2.out.2.2, e1, show decide (0 < mg.frm) = true from decide_eq_true hf, show decide (mg.frm < 3) = false from decide_eq_false hf3]; rfl)
      clear hd
      go_wp2_with fail
      go_meet
      exact ⟨by (rw [HE.out]) <;> (simp [hq1, hq2]; try omega), HB2.out⟩
    ·have HE : Hid (sk = false) := Lib.hid (by rw [HSK.out, HN2.out.1, HN2.out.2.1, HN2.out.2.2, e1, show decide (0 < mg.frm) = false from decide_eq_false hf]; rfl)
     clear hd
     go_wp2_with fail
     go_meet
     exact ⟨by (rw [HE.out]) <;> (simp [hq1, hq2]; try omega), HB2.out⟩
   ·have e1 : (mg.dst == 0) = false := by simpa using hd
    have HE : Hid (sk = false) := Lib.hid (by rw [HSK.out, HN2.out.1, HN2.out.2.1, HN2.out.2.2, e1]; rfl)
    clear hd
    go_wp2_with fail
    go_meet
    exact ⟨by (rw [HE.out]) <;> (simp [hq1, hq2]; try omega), HB2.out⟩
 case rest =>
 obtain ⟨rfl, hb2⟩ := hcut
 rename World => w2
 have HB2 : Hid (Below w.heap.size w w2) := Lib.hid (HB1.out.trans (hb2.mono HB1.out.size))
 have HO2 := Lib.hid ((Only.ofBelow hb2 []).keeps HO1.out (by simp))
 obtain ⟨oo, hoo⟩ : ∃ oo : Obj, oo = (.cells #[.int .i64 mg.frm, .int .i64 mg.dst, .int .i64 mg.kind, .slice no mg.N.length nc, .slice ub mg.B.length bc] 51 (0, 0)) := ⟨_, rfl⟩
 have HOO := Lib.hid hoo
 have HO2 : Hid (w2.heap[H]? = some oo) := Lib.hid (by rw [hoo]; exact HO2.out)
 clear hoo
 have HS2 : Hid (H < w2.heap.size) := Lib.hid (lt_of_heap HO2.out)
 clear hb2
 cases hsk : skipB mg l with
 | true =>
  go_wp2_with fail
  go_ret
  exact ⟨rfl, HB2.out⟩
 | false =>
  have hall : lightM l 60 = true ∧ mg.N.length ≤ 20 ∧ ¬ (mg.dst = 0 ∧ 0 < mg.frm ∧ mg.frm < 3) := by
   unfold skipB at hsk
   simp only [Bool.or_eq_false_iff, Bool.not_eq_false', decide_eq_false_iff_not, Bool.and_eq_false_iff] at hsk
   obtain ⟨h1, h2, h3, h4⟩ := hsk
   refine ⟨h1, by omega, fun ⟨a, b, c⟩ => ?_⟩
   rcases h4 with h4 | h4 | h4
   ·rw [a] at h4; simp at h4
   ·exact h4 b
   ·exact h4 c
  have HLT := Lib.hid (light_of l 60 hall.1)
  have HNB := Lib.hid hall.2.1
  have HST := Lib.hid hall.2.2
  have hm60 : m ≤ 60 := by have := HLT.out.1; have := HLEN.out; omega
  clear hsk hall
  go_wp2_with fail
  refine (begun_any (A := []) 3 (by omega) (fun b hb => by cases hb)).mono ?_
  rintro e w3 ⟨ca, A3, Z3, rfl, hs3, hm3⟩
  have HS3 := Lib.hid hs3
  have HM3 := Lib.hid hm3
  clear hs3 hm3
  go_wp2_with fail
  refine (begun_any (A := A3) 3 (by omega) HS3.out.alt).mono ?_
  rintro e w4 ⟨cb, A4, Z4, rfl, hs4, hm4⟩
  have HT4 : Hid (Two w w4 A4 Z3 Z4 ca cb (Mn.begun 3) (Mn.begun 3) H oo) := Lib.hid (by
   have h3 := HS3.out
   have m3 := HM3.out
   have hz3 := h3.zA
   have hb3 : Below w.heap.size w w3 := HB2.out.trans ((m3.mv.only.below (Nat.le_refl _) (fun b hb => by cases hb)).mono HB2.out.size)
   have hA3 : ∀ b ∈ A3, w2.heap.size ≤ b := fun b hb => by
    rcases m3.ext b hb with h1 | h1
    ·cases h1
    ·exact h1
   have h23 := m3.mv.only.size
   refine ⟨h3.keep hm4.mv.only (fun b hb => by cases hb) (fun b _ hm => by cases hm) hm4.ext hm4.sub hs4.alt, hs4, fun b hb hx => ?_, hb3.trans ((hm4.mv.only.below (Nat.le_refl _) (fun b hb => by cases hb)).mono hb3.size), fun b hb => ?_, fun hm => ?_, hm4.mv.only.keeps (m3.mv.only.keeps HO2.out (fun hm => by cases hm)) (fun hm => by cases hm)⟩
   ·rcases hm4.mv.gr b hx with h1 | h1
    ·cases h1
    ·have := h3.alt b (hz3 b hb); omega
   ·rcases hm4.ext b hb with h1 | h1
    ·exact Nat.le_trans HB2.out.size (hA3 b h1)
    ·exact Nat.le_trans hb3.size h1
   ·have := HS2.out
    rcases hm4.ext _ hm with h1 | h1
    ·have := hA3 _ h1; omega
    ·omega)
  have HBI := Lib.hid (binv_begun 3 (by omega) (by omega))
  clear hs4 hm4
  go_wp2_with fail
  go_loopw [7] (fun i wr => ∃ (j : Nat) (A Za Zb : List Nat), j ≤ m ∧ i = .int .i64 (j : Int) ∧ Two w wr A Za Zb ca cb ((Mn.begun 3).acts 3 (l.take j)) ((Mn.begun 3).acts 3 (l.take j)) H oo) (fun i _ => m - (intOf i).toNat)
  case atStart => exact ⟨0, _, _, _, Nat.zero_le _, rfl, HT4.out⟩
  case round =>
   obtain ⟨j, A, Za, Zb, hj, rfl, htwo⟩ := hrel
   rename World => wr
   have HTW := Lib.hid htwo
   clear htwo
   have q6 : IntKind.i64.wrap ((j : Int) + 1) = (j : Int) + 1 := IntWalk.i64_in _ (by omega)
   have HBJ : Hid (BInv 3 (0 + (l.take j).length) (1 + (l.take j).length) ((Mn.begun 3).acts 3 (l.take j))) := Lib.hid (HBI.out.acts _)
   have HLJ : Hid ((l.take j).length ≤ 60) := Lib.hid (by rw [List.length_take]; omega)
   by_cases hjm : j < m
   ·have hjm2 : (j : Int) < (m : Int) := by omega
    obtain ⟨b, off, rfl, hat⟩ : ∃ b off, ao = some ⟨b, off, none⟩ ∧ ∀ i, i < m → AtAc w b (off + i * 5) (l.getD i ac0) := by
     rcases HX.out.at_ with h0 | h0
     ·omega
     ·exact h0
    have ha := hat j hjm
    have hg : l.getD j ac0 = l[j]'(by have := HLEN.out; omega) := by simp [List.getD, show j < l.length by have := HLEN.out; omega]
    have HE : Hid ((Mn.begun 3).acts 3 (l.take (j + 1)) = ((Mn.begun 3).acts 3 (l.take j)).act 3 (l.getD j ac0)) := Lib.hid (by
     rw [hg, ← List.take_append_getElem (by have := HLEN.out; omega)]
     unfold Mn.acts
     rw [List.foldl_append]
     rfl)
    have HBX : Hid ((l.getD j ac0).B.length ≤ 300) := Lib.hid (by rw [hg]; exact HLT.out.2 _ (List.getElem_mem _))
    have HAC := Lib.hid ha
    clear ha hat hg
    generalize l.getD j ac0 = x at *
    have HBJ2 := Lib.hid (HBJ.out.act x)
    generalize hS1 : (Mn.begun 3).acts 3 (l.take j) = S at *
    clear hS1
    -- the strange message
    go_upto_region 11 with (fail)
    go_cut [71] (fun v wx => v = .bool false ∧ ∃ A2 Za2 Zb2, Two w wx A2 Za2 Zb2 ca cb S S H oo)
    case first =>
     have htw := HTW.out
     obtain ⟨Ya, rsa, dsa, lsa, Xsa, vra, vda, gua, qva, gva, lva, hsa, hza⟩ := htw.sa
     obtain ⟨Yb, rsb, dsb, lsb, Xsb, vrb, vdb, gub, qvb, gvb, lvb, hsb, hzb⟩ := htw.sb
     have htc : TwoC w wr A Za Zb Ya Yb ca cb S rsa dsa lsa Xsa vra vda gua qva gva lva rsb dsb lsb Xsb vrb vdb gub qvb gvb lvb H oo := ⟨hsa, hsb, hza, hzb, htw.dis, htw.bel, htw.age, htw.hA, htw.hh⟩
     obtain ⟨gra, kra, evr, hkra, hrow⟩ := ptr_cell hsa.rr (by omega)
     subst evr
     generalize hW : wr = W at *
     have hup := hsa.upAt 0 (by omega)
     have hHX : ∀ X : List Nat, (∀ b ∈ X, b ∈ A) → H ∉ X := fun X hX hm => htw.hA (hX _ hm)
     have HD0 := Lib.hid (show TwoC w W.drew A Za Zb Ya Yb ca cb S rsa dsa lsa Xsa _ vda gua qva gva lva rsb dsb lsb Xsb vrb vdb gub qvb gvb lvb H _ from htc.below (below_drewN W 1))
     have hhh : W.drew.heap[H]? = some (.cells #[.int .i64 mg.frm, .int .i64 mg.dst, .int .i64 mg.kind, .slice no mg.N.length nc, .slice ub mg.B.length bc] 51 (0, 0)) := by rw [← HOO.out]; exact HD0.out.hh
     cases hu : (S.at 0).up with
     | false =>
      rw [hu] at hup
      have hs0 : W.drew.cell? ⟨ca, 2, none⟩ = some (.slice (some ⟨gua, 0, none⟩) 3 3) ∧ W.drew.cell? ⟨gua, 0, none⟩ = some (.bool false) ∧ W.drew.cell? ⟨ca, 0, none⟩ = some (.slice (some ⟨gra, 0, none⟩) 3 kra) ∧ W.drew.cell? ⟨gra, 0, none⟩ = some (.pointer (some ⟨rsa 0, 0, none⟩)) ∧ W.drew.cell? ⟨H, 0, none⟩ = some (.int .i64 mg.frm) ∧ W.drew.cell? ⟨H, 1, none⟩ = some (.int .i64 mg.dst) ∧ W.drew.cell? ⟨H, 2, none⟩ = some (.int .i64 mg.kind) ∧ W.drew.cell? ⟨H, 3, none⟩ = some (.slice no mg.N.length nc) ∧ W.drew.cell? ⟨H, 4, none⟩ = some (.slice ub mg.B.length bc) := ⟨by rw [cell_heap HD0.out.sa.cell]; rfl, hup, by rw [cell_heap HD0.out.sa.cell]; rfl, hrow 0 (by omega), by rw [cell_heap hhh]; rfl, by rw [cell_heap hhh]; rfl, by rw [cell_heap hhh]; rfl, by rw [cell_heap hhh]; rfl, by rw [cell_heap hhh]; rfl⟩
      have HFIN := Lib.hid HD0.out.ls
      clear hsa hsb hza hzb htc hrow hup htw hHX HD0 hhh
      refine wp_region_held_drew (S := fun w' => w'.cell? ⟨ca, 2, none⟩ = some (.slice (some ⟨gua, 0, none⟩) 3 3) ∧ w'.cell? ⟨gua, 0, none⟩ = some (.bool false) ∧ w'.cell? ⟨ca, 0, none⟩ = some (.slice (some ⟨gra, 0, none⟩) 3 kra) ∧ w'.cell? ⟨gra, 0, none⟩ = some (.pointer (some ⟨rsa 0, 0, none⟩)) ∧ w'.cell? ⟨H, 0, none⟩ = some (.int .i64 mg.frm) ∧ w'.cell? ⟨H, 1, none⟩ = some (.int .i64 mg.dst) ∧ w'.cell? ⟨H, 2, none⟩ = some (.int .i64 mg.kind) ∧ w'.cell? ⟨H, 3, none⟩ = some (.slice no mg.N.length nc) ∧ w'.cell? ⟨H, 4, none⟩ = some (.slice ub mg.B.length bc)) (by kernel_rfl) hs0 (fun hHeld => ?_)
      refine qtl 0 (z0lx0 _) rfl ?_
      refine qtl 1 (z0lx1 _) rfl ?_
      refine qtl 2 (z0lx2 _) rfl ?_
      refine qtl 3 (z0lx3 _) rfl ?_
      refine qtl 4 (z0lx4 _) rfl ?_
      refine qtl 5 (z0lx5 _) rfl ?_
      refine qtl 6 (z0lx6 _) rfl ?_
      refine qtu 7 (z0lx7 _) rfl ?_
      refine qtu 8 (z0lx8 _) rfl ?_
      refine qtu 9 (z0lx9 _) rfl ?_
      refine qtu 10 (z0lx10 _) rfl ?_
      refine qtu 11 (z0lx11 _) rfl ?_
      refine qtu 12 (z0lx12 _) rfl ?_
      refine qtu 13 (z0lx13 _) rfl ?_
      refine qtu 14 (z0lx14 _) rfl ?_
      refine qtu 15 (z0lx15 _) rfl ?_
      refine qtu 16 (z0lx16 _) rfl ?_
      refine qtl 17 (z0lx17 _) rfl ?_
      generalize W.drew = V at *
      refine qdn ?_
      clear hHeld
      go_wp2_with fail
      go_meet
      exact ⟨rfl, HFIN.out⟩
     | true =>
      rw [hu] at hup
      have hs0 : W.drew.cell? ⟨ca, 2, none⟩ = some (.slice (some ⟨gua, 0, none⟩) 3 3) ∧ W.drew.cell? ⟨gua, 0, none⟩ = some (.bool true) ∧ W.drew.cell? ⟨ca, 0, none⟩ = some (.slice (some ⟨gra, 0, none⟩) 3 kra) ∧ W.drew.cell? ⟨gra, 0, none⟩ = some (.pointer (some ⟨rsa 0, 0, none⟩)) ∧ W.drew.cell? ⟨H, 0, none⟩ = some (.int .i64 mg.frm) ∧ W.drew.cell? ⟨H, 1, none⟩ = some (.int .i64 mg.dst) ∧ W.drew.cell? ⟨H, 2, none⟩ = some (.int .i64 mg.kind) ∧ W.drew.cell? ⟨H, 3, none⟩ = some (.slice no mg.N.length nc) ∧ W.drew.cell? ⟨H, 4, none⟩ = some (.slice ub mg.B.length bc) := ⟨by rw [cell_heap HD0.out.sa.cell]; rfl, hup, by rw [cell_heap HD0.out.sa.cell]; rfl, hrow 0 (by omega), by rw [cell_heap hhh]; rfl, by rw [cell_heap hhh]; rfl, by rw [cell_heap hhh]; rfl, by rw [cell_heap hhh]; rfl, by rw [cell_heap hhh]; rfl⟩
      have hnd := (HD0.out.sa.node 0 (by omega)).up hu
      have hmz : MsgZ W.drew A mg (.slice no mg.N.length nc) (.slice ub mg.B.length bc) := ⟨⟨_, _, rfl⟩, fun h1 => ⟨no, nc, rfl, HNI.out.below HD0.out.bel, hNc, hnc, fun p hp => by
       obtain ⟨_, _, h3⟩ := HNI.out
       rcases h3 with h3 | ⟨b', off', e, h4⟩
       ·omega
       ·rw [e] at hp
        cases hp
        have h9 : b' < w.heap.size := World.block_lt_of_cell? w _ (h4 0 (by omega))
        exact ⟨fun hm => (by have := HD0.out.age _ hm; simp only at this; omega), Nat.lt_of_lt_of_le h9 HD0.out.bel.size⟩⟩, ⟨_, _, rfl⟩⟩
      have hid := HBJ.out.sv.id 0 (by omega)
      have HGET0 := get_bad hnd mg _ _ hmz (by
       rw [strange_bad (s := doneS (S.at 0).s (S.at 0).k) (by exact hid.1) (by exact hid.2) HST.out]; simp) (by rw [hid.2]; omega) (by have := HNB.out; omega)
      have HGET : Hid (Calls Try.prog 19 #[.pointer (some ⟨rsa 0, 0, none⟩), .agg #[.int .i64 mg.frm, .int .i64 mg.dst, .int .i64 mg.kind, .slice no mg.N.length nc, .slice ub mg.B.length bc]] W.drew fun e w' => ∃ v A' X', e = .returned v ∧ Nd w' A' X' (rsa 0) (dsa 0) (lsa 0) (doneS (S.at 0).s (S.at 0).k) (S.at 0).k ∧ OwnMs w' A' W.drew.heap.size v [] ∧ Mv A A' (Xsa 0) X' W.drew w' ∧ ∀ b, v.ownBlock = some b → b ∉ A') := Lib.hid (HGET0.mono (fun e w' hp => hp.ex))
      have HFIN : Hid (∀ w2 A2 X2, Nd w2 A2 X2 (rsa 0) (dsa 0) (lsa 0) (doneS (S.at 0).s (S.at 0).k) (S.at 0).k → Mv A A2 (Xsa 0) X2 W.drew w2 → ∃ A3 Za3 Zb3, Two w w2 A3 Za3 Zb3 ca cb S S H oo) := Lib.hid (fun w2 A2 X2 h1 h2 => HD0.out.got HBJ.out hu h1 h2)
      have hX := hnd.xA
      have hYX := HD0.out.sa.yx 0 (by omega)
      have HK : Hid (∀ w2, Only (Xsa 0) W.drew w2 → w2.cell? ⟨ca, 2, none⟩ = some (.slice (some ⟨gua, 0, none⟩) 3 3) ∧ w2.cell? ⟨gua, 0, none⟩ = some (.bool true) ∧ w2.cell? ⟨ca, 0, none⟩ = some (.slice (some ⟨gra, 0, none⟩) 3 kra) ∧ w2.cell? ⟨gra, 0, none⟩ = some (.pointer (some ⟨rsa 0, 0, none⟩)) ∧ w2.cell? ⟨H, 0, none⟩ = some (.int .i64 mg.frm) ∧ w2.cell? ⟨H, 1, none⟩ = some (.int .i64 mg.dst) ∧ w2.cell? ⟨H, 2, none⟩ = some (.int .i64 mg.kind) ∧ w2.cell? ⟨H, 3, none⟩ = some (.slice no mg.N.length nc) ∧ w2.cell? ⟨H, 4, none⟩ = some (.slice ub mg.B.length bc)) := Lib.hid (fun w2 ho => ⟨ho.cell hs0.1 (hYX _ HD0.out.sa.cY), ho.cell hs0.2.1 (hYX _ HD0.out.sa.uY), ho.cell hs0.2.2.1 (hYX _ HD0.out.sa.cY), ho.cell hs0.2.2.2.1 (hYX _ (HD0.out.sa.rY _ rfl)), ho.cell hs0.2.2.2.2.1 (hHX _ hX), ho.cell hs0.2.2.2.2.2.1 (hHX _ hX), ho.cell hs0.2.2.2.2.2.2.1 (hHX _ hX), ho.cell hs0.2.2.2.2.2.2.2.1 (hHX _ hX), ho.cell hs0.2.2.2.2.2.2.2.2 (hHX _ hX)⟩)
      clear hsa hsb hza hzb htc hrow hup htw hHX HD0 hnd hmz hid HGET0 hX hYX hhh
      generalize doneS (S.at 0).s (S.at 0).k = s9 at *
      refine wp_region_held_drew (S := fun w' => w'.cell? ⟨ca, 2, none⟩ = some (.slice (some ⟨gua, 0, none⟩) 3 3) ∧ w'.cell? ⟨gua, 0, none⟩ = some (.bool true) ∧ w'.cell? ⟨ca, 0, none⟩ = some (.slice (some ⟨gra, 0, none⟩) 3 kra) ∧ w'.cell? ⟨gra, 0, none⟩ = some (.pointer (some ⟨rsa 0, 0, none⟩)) ∧ w'.cell? ⟨H, 0, none⟩ = some (.int .i64 mg.frm) ∧ w'.cell? ⟨H, 1, none⟩ = some (.int .i64 mg.dst) ∧ w'.cell? ⟨H, 2, none⟩ = some (.int .i64 mg.kind) ∧ w'.cell? ⟨H, 3, none⟩ = some (.slice no mg.N.length nc) ∧ w'.cell? ⟨H, 4, none⟩ = some (.slice ub mg.B.length bc)) (by kernel_rfl) hs0 (fun hHeld => ?_)
      refine qtl 0 (z0lx0 _) rfl ?_
      refine qtl 1 (z0lx1 _) rfl ?_
      refine qtl 2 (z0lx2 _) rfl ?_
      refine qtl 3 (z0lx3 _) rfl ?_
      refine qtl 4 (z0lx4 _) rfl ?_
      refine qtl 5 (z0lx5 _) rfl ?_
      refine qtl 6 (z0lx6 _) rfl ?_
      refine qtl 7 (z0lx7 _) rfl ?_
      refine qtl 8 (z0lx8 _) rfl ?_
      refine qtl 9 (z0lx9 _) rfl ?_
      refine qtl 10 (z0lx10 _) rfl ?_
      refine qtl 11 (z0lx11 _) rfl ?_
      refine qtl 12 (z0lx12 _) rfl ?_
      refine qtl 13 (z0lx13 _) rfl ?_
      generalize W.drew = V at *
      refine qr1 14 (z0lx14 _) rfl fun K hK => ?_
      unfold z0lx14
      go_simp
      refine HGET.out.mono ?_
      rintro e w2 ⟨v2, A2, X2, rfl, hn2, ho2, hm2, hv2⟩
      obtain ⟨a2, c2, e2⟩ := ownMs_nil ho2
      subst e2
      have HN2 := Lib.hid hn2
      have HM2 := Lib.hid hm2
      have hk := HK.out _ hm2.mv.only
      clear hn2 ho2 hm2 hv2
      go_wp2_with fail
      refine hK.out _ _ hk (fun hHeld => ?_)
      clear hK K
      refine qsp ?_
      clear hk
      refine qtl 15 (z0lx15 _) rfl ?_
      refine qtl 16 (z0lx16 _) rfl ?_
      refine qtl 17 (z0lx17 _) rfl ?_
      refine qdn ?_
      clear hHeld
      go_wp2_with fail
      go_meet
      exact ⟨rfl, HFIN.out _ _ _ HN2.out HM2.out⟩
    case rest =>
    obtain ⟨rfl, A5, Za5, Zb5, ht5⟩ := hcut
    rename World => w5
    have HT5 := Lib.hid ht5
    have ha5 := HAC.out.below ht5.bel
    obtain ⟨xb, xc, k4, hz⟩ := HAC.out.z (A := A5) ht5.age ht5.bel
    have k0 := ha5.c0
    have k1 := ha5.c1
    have k2 := ha5.c2
    have k3 := ha5.c3
    have HDA := Lib.hid (do_any ht5.sa HBJ.out x xb xc hz HBX.out HAC.out.p1 (by have := HLJ.out; omega) (by have := HLJ.out; omega))
    have HXC := Lib.hid (fun (A6 : List Nat) (w6 : World) (hA6 : ∀ b ∈ A6, w.heap.size ≤ b) (hb6 : Below w.heap.size w w6) => HAC.out.z (A := A6) hA6 hb6)
    have HXB := Lib.hid (fun (w6 : World) (hb6 : Below w.heap.size w w6) => HAC.out.below hb6)
    have HPP := Lib.hid HAC.out.p1
    clear ht5 ha5 hz HAC
    obtain ⟨o, N, K, P, B⟩ := x
    simp only at k0 k1 k2 k3 k4
    go_wp2_with fail
    refine HDA.out.mono ?_
    rintro e w6 ⟨rfl, hs6⟩
    obtain ⟨A6, Za6, ht6⟩ := HT5.out.left hs6
    have HT6 := Lib.hid ht6
    have ha6 := HXB.out w6 ht6.bel
    obtain ⟨xb6, xc6, k4, hz⟩ := HXC.out A6 w6 ht6.age ht6.bel
    have k0 := ha6.c0
    have k1 := ha6.c1
    have k2 := ha6.c2
    have k3 := ha6.c3
    have HDB := Lib.hid (do_any ht6.sb HBJ.out ⟨o, N, K, P, B⟩ xb6 xc6 hz HBX.out HPP.out (by have := HLJ.out; omega) (by have := HLJ.out; omega))
    clear ht6 ha6 hz hs6
    simp only at k0 k1 k2 k3 k4
    go_wp2_with fail
    refine HDB.out.mono ?_
    rintro e w7 ⟨rfl, hs7⟩
    obtain ⟨A7, Zb7, ht7⟩ := HT6.out.right hs7
    have HT7 := Lib.hid ht7
    clear ht7 hs7 k0 k1 k2 k3 k4 HDA HDB HT5 HT6
    generalize S.act 3 ⟨o, N, K, P, B⟩ = S2 at *
    go_upto_region 15 with (fail)
    go_cut [138] (fun v wx => v = .bool false ∧ ∃ A2 Za2 Zb2, Two w wx A2 Za2 Zb2 ca cb S2 S2 H oo)
    case first =>
     have htw := HT7.out
     obtain ⟨Ya, rsa, dsa, lsa, Xsa, vra, vda, gua, qva, gva, lva, hsa, hza⟩ := htw.sa
     obtain ⟨Yb, rsb, dsb, lsb, Xsb, vrb, vdb, gub, qvb, gvb, lvb, hsb, hzb⟩ := htw.sb
     have htc : TwoC w w7 A7 Za6 Zb7 Ya Yb ca cb S2 rsa dsa lsa Xsa vra vda gua qva gva lva rsb dsb lsb Xsb vrb vdb gub qvb gvb lvb H oo := ⟨hsa, hsb, hza, hzb, htw.dis, htw.bel, htw.age, htw.hA, htw.hh⟩
     obtain ⟨gra, kra, evr, hkra, _⟩ := ptr_cell hsa.rr (by omega)
     subst evr
     obtain ⟨grb, krb, evr, hkrb, _⟩ := ptr_cell hsb.rr (by omega)
     subst evr
     obtain ⟨aqa, cqa, eq1, _⟩ := hsa.q.shape
     subst eq1
     obtain ⟨aqb, cqb, eq2, _⟩ := hsb.q.shape
     subst eq2
     generalize hW : w7 = W at *
     obtain ⟨T, hT⟩ : ∃ T : World → Prop, T = fun V => TwoC w V A7 Za6 Zb7 Ya Yb ca cb S2 rsa dsa lsa Xsa (.slice (some ⟨gra, 0, none⟩) 3 kra) vda gua (.slice aqa S2.q.length cqa) gva lva rsb dsb lsb Xsb (.slice (some ⟨grb, 0, none⟩) 3 krb) vdb gub (.slice aqb S2.q.length cqb) gvb lvb H oo := ⟨_, rfl⟩
     have HD0 : Hid (T W.drew) := Lib.hid (by rw [hT]; exact htc.below (below_drewN W 1))
     have HLS : Hid (∀ V, T V → ∃ A2 Za2 Zb2, Two w V A2 Za2 Zb2 ca cb S2 S2 H oo) := Lib.hid (fun V hV => by rw [hT] at hV; exact TwoC.ls hV)
     obtain ⟨u, hu⟩ : ∃ u, u = (S2.at 0).up := ⟨_, rfl⟩
     have HSS : Hid (∀ V, T V → V.cell? ⟨ca, 2, none⟩ = some (.slice (some ⟨gua, 0, none⟩) 3 3) ∧ V.cell? ⟨gua, 0, none⟩ = some (.bool u) ∧ V.cell? ⟨ca, 0, none⟩ = some (.slice (some ⟨gra, 0, none⟩) 3 kra) ∧ V.cell? ⟨gra, 0, none⟩ = some (.pointer (some ⟨rsa 0, 0, none⟩)) ∧ V.cell? ⟨ca, 3, none⟩ = some (.slice aqa S2.q.length cqa) ∧ V.cell? ⟨cb, 3, none⟩ = some (.slice aqb S2.q.length cqb) ∧ V.cell? ⟨cb, 0, none⟩ = some (.slice (some ⟨grb, 0, none⟩) 3 krb) ∧ V.cell? ⟨grb, 0, none⟩ = some (.pointer (some ⟨rsb 0, 0, none⟩))) := Lib.hid (fun V hV => by
      rw [hT] at hV
      obtain ⟨g1, k1, e1, _, r1⟩ := ptr_cell (SyC.rr (TwoC.sa hV)) (by omega)
      cases e1
      obtain ⟨g2, k2, e2, _, r2⟩ := ptr_cell (SyC.rr (TwoC.sb hV)) (by omega)
      cases e2
      exact ⟨by rw [cell_heap (TwoC.sa hV).cell]; rfl, by rw [hu]; exact (TwoC.sa hV).upAt 0 (by omega), by rw [cell_heap (TwoC.sa hV).cell]; rfl, r1 0 (by omega), by rw [cell_heap (TwoC.sa hV).cell]; rfl, by rw [cell_heap (TwoC.sb hV).cell]; rfl, by rw [cell_heap (TwoC.sb hV).cell]; rfl, r2 0 (by omega)⟩)
     have HC1 : Hid (∀ V, T V → (S2.at 0).up = true → Calls Try.prog 15 #[.pointer (some ⟨rsa 0, 0, none⟩)] V fun e w' => e = .returned (.bool (S2.leads 0)) ∧ T w') := Lib.hid (fun V hV hup => by rw [hT] at hV ⊢; exact TwoC.lead hV HBJ2.out hup)
     have HC2 : Hid (∀ V, T V → (S2.at 0).up = true → Calls Try.prog 15 #[.pointer (some ⟨rsb 0, 0, none⟩)] V fun e w' => e = .returned (.bool (S2.leads 0)) ∧ T w') := Lib.hid (fun V hV hup => by
      rw [hT] at hV ⊢
      exact ((TwoC.swap hV).lead HBJ2.out hup).mono (fun e w' hp => ⟨hp.1, hp.2.swap⟩))
     have HC3 : Hid (∀ V, T V → (S2.at 0).up = true → Calls Try.prog 12 #[.pointer (some ⟨rsa 0, 0, none⟩)] V fun e w' => ∃ a c, e = .returned (.slice a (agreedM (S2.at 0).s).length c) ∧ T w') := Lib.hid (fun V hV hup => by rw [hT] at hV ⊢; exact TwoC.agree hV HBJ2.out hup)
     have HC4 : Hid (∀ V, T V → (S2.at 0).up = true → Calls Try.prog 12 #[.pointer (some ⟨rsb 0, 0, none⟩)] V fun e w' => ∃ a c, e = .returned (.slice a (agreedM (S2.at 0).s).length c) ∧ T w') := Lib.hid (fun V hV hup => by
      rw [hT] at hV ⊢
      exact ((TwoC.swap hV).agree HBJ2.out hup).mono (fun e w' ⟨a, c, h1, h2⟩ => ⟨a, c, h1, h2.swap⟩))
     clear htw hsa hza hsb hzb htc hT
     generalize S2.q.length = ql at *
     generalize S2.leads 0 = ld at *
     generalize (agreedM (S2.at 0).s).length = al at *
     have HU := Lib.hid hu
     clear hu
     cases u with
     | false =>
      have hs0 : W.drew.cell? ⟨ca, 2, none⟩ = some (.slice (some ⟨gua, 0, none⟩) 3 3) ∧ W.drew.cell? ⟨gua, 0, none⟩ = some (.bool false) ∧ W.drew.cell? ⟨ca, 0, none⟩ = some (.slice (some ⟨gra, 0, none⟩) 3 kra) ∧ W.drew.cell? ⟨gra, 0, none⟩ = some (.pointer (some ⟨rsa 0, 0, none⟩)) ∧ W.drew.cell? ⟨ca, 3, none⟩ = some (.slice aqa ql cqa) ∧ W.drew.cell? ⟨cb, 3, none⟩ = some (.slice aqb ql cqb) ∧ W.drew.cell? ⟨cb, 0, none⟩ = some (.slice (some ⟨grb, 0, none⟩) 3 krb) ∧ W.drew.cell? ⟨grb, 0, none⟩ = some (.pointer (some ⟨rsb 0, 0, none⟩)) := HSS.out _ HD0.out
      clear HC1 HC2 HC3 HC4
      refine wp_region_held_drew (S := fun w' => w'.cell? ⟨ca, 2, none⟩ = some (.slice (some ⟨gua, 0, none⟩) 3 3) ∧ w'.cell? ⟨gua, 0, none⟩ = some (.bool false) ∧ w'.cell? ⟨ca, 0, none⟩ = some (.slice (some ⟨gra, 0, none⟩) 3 kra) ∧ w'.cell? ⟨gra, 0, none⟩ = some (.pointer (some ⟨rsa 0, 0, none⟩)) ∧ w'.cell? ⟨ca, 3, none⟩ = some (.slice aqa ql cqa) ∧ w'.cell? ⟨cb, 3, none⟩ = some (.slice aqb ql cqb) ∧ w'.cell? ⟨cb, 0, none⟩ = some (.slice (some ⟨grb, 0, none⟩) 3 krb) ∧ w'.cell? ⟨grb, 0, none⟩ = some (.pointer (some ⟨rsb 0, 0, none⟩))) (by kernel_rfl) hs0 (fun hHeld => ?_)
      refine qtl 0 (z0lx18 _) rfl ?_
      refine qtl 1 (z0lx19 _) rfl ?_
      refine qtl 2 (z0lx20 _) rfl ?_
      refine qtl 3 (z0lx21 _) rfl ?_
      refine qtl 4 (z0lx22 _) rfl ?_
      refine qtl 5 (z0lx23 _) rfl ?_
      refine qtl 6 (z0lx24 _) rfl ?_
      refine qtl 7 (z0lx25 _) rfl ?_
      refine qtl 8 (z0lx26 _) rfl ?_
      refine qtl 9 (z0lx27 _) rfl ?_
      refine qtl 10 (z0lx28 _) rfl ?_
      refine qtl 11 (z0lx29 _) rfl ?_
      refine qtl 12 (z0lx30 _) rfl ?_
      refine qtl 13 (z0lx31 _) rfl ?_
      refine qtl 14 (z0lx32 _) rfl ?_
      refine qtl 15 (z0lx33 _) rfl ?_
      refine qtl 16 (z0lx34 _) rfl ?_
      refine qtl 17 (z0lx35 _) rfl ?_
      refine qtl 18 (z0lx36 _) rfl ?_
      refine qtu 19 (z0lx37 _) rfl ?_
      refine qtu 20 (z0lx38 _) rfl ?_
      refine qtu 21 (z0lx39 _) rfl ?_
      refine qtu 22 (z0lx40 _) rfl ?_
      refine qtu 23 (z0lx41 _) rfl ?_
      refine qtu 24 (z0lx42 _) rfl ?_
      refine qtu 25 (z0lx43 _) rfl ?_
      refine qtu 26 (z0lx44 _) rfl ?_
      refine qtu 27 (z0lx45 _) rfl ?_
      refine qtu 28 (z0lx46 _) rfl ?_
      refine qtu 29 (z0lx47 _) rfl ?_
      refine qtu 30 (z0lx48 _) rfl ?_
      refine qtu 31 (z0lx49 _) rfl ?_
      refine qtu 32 (z0lx50 _) rfl ?_
      refine qtu 33 (z0lx51 _) rfl ?_
      refine qtu 34 (z0lx52 _) rfl ?_
      refine qtu 35 (z0lx53 _) rfl ?_
      refine qtu 36 (z0lx54 _) rfl ?_
      refine qtu 37 (z0lx55 _) rfl ?_
      refine qtu 38 (z0lx56 _) rfl ?_
      refine qtu 39 (z0lx57 _) rfl ?_
      refine qtu 40 (z0lx58 _) rfl ?_
      refine qtu 41 (z0lx59 _) rfl ?_
      refine qtu 42 (z0lx60 _) rfl ?_
      refine qtu 43 (z0lx61 _) rfl ?_
      refine qtu 44 (z0lx62 _) rfl ?_
      refine qtu 45 (z0lx63 _) rfl ?_
      refine qtu 46 (z0lx64 _) rfl ?_
      refine qtu 47 (z0lx65 _) rfl ?_
      refine qtu 48 (z0lx66 _) rfl ?_
      refine qtu 49 (z0lx67 _) rfl ?_
      refine qtu 50 (z0lx68 _) rfl ?_
      refine qtu 51 (z0lx69 _) rfl ?_
      refine qtu 52 (z0lx70 _) rfl ?_
      refine qtl 53 (z0lx71 _) rfl ?_
      refine qtl 54 (z0lx72 _) rfl ?_
      generalize W.drew = V0 at *
      refine qdn ?_
      clear hHeld
      go_wp2_with fail
      go_meet
      exact ⟨rfl, HLS.out _ HD0.out⟩
     | true =>
      have hs0 : W.drew.cell? ⟨ca, 2, none⟩ = some (.slice (some ⟨gua, 0, none⟩) 3 3) ∧ W.drew.cell? ⟨gua, 0, none⟩ = some (.bool true) ∧ W.drew.cell? ⟨ca, 0, none⟩ = some (.slice (some ⟨gra, 0, none⟩) 3 kra) ∧ W.drew.cell? ⟨gra, 0, none⟩ = some (.pointer (some ⟨rsa 0, 0, none⟩)) ∧ W.drew.cell? ⟨ca, 3, none⟩ = some (.slice aqa ql cqa) ∧ W.drew.cell? ⟨cb, 3, none⟩ = some (.slice aqb ql cqb) ∧ W.drew.cell? ⟨cb, 0, none⟩ = some (.slice (some ⟨grb, 0, none⟩) 3 krb) ∧ W.drew.cell? ⟨grb, 0, none⟩ = some (.pointer (some ⟨rsb 0, 0, none⟩)) := HSS.out _ HD0.out
      have HC1 : Hid (∀ V, T V → Calls Try.prog 15 #[.pointer (some ⟨rsa 0, 0, none⟩)] V fun e w' => e = .returned (.bool ld) ∧ T w' ∧ w'.cell? ⟨ca, 2, none⟩ = some (.slice (some ⟨gua, 0, none⟩) 3 3) ∧ w'.cell? ⟨gua, 0, none⟩ = some (.bool true) ∧ w'.cell? ⟨ca, 0, none⟩ = some (.slice (some ⟨gra, 0, none⟩) 3 kra) ∧ w'.cell? ⟨gra, 0, none⟩ = some (.pointer (some ⟨rsa 0, 0, none⟩)) ∧ w'.cell? ⟨ca, 3, none⟩ = some (.slice aqa ql cqa) ∧ w'.cell? ⟨cb, 3, none⟩ = some (.slice aqb ql cqb) ∧ w'.cell? ⟨cb, 0, none⟩ = some (.slice (some ⟨grb, 0, none⟩) 3 krb) ∧ w'.cell? ⟨grb, 0, none⟩ = some (.pointer (some ⟨rsb 0, 0, none⟩))) := Lib.hid (fun V hV => (HC1.out V hV HU.out.symm).mono (fun e w' h => ⟨h.1, h.2, HSS.out _ h.2⟩))
      have HC2 : Hid (∀ V, T V → Calls Try.prog 15 #[.pointer (some ⟨rsb 0, 0, none⟩)] V fun e w' => e = .returned (.bool ld) ∧ T w' ∧ w'.cell? ⟨ca, 2, none⟩ = some (.slice (some ⟨gua, 0, none⟩) 3 3) ∧ w'.cell? ⟨gua, 0, none⟩ = some (.bool true) ∧ w'.cell? ⟨ca, 0, none⟩ = some (.slice (some ⟨gra, 0, none⟩) 3 kra) ∧ w'.cell? ⟨gra, 0, none⟩ = some (.pointer (some ⟨rsa 0, 0, none⟩)) ∧ w'.cell? ⟨ca, 3, none⟩ = some (.slice aqa ql cqa) ∧ w'.cell? ⟨cb, 3, none⟩ = some (.slice aqb ql cqb) ∧ w'.cell? ⟨cb, 0, none⟩ = some (.slice (some ⟨grb, 0, none⟩) 3 krb) ∧ w'.cell? ⟨grb, 0, none⟩ = some (.pointer (some ⟨rsb 0, 0, none⟩))) := Lib.hid (fun V hV => (HC2.out V hV HU.out.symm).mono (fun e w' h => ⟨h.1, h.2, HSS.out _ h.2⟩))
      have HC3 : Hid (∀ V, T V → Calls Try.prog 12 #[.pointer (some ⟨rsa 0, 0, none⟩)] V fun e w' => ∃ a c, e = .returned (.slice a al c) ∧ T w' ∧ w'.cell? ⟨ca, 2, none⟩ = some (.slice (some ⟨gua, 0, none⟩) 3 3) ∧ w'.cell? ⟨gua, 0, none⟩ = some (.bool true) ∧ w'.cell? ⟨ca, 0, none⟩ = some (.slice (some ⟨gra, 0, none⟩) 3 kra) ∧ w'.cell? ⟨gra, 0, none⟩ = some (.pointer (some ⟨rsa 0, 0, none⟩)) ∧ w'.cell? ⟨ca, 3, none⟩ = some (.slice aqa ql cqa) ∧ w'.cell? ⟨cb, 3, none⟩ = some (.slice aqb ql cqb) ∧ w'.cell? ⟨cb, 0, none⟩ = some (.slice (some ⟨grb, 0, none⟩) 3 krb) ∧ w'.cell? ⟨grb, 0, none⟩ = some (.pointer (some ⟨rsb 0, 0, none⟩))) := Lib.hid (fun V hV => (HC3.out V hV HU.out.symm).mono (fun e w' ⟨a, c, h1, h2⟩ => ⟨a, c, h1, h2, HSS.out _ h2⟩))
      have HC4 : Hid (∀ V, T V → Calls Try.prog 12 #[.pointer (some ⟨rsb 0, 0, none⟩)] V fun e w' => ∃ a c, e = .returned (.slice a al c) ∧ T w' ∧ w'.cell? ⟨ca, 2, none⟩ = some (.slice (some ⟨gua, 0, none⟩) 3 3) ∧ w'.cell? ⟨gua, 0, none⟩ = some (.bool true) ∧ w'.cell? ⟨ca, 0, none⟩ = some (.slice (some ⟨gra, 0, none⟩) 3 kra) ∧ w'.cell? ⟨gra, 0, none⟩ = some (.pointer (some ⟨rsa 0, 0, none⟩)) ∧ w'.cell? ⟨ca, 3, none⟩ = some (.slice aqa ql cqa) ∧ w'.cell? ⟨cb, 3, none⟩ = some (.slice aqb ql cqb) ∧ w'.cell? ⟨cb, 0, none⟩ = some (.slice (some ⟨grb, 0, none⟩) 3 krb) ∧ w'.cell? ⟨grb, 0, none⟩ = some (.pointer (some ⟨rsb 0, 0, none⟩))) := Lib.hid (fun V hV => (HC4.out V hV HU.out.symm).mono (fun e w' ⟨a, c, h1, h2⟩ => ⟨a, c, h1, h2, HSS.out _ h2⟩))
      refine wp_region_held_drew (S := fun w' => w'.cell? ⟨ca, 2, none⟩ = some (.slice (some ⟨gua, 0, none⟩) 3 3) ∧ w'.cell? ⟨gua, 0, none⟩ = some (.bool true) ∧ w'.cell? ⟨ca, 0, none⟩ = some (.slice (some ⟨gra, 0, none⟩) 3 kra) ∧ w'.cell? ⟨gra, 0, none⟩ = some (.pointer (some ⟨rsa 0, 0, none⟩)) ∧ w'.cell? ⟨ca, 3, none⟩ = some (.slice aqa ql cqa) ∧ w'.cell? ⟨cb, 3, none⟩ = some (.slice aqb ql cqb) ∧ w'.cell? ⟨cb, 0, none⟩ = some (.slice (some ⟨grb, 0, none⟩) 3 krb) ∧ w'.cell? ⟨grb, 0, none⟩ = some (.pointer (some ⟨rsb 0, 0, none⟩))) (by kernel_rfl) hs0 (fun hHeld => ?_)
      refine qtl 0 (z0lx18 _) rfl ?_
      refine qtl 1 (z0lx19 _) rfl ?_
      refine qtl 2 (z0lx20 _) rfl ?_
      refine qtl 3 (z0lx21 _) rfl ?_
      refine qtl 4 (z0lx22 _) rfl ?_
      refine qtl 5 (z0lx23 _) rfl ?_
      refine qtl 6 (z0lx24 _) rfl ?_
      refine qtl 7 (z0lx25 _) rfl ?_
      refine qtl 8 (z0lx26 _) rfl ?_
      refine qtl 9 (z0lx27 _) rfl ?_
      refine qtl 10 (z0lx28 _) rfl ?_
      refine qtl 11 (z0lx29 _) rfl ?_
      refine qtl 12 (z0lx30 _) rfl ?_
      refine qtl 13 (z0lx31 _) rfl ?_
      refine qtl 14 (z0lx32 _) rfl ?_
      refine qtl 15 (z0lx33 _) rfl ?_
      refine qtl 16 (z0lx34 _) rfl ?_
      refine qtl 17 (z0lx35 _) rfl ?_
      refine qtl 18 (z0lx36 _) rfl ?_
      refine qtl 19 (z0lx37 _) rfl ?_
      refine qtl 20 (z0lx38 _) rfl ?_
      refine qtl 21 (z0lx39 _) rfl ?_
      refine qtl 22 (z0lx40 _) rfl ?_
      refine qtl 23 (z0lx41 _) rfl ?_
      refine qtl 24 (z0lx42 _) rfl ?_
      refine qtl 26 (z0lx44 _) rfl ?_
      refine qtl 27 (z0lx45 _) rfl ?_
      refine qtl 28 (z0lx46 _) rfl ?_
      refine qtl 29 (z0lx47 _) rfl ?_
      refine qtl 30 (z0lx48 _) rfl ?_
      refine qtl 31 (z0lx49 _) rfl ?_
      generalize W.drew = V0 at *
      refine qr1 25 (z0lx43 _) rfl fun K hK => ?_
      unfold z0lx43
      go_simp
      refine (HC1.out _ HD0.out).mono ?_
      rintro e V1 ⟨rfl, hd1, hk1⟩
      have HD1 := Lib.hid hd1
      clear hd1
      go_wp2_with fail
      refine hK.out _ _ hk1 (fun hHeld => ?_)
      clear hK K
      refine qsp ?_
      clear hk1
      refine qr1 32 (z0lx50 _) rfl fun K hK => ?_
      unfold z0lx50
      go_simp
      refine (HC2.out _ HD1.out).mono ?_
      rintro e V2 ⟨rfl, hd2, hk2⟩
      have HD2 := Lib.hid hd2
      clear hd2
      go_wp2_with fail
      refine hK.out _ _ hk2 (fun hHeld => ?_)
      clear hK K
      refine qsp ?_
      clear hk2
      refine qtl 33 (z0lx51 _) rfl ?_
      refine qtl 34 (z0lx52 _) rfl ?_
      refine qtl 35 (z0lx53 _) rfl ?_
      refine qtl 36 (z0lx54 _) rfl ?_
      refine qtl 37 (z0lx55 _) rfl ?_
      refine qtl 38 (z0lx56 _) rfl ?_
      refine qtl 39 (z0lx57 _) rfl ?_
      refine qtl 40 (z0lx58 _) rfl ?_
      refine qtl 43 (z0lx61 _) rfl ?_
      refine qtl 44 (z0lx62 _) rfl ?_
      refine qtl 45 (z0lx63 _) rfl ?_
      refine qtl 46 (z0lx64 _) rfl ?_
      refine qtl 47 (z0lx65 _) rfl ?_
      refine qtl 48 (z0lx66 _) rfl ?_
      refine qr1 41 (z0lx59 _) rfl fun K hK => ?_
      unfold z0lx59
      go_simp
      refine (HC3.out _ HD2.out).mono ?_
      rintro e V3 ⟨a3, c3, rfl, hd3, hk3⟩
      have HD3 := Lib.hid hd3
      clear hd3
      go_wp2_with fail
      refine hK.out _ _ hk3 (fun hHeld => ?_)
      clear hK K
      refine qsp ?_
      clear hk3
      refine qtl 42 (z0lx60 _) rfl ?_
      refine qr1 49 (z0lx67 _) rfl fun K hK => ?_
      unfold z0lx67
      go_simp
      refine (HC4.out _ HD3.out).mono ?_
      rintro e V4 ⟨a4, c4, rfl, hd4, hk4⟩
      have HD4 := Lib.hid hd4
      clear hd4
      go_wp2_with fail
      refine hK.out _ _ hk4 (fun hHeld => ?_)
      clear hK K
      refine qsp ?_
      clear hk4
      refine qtl 50 (z0lx68 _) rfl ?_
      refine qtl 51 (z0lx69 _) rfl ?_
      refine qtl 52 (z0lx70 _) rfl ?_
      refine qtl 53 (z0lx71 _) rfl ?_
      refine qtl 54 (z0lx72 _) rfl ?_
      refine qdn ?_
      clear hHeld
      go_wp2_with fail
      go_meet
      exact ⟨rfl, HLS.out _ HD4.out⟩
    case rest =>
    obtain ⟨rfl, A9, Za9, Zb9, ht9⟩ := hcut
    rename World => w9
    have HF : Hid (Two w w9 A9 Za9 Zb9 ca cb ((Mn.begun 3).acts 3 (l.take (j + 1))) ((Mn.begun 3).acts 3 (l.take (j + 1))) H oo) := Lib.hid (by rw [HE.out]; exact ht9)
    clear ht9
    go_wp2_with fail
    go_roundw
    case rel => exact ⟨j + 1, A9, Za9, Zb9, by omega, by simp, HF.out⟩
    case measure => simp [intOf]; omega
   ·obtain rfl : j = m := by omega
    have hjm2 : ¬ (j : Int) < (j : Int) := by omega
    have HBF := Lib.hid HTW.out.bel
    go_wp2_with fail
    go_ret
    exact ⟨rfl, HBF.out⟩
end Go.Proofs.Ytnicaicjgaoolaa
