/-
  What the proof of the law leans on: contracts of the program's functions, one behind another. No condition.
-/
import Derived.Test.YtnicaicjgaoolaaRows
import Derived.BigQuiet
import Derived.Deep.QuietTactic
import Derived.BigRegion
import Derived.Deep.OwnRows
import Derived.Lib.AppendStr
import Derived.Test.YtnicaicjgaoolaaS4
import Derived.Test.YtnicaicjgaoolaaS3
import Derived.Test.YtnicaicjgaoolaaS1
set_option linter.unusedVariables false
set_option linter.unusedSimpArgs false
namespace Go.Proofs.Ytnicaicjgaoolaa
open Go.RowKit Go.ChangeMaps Go.WideMaps Go.Maps
set_option maxRecDepth 20000
section
variable (p : String)
def z01x0 : Oper := ⟨some 18, .move (.tmp 5), 84, p, #[], none⟩
def z01x1 : Oper := ⟨some 19, .nilCheck (.tmp 18), 0, p, #[⟨0, .data⟩], none⟩
def z01x2 : Oper := ⟨some 20, .fieldAddr 86 (.tmp 19) 1, 0, p, #[⟨1, .data⟩], none⟩
def z01x3 : Oper := ⟨some 22, .move (.tmp 1), 3, p, #[], none⟩
def z01x4 : Oper := ⟨some 23, .call { callee := Callee.builtin Builtin.max, args := #[.tmp 22, Operand.const (Value.int IntKind.i64 0)], argTypes := #[3, 3] }, 3, p, #[⟨4, .data⟩], none⟩
def z01x5 : Oper := ⟨some 24, .move (.tmp 5), 84, p, #[], none⟩
def z01x6 : Oper := ⟨some 25, .nilCheck (.tmp 24), 0, p, #[⟨6, .data⟩], none⟩
def z01x7 : Oper := ⟨some 26, .fieldAddr 86 (.tmp 25) 0, 0, p, #[⟨7, .data⟩], none⟩
def z01x8 : Oper := ⟨some 29, .move (.tmp 5), 84, p, #[], none⟩
def z01x9 : Oper := ⟨some 30, .nilCheck (.tmp 29), 0, p, #[⟨11, .data⟩], none⟩
def z01x10 : Oper := ⟨some 31, .fieldAddr 86 (.tmp 30) 1, 0, p, #[⟨12, .data⟩], none⟩
def z01x11 : Oper := ⟨some 21, .load 3 (.tmp 20), 3, p, #[⟨2, .data⟩], none⟩
def z01x12 : Oper := ⟨some 27, .load 29 (.tmp 26), 29, p, #[⟨8, .data⟩], none⟩
def z01x13 : Oper := ⟨some 32, .load 3 (.tmp 31), 3, p, #[⟨13, .data⟩], none⟩
def z01x14 : Oper := ⟨some 28, .call { callee := Callee.builtin Builtin.len, args := #[.tmp 27], argTypes := #[29] }, 3, p, #[⟨9, .data⟩], none⟩
def z01x15 : Oper := ⟨some 33, .binOp BinOp.sub 3 (.tmp 28) (.tmp 32) 3, 3, p, #[⟨10, .data⟩, ⟨14, .data⟩], none⟩
def z01x16 : Oper := ⟨some 34, .call { callee := Callee.builtin Builtin.min, args := #[.tmp 23, .tmp 33], argTypes := #[3, 3] }, 3, p, #[⟨5, .data⟩, ⟨15, .data⟩], none⟩
def z01x17 : Oper := ⟨some 35, .binOp BinOp.add 3 (.tmp 21) (.tmp 34) 3, 3, p, #[⟨3, .data⟩, ⟨16, .data⟩], none⟩
def z01x18 : Oper := ⟨some 36, .nilCheck (.tmp 18), 0, p, #[⟨0, .data⟩, ⟨0, .phase⟩, ⟨1, .phase⟩, ⟨2, .phase⟩, ⟨3, .phase⟩, ⟨4, .phase⟩, ⟨5, .phase⟩, ⟨6, .phase⟩, ⟨7, .phase⟩, ⟨8, .phase⟩, ⟨9, .phase⟩, ⟨10, .phase⟩, ⟨11, .phase⟩, ⟨12, .phase⟩, ⟨13, .phase⟩, ⟨14, .phase⟩, ⟨15, .phase⟩, ⟨16, .phase⟩, ⟨17, .phase⟩], none⟩
def z01x19 : Oper := ⟨some 37, .fieldAddr 86 (.tmp 36) 1, 0, p, #[⟨18, .data⟩, ⟨0, .phase⟩, ⟨1, .phase⟩, ⟨2, .phase⟩, ⟨3, .phase⟩, ⟨4, .phase⟩, ⟨5, .phase⟩, ⟨6, .phase⟩, ⟨7, .phase⟩, ⟨8, .phase⟩, ⟨9, .phase⟩, ⟨10, .phase⟩, ⟨11, .phase⟩, ⟨12, .phase⟩, ⟨13, .phase⟩, ⟨14, .phase⟩, ⟨15, .phase⟩, ⟨16, .phase⟩, ⟨17, .phase⟩], none⟩
def z01x20 : Oper := ⟨none, .store 3 (.tmp 37) (.tmp 35), 0, p, #[⟨19, .data⟩, ⟨17, .data⟩, ⟨0, .phase⟩, ⟨1, .phase⟩, ⟨2, .phase⟩, ⟨3, .phase⟩, ⟨4, .phase⟩, ⟨5, .phase⟩, ⟨6, .phase⟩, ⟨7, .phase⟩, ⟨8, .phase⟩, ⟨9, .phase⟩, ⟨10, .phase⟩, ⟨11, .phase⟩, ⟨12, .phase⟩, ⟨13, .phase⟩, ⟨14, .phase⟩, ⟨15, .phase⟩, ⟨16, .phase⟩, ⟨17, .phase⟩], none⟩
def z01x21 : Oper := ⟨some 38, .move (.tmp 5), 84, p, #[], none⟩
def z01x22 : Oper := ⟨some 39, .move (.tmp 5), 84, p, #[], none⟩
def z01x23 : Oper := ⟨some 40, .nilCheck (.tmp 39), 0, p, #[⟨1, .data⟩], none⟩
def z01x24 : Oper := ⟨some 41, .fieldAddr 86 (.tmp 40) 0, 0, p, #[⟨2, .data⟩], none⟩
def z01x25 : Oper := ⟨some 43, .move (.tmp 5), 84, p, #[], none⟩
def z01x26 : Oper := ⟨some 44, .nilCheck (.tmp 43), 0, p, #[⟨5, .data⟩], none⟩
def z01x27 : Oper := ⟨some 45, .fieldAddr 86 (.tmp 44) 1, 0, p, #[⟨6, .data⟩], none⟩
def z01x28 : Oper := ⟨some 46, .load 3 (.tmp 45), 3, p, #[⟨7, .data⟩], none⟩
def z01x29 : Oper := ⟨some 42, .load 29 (.tmp 41), 29, p, #[⟨3, .data⟩], none⟩
def z01x30 : Oper := ⟨some 47, .slice 29 (.tmp 42) none (some (.tmp 46)) none, 29, p, #[⟨4, .data⟩, ⟨8, .data⟩], none⟩
def z01x31 : Oper := ⟨some 48, .call { callee := Callee.value (Operand.func 26), args := #[.tmp 47], argTypes := #[29] }, 29, p, #[⟨9, .data⟩], none⟩
def z01x32 : Oper := ⟨some 49, .nilCheck (.tmp 38), 0, p, #[⟨0, .data⟩, ⟨0, .phase⟩, ⟨1, .phase⟩, ⟨2, .phase⟩, ⟨3, .phase⟩, ⟨4, .phase⟩, ⟨5, .phase⟩, ⟨6, .phase⟩, ⟨7, .phase⟩, ⟨8, .phase⟩, ⟨9, .phase⟩, ⟨10, .phase⟩], none⟩
def z01x33 : Oper := ⟨some 50, .fieldAddr 86 (.tmp 49) 0, 0, p, #[⟨11, .data⟩, ⟨0, .phase⟩, ⟨1, .phase⟩, ⟨2, .phase⟩, ⟨3, .phase⟩, ⟨4, .phase⟩, ⟨5, .phase⟩, ⟨6, .phase⟩, ⟨7, .phase⟩, ⟨8, .phase⟩, ⟨9, .phase⟩, ⟨10, .phase⟩], none⟩
def z01x34 : Oper := ⟨none, .store 29 (.tmp 50) (.tmp 48), 0, p, #[⟨12, .data⟩, ⟨10, .data⟩, ⟨10, .chain⟩, ⟨0, .phase⟩, ⟨1, .phase⟩, ⟨2, .phase⟩, ⟨3, .phase⟩, ⟨4, .phase⟩, ⟨5, .phase⟩, ⟨6, .phase⟩, ⟨7, .phase⟩, ⟨8, .phase⟩, ⟨9, .phase⟩, ⟨10, .phase⟩], none⟩
end
attribute [go_sem, reducible] z01x0 z01x1 z01x2 z01x3 z01x4 z01x5 z01x6 z01x7 z01x8 z01x9 z01x10 z01x11 z01x12 z01x13 z01x14 z01x15 z01x16 z01x17 z01x18 z01x19 z01x20 z01x21 z01x22 z01x23 z01x24 z01x25 z01x26 z01x27 z01x28 z01x29 z01x30 z01x31 z01x32 z01x33 z01x34
theorem z01xm0 {p : Prop} (h : p := by
 go_simp
 refine hK.out _ _ hHeld (fun hHeld => ?_)
 clear hK K
 refine qsp ?_
 refine qr1 17 (z01x17 _) rfl fun K hK => ?_
 unfold z01x17
 go_simp
 refine hK.out _ _ hHeld (fun hHeld => ?_)
 clear hK K
 refine qsp ?_
 refine qr1 18 (z01x18 _) rfl fun K hK => ?_
 unfold z01x18
 go_simp
 refine hK.out _ _ hHeld (fun hHeld => ?_)
 clear hK K
 refine qsp ?_
 refine qr1 19 (z01x19 _) rfl fun K hK => ?_
 unfold z01x19
 go_simp
 refine hK.out _ _ hHeld (fun hHeld => ?_)
 clear hK K
 refine qsp ?_
 refine qr1 20 (z01x20 _) rfl fun K hK => ?_
 unfold z01x20
 go_simp
 refine hK.out _ _ trivial (fun hHeld => ?_)
 clear hK K
 refine qsp ?_
 refine qdn ?_
 go_wp2_with fail
 go_meet
 refine ⟨_, rfl, ?_⟩
 rw [← HKK.out]
 exact IntWalk.i64_in _ (by omega)) : p := h
theorem z01xm1 {p : Prop} (h : p := by
 go_simp
 refine hK.out _ _ hHeld (fun hHeld => ?_)
 clear hK K
 refine qsp ?_
 refine qr1 15 (z01x15 _) rfl fun K hK => ?_
 unfold z01x15
 go_simp
 refine hK.out _ _ hHeld (fun hHeld => ?_)
 clear hK K
 refine qsp ?_
 refine qr1 16 (z01x16 _) rfl fun K hK => ?_
 unfold z01x16
 exact z01xm0) : p := h
theorem z01xm2 {p : Prop} (h : p := by
 go_simp
 refine hK.out _ _ hHeld (fun hHeld => ?_)
 clear hK K
 refine qsp ?_
 refine qr2 3 15 (z01x11 _) (z01x15 _) rfl rfl (fun K hK => ?_) fun K hK => ?_
 ·unfold z01x11
  exact z01xm1
 ·unfold z01x15
  go_simp
  refine hK.out _ _ hHeld (fun hHeld => ?_)
  clear hK K
  refine qsp ?_
  refine qr2 3 16 (z01x11 _) (z01x16 _) rfl rfl (fun K hK => ?_) fun K hK => ?_
  ·unfold z01x11
   go_simp
   refine hK.out _ _ hHeld (fun hHeld => ?_)
   clear hK K
   refine qsp ?_
   refine qr1 16 (z01x16 _) rfl fun K hK => ?_
   unfold z01x16
   exact z01xm0
  ·unfold z01x16
   go_simp
   refine hK.out _ _ hHeld (fun hHeld => ?_)
   clear hK K
   refine qsp ?_
   refine qr1 3 (z01x11 _) rfl fun K hK => ?_
   unfold z01x11
   exact z01xm0) : p := h
theorem z01xm3 {p : Prop} (h : p := by
 go_simp
 refine hK.out _ _ hHeld (fun hHeld => ?_)
 clear hK K
 refine qsp ?_
 refine qr1 10 (z01x14 _) rfl fun K hK => ?_
 unfold z01x14
 exact z01xm1) : p := h
theorem z01xm4 {p : Prop} (h : p := by
 go_simp
 refine hK.out _ _ hHeld (fun hHeld => ?_)
 clear hK K
 refine qsp ?_
 refine qr2 10 14 (z01x14 _) (z01x13 _) rfl rfl (fun K hK => ?_) fun K hK => ?_
 ·unfold z01x14
  go_simp
  refine hK.out _ _ hHeld (fun hHeld => ?_)
  clear hK K
  refine qsp ?_
  refine qr1 14 (z01x13 _) rfl fun K hK => ?_
  unfold z01x13
  exact z01xm1
 ·unfold z01x13
  exact z01xm3) : p := h
theorem z01xm5 {p : Prop} (h : p := by
 go_simp
 refine hK.out _ _ hHeld (fun hHeld => ?_)
 clear hK K
 refine qsp ?_
 refine qr2 3 10 (z01x11 _) (z01x14 _) rfl rfl (fun K hK => ?_) fun K hK => ?_
 ·unfold z01x11
  exact z01xm3
 ·unfold z01x14
  exact z01xm2) : p := h
/-- how many bytes stay -/
def stays (l : List UInt8) (k : Nat) (keep : Int) : Nat := k + (min (max keep 0) (l.length - k : Int)).toNat
def crashF (f : Option (List UInt8 × Nat)) (keep : Int) : Option (List UInt8 × Nat) := match f with | none => none | some (l, k) => some (l.take (stays l k keep), stays l k keep)
def crashD (s : Dk) (keep : Int) : Dk := { s with off := true, file := crashF s.file keep }
theorem stays_le {l : List UInt8} {k : Nat} (keep : Int) (h : k ≤ l.length) : stays l k keep ≤ l.length := by unfold stays; omega
section
variable {w : World} {D : List Nat} {d : Nat} {s : Dk}
theorem isB_take0 {ao : Option Addr} {n c k : Nat} {l : List UInt8} (h : IsB w ao n c l) (hk : k ≤ n) : IsB w ao k c (l.take k) := by
 obtain ⟨h1, h2, h3⟩ := h
 refine ⟨by rw [List.length_take, h1]; omega, fun e => ⟨by have := (h2 e).1; omega, (h2 e).2⟩, ?_⟩
 rcases h3 with h3 | ⟨b, off, h4, h5⟩
 ·exact .inl (by omega)
 ·refine .inr ⟨b, off, h4, fun i hi => ?_⟩
  rw [h5 i (by omega)]
  simp [List.getD, hi]
theorem own_cap {ao : Option Addr} {n c : Nat} {l : List UInt8} (h : OwnB w 0 5 (.slice ao n c) l) : n ≤ c := by
 rcases h.2 with ⟨h0, h1⟩ | ⟨g, cap, cur, hv, _, _, hn, _⟩
 ·cases h0; exact Nat.le_refl _
 ·cases hv; have h1 := h.1; simp at h1; omega
set_option maxHeartbeats 2000000 in
theorem crash_any (h : IsDk w D d s) (keep : Int) (hk0 : -9223372036854775808 ≤ keep) (hk1 : keep ≤ 9223372036854775807) (hl : ∀ l k, s.file = some (l, k) → k ≤ l.length ∧ l.length ≤ 1048576) :
  Calls Try.prog 23 #[.pointer (some ⟨d, 0, none⟩), .int .i64 keep] w fun e w' => ∃ D', e = .returned (.tuple #[]) ∧ IsDk w' D' d (crashD s keep) ∧ Moves D D' w w' := by
 have H0 := Lib.hid h
 obtain ⟨⟨mb, k1, k2, k3⟩, k4, k5⟩ := h
 have hc1 : w.cell? ⟨d, 1, none⟩ = some (.bool s.off) := by rw [cell_heap k1]; rfl
 have hz1 := free_heap k1 1
 have o1 : Only [d] w (w.setCell ⟨d, 1, none⟩ (.bool true)) := (Only.refl _ _).setCell (by simp) _
 have hd1 := heap_set k1 1 (.bool true)
 have hc3 : (w.setCell ⟨d, 1, none⟩ (.bool true)).cell? ⟨d, 3, none⟩ = some (.map (some mb)) := by rw [cell_heap hd1]; rfl
 have k31 := k3.only_d o1 k1
 have HO1 := Lib.hid (o1.mono (T := D) (by simpa using k4)); have HD1 := Lib.hid hd1
 have HK5 : Hid (∀ b ∈ D, b < (w.setCell ⟨d, 1, none⟩ (.bool true)).heap.size) := Lib.hid (fun b hb => Nat.lt_of_lt_of_le (k5 b hb) o1.size)
 cases hfile : s.file with
 | none =>
  rw [hfile] at k31
  obtain ⟨c, hm⟩ := k31
  have HM := Lib.hid hm
  have hr := run_range_map (P := Try.prog) (w.setCell ⟨d, 1, none⟩ (.bool true)) 77 9 84 mb #[] c Try.underlying77 hm
  have hn : ∀ ty, (Instr.next (.pointer (some ⟨(w.setCell ⟨d, 1, none⟩ (.bool true)).heap.size, 0, none⟩)) false ty).run Try.prog ((w.setCell ⟨d, 1, none⟩ (.bool true)).alloc (.mapIter (some mb) c #[] c)) = .ok (.tuple #[.bool false]) ((w.setCell ⟨d, 1, none⟩ (.bool true)).alloc (.mapIter (some mb) c #[] c)) := fun ty => next_no (heap_new _ _) (heap_old hm _)
  have hszq : (w.setCell ⟨d, 1, none⟩ (.bool true)).heap.size = w.heap.size := by simp
  rw [hszq] at hn hr
  clear hszq
  have hap : crashD s keep = ⟨s.room, true, s.lives, none⟩ := by unfold crashD crashF; rw [hfile]
  have HAP := Lib.hid hap
  have HFIN : Hid (IsDk ((w.setCell ⟨d, 1, none⟩ (.bool true)).alloc (.mapIter (some mb) c #[] c)) D d ⟨s.room, true, s.lives, none⟩) := Lib.hid ((⟨⟨mb, hd1, k2, ⟨c, hm⟩⟩, k4, HK5.out⟩ : IsDk (w.setCell ⟨d, 1, none⟩ (.bool true)) D d ⟨s.room, true, s.lives, none⟩).below ((Below.refl _ _).alloc (Nat.le_refl _) _))
  have HMV : Hid (Only D w ((w.setCell ⟨d, 1, none⟩ (.bool true)).alloc (.mapIter (some mb) c #[] c))) := Lib.hid (HO1.out.alloc _)
  clear k1 k2 k3 k4 k5 o1 hd1 hm hap hfile
  go_enter Try.func23, Try.ntmps23
  go_wp2_with fail
  generalize ((w.setCell ⟨d, 1, none⟩ (.bool true)).alloc (.mapIter (some mb) c #[] c)) = w1 at *
  go_loopw [5] (fun _ wr => wr = w1) (fun _ _ => 0)
  case atStart => rfl
  case round =>
   obtain rfl := hrel
   go_wp2_with fail
   go_end0
   exact ⟨D, rfl, by rw [HAP.out]; exact HFIN.out, Moves.of_only HMV.out⟩
 | some p =>
  obtain ⟨l, kk0⟩ := p
  obtain ⟨hkl, hll⟩ := hl l kk0 hfile
  rw [hfile] at k31
  obtain ⟨cc, fb, b0, v, hm, hb0, hfD, hf, ho, hov⟩ := k31
  obtain ⟨w1, w2, hI⟩ := iter1 hm hb0
  obtain ⟨ao, c, rfl, hi⟩ := ho.isB
  have hr := hI.range
  have hn := hI.next
  have he := hI.entry
  have HDN := Lib.hid hI.done
  have HLI := Lib.hid (And.intro hI.l1 hI.l2)
  have HP2 : Hid (Parts w2 D d { s with off := true } l kk0 mb cc fb b0 (.slice ao l.length c)) := Lib.hid ((⟨hd1, hm, hb0, hf, ho, k4, k2, hfD, hov, HK5.out⟩ : Parts (w.setCell ⟨d, 1, none⟩ (.bool true)) D d { s with off := true } l kk0 mb cc fb b0 (.slice ao l.length c)).below hI.b2)
  have HR2 := Lib.hid hI.b2
  have HSZ2 := Lib.hid hI.sz
  have hkk : (stays l kk0 keep : Int) = (kk0 : Int) + min (max keep 0) ((l.length : Int) - (kk0 : Int)) := by unfold stays; omega
  have hap : crashD s keep = ⟨s.room, true, s.lives, some (l.take (stays l kk0 keep), stays l kk0 keep)⟩ := by unfold crashD crashF; rw [hfile]
  have HAP := Lib.hid hap
  have hkl2 := stays_le keep hkl
  generalize hkq : stays l kk0 keep = kk at *
  have HKK := Lib.hid hkk
  clear k1 k2 k3 k4 k5 o1 hd1 hm hap hfile hf ho hov hI hkq hl hkk
  simp only at hn he
  have hszq : (w.setCell ⟨d, 1, none⟩ (.bool true)).heap.size = w.heap.size := by simp
  rw [hszq] at hn hr he HDN HLI HSZ2
  clear hszq
  generalize hX : w.heap.size = X at *
  have HX := Lib.hid hX
  clear hX
  go_enter Try.func23, Try.ntmps23
  go_wp2_with fail
  go_loopw [5] (fun _ wr => wr = w1 ∨ ∃ D' v', wr.heap[X]? = w2.heap[X]? ∧ wr.heap[mb]? = w2.heap[mb]? ∧ Parts wr D' d { s with off := true } (l.take kk) kk mb cc fb b0 v' ∧ Moves D D' w2 wr) (fun _ wr => leftI wr X)
  case atStart => exact .inl rfl
  case round =>
   rcases hrel with rfl | ⟨D', v', r1, r2, r3, r4⟩
   ·have hf0 := HP2.out.hf
    have hc20 : w2.cell? ⟨fb, 0, none⟩ = some (.slice ao l.length c) := by rw [cell_heap hf0]; rfl
    have hc21 : w2.cell? ⟨fb, 1, none⟩ = some (.int .i64 (kk0 : Int)) := by rw [cell_heap hf0]; rfl
    have hz21 := free_heap hf0 1
    have q1 : IntKind.i64.wrap ((l.length : Int) - (kk0 : Int)) = (l.length : Int) - (kk0 : Int) := IntWalk.i64_in _ (by omega)
    clear hf0
    go_upto_region 4 with (fail)
    go_cut [] (fun wx => ∃ y : Int, wx = w2.drew.setCell ⟨fb, 1, none⟩ (.int .i64 y) ∧ y = (kk : Int))
    case first =>
     refine wp_region_held_drew (S := fun w' => True) (by kernel_rfl) trivial (fun hHeld => ?_)
     refine qtl 0 (z01x0 _) rfl ?_
     refine qtl 1 (z01x1 _) rfl ?_
     refine qtl 2 (z01x2 _) rfl ?_
     refine qtl 4 (z01x3 _) rfl ?_
     refine qtl 5 (z01x4 _) rfl ?_
     refine qtl 6 (z01x5 _) rfl ?_
     refine qtl 7 (z01x6 _) rfl ?_
     refine qtl 8 (z01x7 _) rfl ?_
     refine qtl 11 (z01x8 _) rfl ?_
     refine qtl 12 (z01x9 _) rfl ?_
     refine qtl 13 (z01x10 _) rfl ?_
     refine wpAnyH_ready (rs := [3, 9, 14]) (by kernel_rfl) (by simp) ?_
     refine AllReadyH.cons (o := (z01x11 _)) rfl (fun K hK => ?_) (AllReadyH.cons (o := (z01x12 _)) rfl (fun K hK => ?_) (AllReadyH.cons (o := (z01x13 _)) rfl (fun K hK => ?_) AllReadyH.nil))
     ·unfold z01x11
      go_simp
      refine hK.out _ _ hHeld (fun hHeld => ?_)
      clear hK K
      refine qsp ?_
      refine qr2 9 14 (z01x12 _) (z01x13 _) rfl rfl (fun K hK => ?_) fun K hK => ?_
      ·unfold z01x12
       exact z01xm4
      ·unfold z01x13
       go_simp
       refine hK.out _ _ hHeld (fun hHeld => ?_)
       clear hK K
       refine qsp ?_
       refine qr1 9 (z01x12 _) rfl fun K hK => ?_
       unfold z01x12
       exact z01xm3
     ·unfold z01x12
      go_simp
      refine hK.out _ _ hHeld (fun hHeld => ?_)
      clear hK K
      refine qsp ?_
      refine wpAnyH_ready (rs := [3, 10, 14]) (by kernel_rfl) (by simp) ?_
      refine AllReadyH.cons (o := (z01x11 _)) rfl (fun K hK => ?_) (AllReadyH.cons (o := (z01x14 _)) rfl (fun K hK => ?_) (AllReadyH.cons (o := (z01x13 _)) rfl (fun K hK => ?_) AllReadyH.nil))
      ·unfold z01x11
       exact z01xm4
      ·unfold z01x14
       go_simp
       refine hK.out _ _ hHeld (fun hHeld => ?_)
       clear hK K
       refine qsp ?_
       refine qr2 3 14 (z01x11 _) (z01x13 _) rfl rfl (fun K hK => ?_) fun K hK => ?_
       ·unfold z01x11
        go_simp
        refine hK.out _ _ hHeld (fun hHeld => ?_)
        clear hK K
        refine qsp ?_
        refine qr1 14 (z01x13 _) rfl fun K hK => ?_
        unfold z01x13
        exact z01xm1
       ·unfold z01x13
        exact z01xm2
      ·unfold z01x13
       exact z01xm5
     ·unfold z01x13
      go_simp
      refine hK.out _ _ hHeld (fun hHeld => ?_)
      clear hK K
      refine qsp ?_
      refine qr2 3 9 (z01x11 _) (z01x12 _) rfl rfl (fun K hK => ?_) fun K hK => ?_
      ·unfold z01x11
       go_simp
       refine hK.out _ _ hHeld (fun hHeld => ?_)
       clear hK K
       refine qsp ?_
       refine qr1 9 (z01x12 _) rfl fun K hK => ?_
       unfold z01x12
       exact z01xm3
      ·unfold z01x12
       exact z01xm5
    case rest =>
     obtain ⟨y, rfl, rfl⟩ := hcut
     have o4 : Only [fb] w2 (w2.drew.setCell ⟨fb, 1, none⟩ (.int .i64 (kk : Int))) := (Only.refl [fb] w2).drew.setCell (by simp) _
     have hf4 : (w2.drew.setCell ⟨fb, 1, none⟩ (.int .i64 (kk : Int))).heap[fb]? = some (.cells #[.slice ao l.length c, .int .i64 (kk : Int)] 86 (0, 0)) := heap_set (w := w2.drew) HP2.out.hf 1 _
     have hpW := HP2.out.set (s' := { s with off := true }) o4 hf4 HP2.out.ho (fun b hb => hb) HP2.out.vD HP2.out.lt ⟨rfl, rfl, rfl⟩
     have HFX : Hid (fb < X) := Lib.hid (by have := HK5.out fb HP2.out.fD; have := HX.out; simp at *; omega)
     have hiW : IsB (w2.drew.setCell ⟨fb, 1, none⟩ (.int .i64 (kk : Int))) ao l.length c l := by
       obtain ⟨a9, c9, e9, hi9⟩ := hpW.ho.isB
       cases e9
       exact hi9
     clear hc20 hc21 hz21
     go_upto_region 5 with (fail)
     generalize (w2.drew.setCell ⟨fb, 1, none⟩ (.int .i64 (kk : Int))) = W at *
     have hcW : W.drew.cell? ⟨fb, 1, none⟩ = some (.int .i64 (kk : Int)) := by rw [cell_heap (show W.drew.heap[fb]? = _ from hf4)]; rfl
     have HFV : Hid (W.drew.heap[fb]? = some (.cells #[.slice ao l.length c, .int .i64 (kk : Int)] 86 (0, 0))) := Lib.hid hf4
     have HIV : Hid (IsB W.drew ao kk c (l.take kk)) := Lib.hid ((isB_take0 hiW hkl2).below (below_drew1 W))
     have HPV : Hid (Parts W.drew D d { s with off := true } l kk mb cc fb b0 (.slice ao l.length c)) := Lib.hid (hpW.below (below_drew1 W))
     have HOV : Hid (Only [fb] w2 W.drew) := Lib.hid o4.drew
     have hkc : kk ≤ c := Nat.le_trans hkl2 (own_cap hpW.ho)
     clear o4 hf4 hpW hiW
     refine wp_region_held_drew (S := fun w' => w'.cell? ⟨fb, 1, none⟩ = some (.int .i64 (kk : Int))) (by kernel_rfl) hcW (fun hHeld => ?_)
     refine qtl 0 (z01x21 _) rfl ?_
     refine qtl 1 (z01x22 _) rfl ?_
     refine qtl 2 (z01x23 _) rfl ?_
     refine qtl 3 (z01x24 _) rfl ?_
     refine qtl 5 (z01x25 _) rfl ?_
     refine qtl 6 (z01x26 _) rfl ?_
     refine qtl 7 (z01x27 _) rfl ?_
     refine qtl 8 (z01x28 _) rfl ?_
     generalize W.drew = V at *
     refine qr1 4 (z01x29 _) rfl fun K hK => ?_
     unfold z01x29
     have hy0 : V.cell? ⟨fb, 0, none⟩ = some (.slice ao l.length c) := by rw [cell_heap HFV.out]; rfl
     go_simp
     clear hy0
     refine hK.out _ _ hHeld (fun hHeld => ?_)
     clear hK K
     refine qsp ?_
     refine qr1 9 (z01x30 _) rfl fun K hK => ?_
     unfold z01x30
     go_simp
     refine hK.out _ _ hHeld (fun hHeld => ?_)
     clear hK K
     refine qsp ?_
     refine qr1 10 (z01x31 _) rfl fun K hK => ?_
     unfold z01x31
     go_simp
     refine (F.clone_any ao kk c (l.take kk) _ HIV.out (by omega)).mono ?_
     rintro e w5 ⟨v5, rfl, ho5, hb5⟩
     have HB5 := Lib.hid hb5
     have HO5 := Lib.hid ho5
     have hh5 := cell_later hb5 hHeld
     clear ho5 hb5
     go_wp2_with fail
     refine hK.out _ _ hh5 (fun hHeld => ?_)
     clear hK K
     refine qsp ?_
     clear hh5
     refine qr1 11 (z01x32 _) rfl fun K hK => ?_
     unfold z01x32
     go_simp
     refine hK.out _ _ hHeld (fun hHeld => ?_)
     clear hK K
     refine qsp ?_
     refine qr1 12 (z01x33 _) rfl fun K hK => ?_
     unfold z01x33
     go_simp
     refine hK.out _ _ hHeld (fun hHeld => ?_)
     clear hK K
     refine qsp ?_
     refine qr1 13 (z01x34 _) rfl fun K hK => ?_
     unfold z01x34
     have hf5 := heap_below3 HB5.out (lt_of_heap HFV.out) HFV.out
     have hy0 : w5.cell? ⟨fb, 0, none⟩ = some (.slice ao l.length c) := by rw [cell_heap hf5]; rfl
     have hz0 := free_heap hf5 0
     have HF5 := Lib.hid hf5
     obtain ⟨a5, c5, rfl, _⟩ := HO5.out.isB
     have hlk : (l.take kk).length = kk := by rw [List.length_take]; omega
     rw [hlk] at HO5
     clear hf5 hlk
     go_simp
     clear hy0 hz0
     refine hK.out _ _ ((cell_heap (heap_set HF5.out 0 _) 1).trans rfl) (fun hHeld => ?_)
     clear hK K
     refine qsp ?_
     refine qdn ?_
     go_wp2_with fail
     go_roundw
     case rel =>
       have o9 : Only [fb] w5 (w5.setCell ⟨fb, 0, none⟩ (.slice a5 kk c5)) := (Only.refl _ _).setCell (by simp) _
       have hp5 := HPV.out.below HB5.out
       have hv5 := HO5.out.mono (Nat.zero_le _)
       have hlt5 := own_ltB hv5
       have hp9 := hp5.set (D' := D ++ (Value.slice a5 kk c5).ownBlock.toList) (s' := { s with off := true }) o9 (heap_set HF5.out 0 _) hv5 (fun b hb => by simp [hb]) (fun j hj => by simp [hj]) (fun b hb => by
         simp only [List.mem_append, Option.mem_toList] at hb
         rcases hb with hb | hb
         ·exact hp5.lt b hb
         ·exact hlt5 b hb) ⟨rfl, rfl, rfl⟩
       have oall : Only [fb] w2 (w5.setCell ⟨fb, 0, none⟩ (.slice a5 kk c5)) := (HOV.out.trans (Only.ofBelow HB5.out [fb])).trans o9
       have n2 : mb ≠ fb := block_ne HPV.out.hm HPV.out.hf (by simp)
       have n1 : X ≠ fb := by have := HFX.out; omega
       have hXlt : X < w2.heap.size := by rw [HSZ2.out]; omega
       have hszV : w2.heap.size ≤ V.heap.size := HOV.out.size
       refine .inr ⟨_, _, oall.block X hXlt (by simpa using n1), oall.block mb (lt_of_heap HP2.out.hm) (by simpa using n2), hp9, oall.mono (by simpa using HPV.out.fD), fun b hb => ?_, fun b hb => by simp [hb]⟩
       simp only [List.mem_append, Option.mem_toList] at hb
       rcases hb with hb | hb
       · exact .inl hb
       · exact .inr (Nat.le_trans hszV (HO5.out.lt b hb).1)
     case measure =>
       have o9 : Only [fb] w5 (w5.setCell ⟨fb, 0, none⟩ (.slice a5 kk c5)) := (Only.refl _ _).setCell (by simp) _
       have oall : Only [fb] w2 (w5.setCell ⟨fb, 0, none⟩ (.slice a5 kk c5)) := (HOV.out.trans (Only.ofBelow HB5.out [fb])).trans o9
       have n1 : X ≠ fb := by have := HFX.out; omega
       have hXlt : X < w2.heap.size := by rw [HSZ2.out]; omega
       rw [leftI_block (oall.block X hXlt (by simpa using n1)), HLI.out.1, HLI.out.2]
       omega
   ·have hd := HDN.out
    have hd2 := fun ty => hd ty wr r1 r2
    have R3 := Lib.hid r3; have R4 := Lib.hid r4
    clear hd hn he r1 r2 r3 r4
    go_wp2_with fail
    go_end0
    exact ⟨D', rfl, by rw [HAP.out]; exact (⟨R3.out.hd, R3.out.hm, R3.out.hb, R3.out.hf, R3.out.ho, R3.out.dD, R3.out.mD, R3.out.fD, R3.out.vD, R3.out.lt⟩ : Parts wr D' d ⟨s.room, true, s.lives, some (l.take kk, kk)⟩ (l.take kk) kk mb cc fb b0 v').dk rfl, ((Moves.of_only HO1.out).trans (Moves.of_only (Only.ofBelow HR2.out D))).trans R4.out⟩
end
end Go.Proofs.Ytnicaicjgaoolaa
namespace Go.Proofs.Ytnicaicjgaoolaa
open Go.RowKit

theorem info5 : (Try.prog.info? 5).map (fun i => (i.zero, i.size, i.bytes)) = some (some (.int .u8 0), 1, 1) := by kernel_rfl

/-- the byte of place i, of eight, of a number -/
def byteAt (z : Int) (i : Nat) : UInt8 := UInt8.ofNat ((BitVec.ofInt 64 z).toNat / 2 ^ (8 * (7 - i)))
/-- the eight bytes of a number -/
def be8 (z : Int) : List UInt8 := [byteAt z 0, byteAt z 1, byteAt z 2, byteAt z 3, byteAt z 4, byteAt z 5, byteAt z 6, byteAt z 7]

theorem byteAt_eq (z : Int) (k : Nat) : IntKind.u64.wrap z / 2 ^ (8 * (7 - k)) % 256 = ((byteAt z k).toNat : Int) := by
 have h1 : IntKind.u64.wrap z = ((BitVec.ofInt 64 z).toNat : Int) := by
  have h0 : ((BitVec.ofInt 64 z).toNat : Int) = z % 18446744073709551616 := by
   rw [BitVec.toNat_ofInt]
   have : (0 : Int) ≤ z % ((2 ^ 64 : Nat) : Int) := Int.emod_nonneg _ (by decide)
   rw [Int.toNat_of_nonneg this]; rfl
  rw [h0]
  simp [IntKind.wrap, IntKind.bits, IntKind.signed]
 rw [h1]
 unfold byteAt
 generalize (BitVec.ofInt 64 z).toNat = m
 rw [UInt8.toNat_ofNat']
 generalize 8 * (7 - k) = e
 have : ((2 : Int) ^ e) = ((2 ^ e : Nat) : Int) := by rw [Int.natCast_pow]; rfl
 rw [this]
 generalize (2 : Nat) ^ e = q
 rw [Int.natCast_emod, Int.natCast_ediv]
 rfl
theorem byte_cells (z : Int) (k : Nat) : #[Value.int .u8 (IntKind.u64.wrap z / 2 ^ (8 * (7 - k)) % 256)] = ([byteAt z k].map bv).toArray := by
 rw [byteAt_eq]; rfl
theorem be8_len (z : Int) : (be8 z).length = 8 := rfl
theorem be8_take (z : Int) (k : Nat) (h : k < 8) : (be8 z).take (k + 1) = (be8 z).take k ++ [byteAt z k] := by
 rcases k with _ | _ | _ | _ | _ | _ | _ | _ | k
 all_goals first | rfl | omega

set_option maxHeartbeats 400000 in
theorem i64_any (ao : Option Addr) (n c : Nat) (l : List UInt8) (z : Int) (w : World) (h : IsB w ao n c l) (hn : n ≤ 70368744177664) :
  Calls Try.prog 69 #[.slice ao n c, .int .i64 z] w fun e w' => ∃ v, e = .returned v ∧ OwnB w' w.heap.size 5 v (l ++ be8 z) ∧ Below w.heap.size w w' := by
 have hlen := h.len
 have hb1 : ([] : List UInt8).length + n ≤ 140737488355328 := by simp; omega
 have HB := Lib.hid h; clear h
 go_enter Try.func69, Try.ntmps69
 go_wp2_with (at_builtin; refine wpList_append_bytes rfl _ _ 29 rfl w.heap.size 5 Try.underlying29 info5 _ [] rfl (OwnB.new _ _ _ [] _ rfl _ rfl (by exact Nat.le_refl _) 0 rfl (by decide)) _ _ _ _ rfl (HB.out.alloc _) hb1 (by simp) ?_; intro v' w2 hown' hgr hb2)
 have hb3 : Below w.heap.size w w2 := ((Below.refl _ _).alloc (Nat.le_refl _) _).trans hb2
 rw [List.nil_append] at hown'
 clear hgr hb2 HB
 have HL := Lib.hid hlen; clear hlen
 go_loopw [5, 6] (fun v i wr => ∃ k : Nat, k ≤ 8 ∧ i = .int .i64 (7 - (k : Int)) ∧ OwnB wr w.heap.size 5 v (l ++ (be8 z).take k) ∧ Below w.heap.size w wr) (fun _ i _ => (intOf i + 1).toNat)
 case atStart => exact ⟨0, by omega, rfl, by simpa using hown', hb3⟩
 case round =>
  obtain ⟨k, hk, rfl, hown, hbl⟩ := hrel
  by_cases hlt : k < 8
  ·have hc1 : (l ++ (be8 z).take k).length + 1 ≤ 140737488355328 := by
    have := HL.out
    rw [List.length_append, List.length_take]; omega
   have hc2 := hbl.size
   go_wp2_with (at_builtin; refine wpList_append_bytes rfl _ _ 29 rfl w.heap.size 5 Try.underlying29 info5 _ _ rfl (hown.alloc _) _ _ _ [byteAt z k] rfl (isB_new _ [byteAt z k] _ (byte_cells z k) _ _ _ rfl 1 rfl _) hc1 (by simp; omega) ?_; intro v3 w3 hown3 hgr3 hb4; clear hown)
   go_roundw
   case rel => exact ⟨k + 1, by omega, by go_num, by rw [be8_take z k hlt, ← List.append_assoc]; exact hown3, (hbl.alloc hc2 _).trans hb4⟩
   case measure => simp [intOf]; omega
  ·go_wp2
   go_ret
   obtain rfl : k = 8 := by omega
   exact ⟨_, rfl, by simpa [List.take_of_length_le, be8] using hown, hbl⟩

/-- APPEND of a text's bytes -/
theorem wpList_append_text {P : Program} {w : World} {ops : Array Oper} {rest : List Oper} {o : Oper} {a : Act} {Q : Exit → Act → World → Prop} (hgd : o.guard = none) (sl x : Operand) (t u : TypeId)
  (ho : o.op = .call { callee := .builtin .append, args := #[sl, x], argTypes := #[t, u] })
  (base : Nat) (e : TypeId) (ht : P.underlying t = some (.slice e)) (hu : P.underlying u = some .string) (hi : (P.info? e).map (fun i => (i.zero, i.size, i.bytes)) = some (some (.int .u8 0), 1, 1))
  (v : Value) (l : List UInt8) (hs : a.eval sl = v) (hown : OwnB w base e v l) (s : ByteArray) (hx : a.eval x = .string s)
  (hbytes : l.length + s.size ≤ 140737488355328) (hbase : base ≤ w.heap.size)
  (h : ∀ v' w', OwnB w' base e v' (l ++ s.data.toList) → w.grownBy w' v.ownBlock → Below base w w' → wpList P ops Q rest (a.put o.dst v') w') : wpList P ops Q (o :: rest) a w := by
 obtain ⟨i0, hi0, hz0, hz1, hz2⟩ := info_parts hi
 have hb : ∀ w', w.grownBy w' v.ownBlock → Below base w w' := fun w' hg => (Below.refl base w).grown hg hbase (fun k hk => (hown.lt k hk).1)
 refine Lib.wpList_append_own_string w hgd sl x t u ho base e i0 ht hu hi0 hz0 hz1 hz2 v _ _ hs hown s hx (by unfold maxLen; omega) hbytes hbase ?_
 intro v' w' g1 g2 _
 refine h v' w' ?_ g2 (hb w' g2)
 unfold OwnB
 rw [List.length_append, List.map_append]
 exact g1

/-- a text in bytes: its length, and it -/
def txt (s : ByteArray) : List UInt8 := be8 (s.size : Int) ++ s.data.toList
theorem size_list (s : ByteArray) : s.data.toList.length = s.size := rfl
set_option maxHeartbeats 400000 in
theorem text_any (ao : Option Addr) (n c : Nat) (l : List UInt8) (s : ByteArray) (w : World) (h : IsB w ao n c l) (hn : n ≤ 1099511627776) (hs : s.size ≤ 1099511627776) :
  Calls Try.prog 66 #[.slice ao n c, .string s] w fun e w' => ∃ v, e = .returned v ∧ OwnB w' w.heap.size 5 v (l ++ txt s) ∧ Below w.heap.size w w' := by
 have hlen := h.len
 go_enter Try.func66, Try.ntmps66
 go_wp2_with fail
 refine (i64_any ao n c l _ w h (by omega)).mono ?_
 rintro e w1 ⟨v, rfl, hown, hb⟩
 have hl : (l ++ be8 (s.size : Int)).length + s.size ≤ 140737488355328 := by rw [List.length_append, be8_len]; omega
 have hz := hb.size
 clear h hlen
 go_wp2_with (at_builtin; refine wpList_append_text rfl _ _ 29 9 rfl w.heap.size 5 Try.underlying29 Try.underlying9 info5 _ _ rfl hown _ rfl hl hz ?_; intro v3 w3 hown3 hgr3 hb4; clear hown)
 go_ret
 exact ⟨_, rfl, by simpa [txt, List.append_assoc] using hown3, hb.trans hb4⟩

def be8s (zs : List Int) : List UInt8 := zs.flatMap be8
theorem be8s_len (zs : List Int) : (be8s zs).length = 8 * zs.length := by
 induction zs with
 | nil => rfl
 | cons z zs ih => simp only [be8s, List.flatMap_cons, List.length_append, be8_len, List.length_cons] at ih ⊢; omega
theorem take_oneI (l : List Int) (k : Nat) (h : k < l.length) : l.take (k + 1) = l.take k ++ [l.getD k 0] := by
 rw [List.take_succ_eq_append_getElem h]
 simp [h]
theorem be8s_take (zs : List Int) (k : Nat) (h : k < zs.length) : be8s (zs.take (k + 1)) = be8s (zs.take k) ++ be8 (zs.getD k 0) := by
 rw [take_oneI zs k h]; simp [be8s]

set_option maxHeartbeats 400000 in
theorem pall_any (ao : Option Addr) (n c : Nat) (l : List UInt8) (ai : Option Addr) (m ci : Nat) (zs : List Int) (w : World) (h : IsB w ao n c l) (hi : IsI w ai m ci zs) (hn : n ≤ 1099511627776) (hm : m ≤ 1099511627776) :
  Calls Try.prog 51 #[.slice ao n c, .slice ai m ci] w fun e w' => ∃ v, e = .returned v ∧ OwnB w' w.heap.size 5 v (l ++ be8s zs) ∧ Below w.heap.size w w' := by
 have hlen := h.len
 have hb1 : ([] : List UInt8).length + n ≤ 140737488355328 := by simp; omega
 have HB := Lib.hid h; clear h
 have HI := Lib.hid hi; clear hi
 go_enter Try.func51, Try.ntmps51
 go_wp2_with (at_builtin; refine wpList_append_bytes rfl _ _ 29 rfl w.heap.size 5 Try.underlying29 info5 _ [] rfl (OwnB.new _ _ _ [] _ rfl _ rfl (by exact Nat.le_refl _) 0 rfl (by decide)) _ _ _ _ rfl (HB.out.alloc _) hb1 (by simp) ?_; intro v' w2 hown' hgr hb2)
 have hb3 : Below w.heap.size w w2 := ((Below.refl _ _).alloc (Nat.le_refl _) _).trans hb2
 rw [List.nil_append] at hown'
 clear hgr hb2 HB
 have HL := Lib.hid hlen; clear hlen
 go_loopw [5, 13] (fun v i wr => ∃ k : Nat, k ≤ m ∧ i = .int .i64 (k : Int) ∧ OwnB wr w.heap.size 5 v (l ++ be8s (zs.take k)) ∧ Below w.heap.size w wr) (fun _ i _ => m - (intOf i).toNat)
 case atStart => exact ⟨0, by omega, rfl, by simpa [be8s] using hown', hb3⟩
 case round =>
  obtain ⟨k, hk, rfl, hown, hbl⟩ := hrel
  have hzl := HI.out.len
  by_cases hlt : k < m
  ·obtain ⟨ag, rfl⟩ : ∃ ag : Nat × Nat, ai = some ⟨ag.1, ag.2, none⟩ := by
    rcases HI.out.at_ with h0 | ⟨b, off, h1, h2⟩
    ·omega
    ·exact ⟨(b, off), h1⟩
   have hcell : wr.cell? ⟨ag.1, ag.2 + k, none⟩ = some (.int .i64 (zs.getD k 0)) := by
    rcases HI.out.at_ with h0 | ⟨b, off, h1, h2⟩
    ·omega
    ·have := cell_later hbl (h2 k hlt)
     cases h1
     exact this
   have htk := be8s_take zs k (by omega)
   generalize zs.getD k 0 = z at hcell htk
   have HT := Lib.hid htk; clear htk
   have hc2 := hbl.size
   obtain ⟨a1, c1, rfl, hb1⟩ := hown.isB
   have hll : (l ++ be8s (zs.take k)).length ≤ 70368744177664 := by
    have := HL.out
    rw [List.length_append, be8s_len, List.length_take]; omega
   generalize (l ++ be8s (zs.take k)).length = nn at hown hb1 hll
   have HW := Lib.hid hown; clear hown
   have HB1 := Lib.hid hb1; clear hb1 hzl
   go_wp2_with fail
   refine (i64_any _ _ _ _ _ _ HB1.out hll).mono ?_
   rintro e w3 ⟨v3, rfl, hown3, hb3⟩
   go_wp2_with fail
   go_roundw
   case rel => exact ⟨k + 1, by omega, by go_num, by rw [HT.out, ← List.append_assoc]; exact hown3.mono hc2, hbl.trans (hb3.mono hc2)⟩
   case measure => simp [intOf]; omega
  ·go_wp2
   go_ret
   obtain rfl : k = m := by omega
   rw [List.take_of_length_le (by omega)] at hown
   exact ⟨_, rfl, hown, hbl⟩
end Go.Proofs.Ytnicaicjgaoolaa
