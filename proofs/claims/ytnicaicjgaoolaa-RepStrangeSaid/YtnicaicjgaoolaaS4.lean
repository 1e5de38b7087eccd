/-
  What the proof of the law leans on: contracts of the program's functions, one behind another. No condition.
-/
import Derived.Deep.DeepCutAuto
import Derived.Deep.CutBlock
import Derived.Deep.RegionHeld
import Derived.Deep.RegionHeld3
import Derived.Deep.RegionWith
import Derived.Deep.RegionLaw
import Derived.BigRegion
import Derived.Test.YtnicaicjgaoolaaS3
set_option linter.unusedVariables false
set_option linter.unusedSimpArgs false
namespace Go.Proofs.Ytnicaicjgaoolaa
open Go.RowKit Go.ChangeMaps Go.WideMaps Go.Maps
set_option maxRecDepth 20000
section
variable (p : String)
def z00x0 : Oper := ⟨some 16, .move (.tmp 2), 29, p, #[], none⟩
def z00x1 : Oper := ⟨some 17, .call { callee := Callee.builtin Builtin.len, args := #[.tmp 16], argTypes := #[29] }, 3, p, #[⟨0, .data⟩], none⟩
def z00x2 : Oper := ⟨some 18, .move (.tmp 0), 54, p, #[], none⟩
def z00x3 : Oper := ⟨some 19, .nilCheck (.tmp 18), 0, p, #[⟨2, .data⟩], none⟩
def z00x4 : Oper := ⟨some 20, .fieldAddr 79 (.tmp 19) 0, 0, p, #[⟨3, .data⟩], none⟩
def z00x5 : Oper := ⟨some 21, .load 3 (.tmp 20), 3, p, #[⟨4, .data⟩], none⟩
def z00x6 : Oper := ⟨some 22, .move (.tmp 0), 54, p, #[], none⟩
def z00x7 : Oper := ⟨some 23, .call { callee := Callee.value (Operand.func 89), args := #[.tmp 22], argTypes := #[54] }, 3, p, #[⟨6, .data⟩], none⟩
def z00x8 : Oper := ⟨some 24, .binOp BinOp.sub 3 (.tmp 21) (.tmp 23) 3, 3, p, #[⟨5, .data⟩, ⟨7, .data⟩], none⟩
def z00x9 : Oper := ⟨some 25, .binOp BinOp.gtr 3 (.tmp 17) (.tmp 24) 3, 4, p, #[⟨1, .data⟩, ⟨8, .data⟩], none⟩
end
attribute [go_sem, reducible] z00x0 z00x1 z00x2 z00x3 z00x4 z00x5 z00x6 z00x7 z00x8 z00x9
theorem below_drew1 (w : World) : Below w.heap.size w w.drew := ⟨rfl, rfl, rfl, Nat.le_refl _, fun _ _ => rfl⟩
def appF (f : Option (List UInt8 × Nat)) (l : List UInt8) : Option (List UInt8 × Nat) := match f with | none => some (l, 0) | some (m, k) => some (m ++ l, k)
def appD (s : Dk) (l : List UInt8) : Dk := { s with file := appF s.file l }
section
variable {w : World} {D : List Nat} {d : Nat} {s : Dk}
set_option maxHeartbeats 1000000 in
theorem append_full (h : IsDk w D d s) (ho : s.off = false) (t : ByteArray) (ht : GoodN t) (ao : Option Addr) (n c : Nat) (hr : s.room - (s.total : Int) < (n : Int)) (h0 : 0 ≤ s.room) (h1 : s.room ≤ 1048576) (h2 : (s.total : Int) ≤ s.room) :
  Calls Try.prog 80 #[.pointer (some ⟨d, 0, none⟩), .string t, .slice ao n c] w fun e w' => e = .returned (.int .i64 9) ∧ Below w.heap.size w w' := by
 have hb : Below w.heap.size w (w.alloc (.cells #[.string t] 9)) := (Below.refl _ _).alloc (Nat.le_refl _) _
 have hW := h.below hb
 have HM := Lib.hid (may_on hW ho w.heap.size t (by rw [cell_heap (heap_new _ _)]; rfl) ht)
 have HB := Lib.hid hb
 have HTO : Hid (∀ w', Below (w.alloc (.cells #[.string t] 9)).heap.size (w.alloc (.cells #[.string t] 9)) w' → Calls Try.prog 89 #[.pointer (some ⟨d, 0, none⟩)] w' fun e w'' => e = .returned (.int .i64 (s.total : Int)) ∧ Below w'.heap.size w' w'') := Lib.hid fun w' hb => total_any (hW.below hb)
 obtain ⟨⟨mb, k1, _⟩, _⟩ := hW
 have hr0 : ∀ w', Below (w.alloc (.cells #[.string t] 9)).heap.size (w.alloc (.cells #[.string t] 9)) w' → w'.cell? ⟨d, 0, none⟩ = some (.int .i64 s.room) := fun w' hb => by rw [cell_heap (heap_below3 hb (lt_of_heap k1) k1)]; rfl
 clear h hb k1
 generalize s.total = T at *
 generalize s.room = R at *
 have q1 : IntKind.i64.wrap (R - (T : Int)) = R - (T : Int) := IntWalk.i64_in _ (by omega)
 go_enter Try.func80, Try.ntmps80
 go_wp2_with fail
 refine HM.out.mono ?_
 rintro e w1 ⟨rfl, rfl⟩
 go_upto_region 4 with (fail)
 generalize w.alloc (.cells #[.string t] 9) = W at *
 refine wp_region_held_drew (S := fun w' => Below W.heap.size W w') (by kernel_rfl) (below_drew1 W) (fun hHeld => ?_)
 refine qtl 0 (z00x0 _) rfl ?_
 refine qtl 1 (z00x1 _) rfl ?_
 refine qtl 2 (z00x2 _) rfl ?_
 refine qtl 3 (z00x3 _) rfl ?_
 refine qtl 4 (z00x4 _) rfl ?_
 refine qtl 5 (z00x5 _) rfl ?_
 refine qtl 6 (z00x6 _) rfl ?_
 refine qr1 7 (z00x7 _) rfl fun K hK => ?_
 unfold z00x7
 go_simp
 refine (HTO.out _ (by exact below_drew1 _)).mono ?_
 rintro e w5 ⟨rfl, hb5⟩
 have HB5 := Lib.hid hb5
 go_wp2_with fail
 refine hK.out _ _ (hHeld.trans (hb5.mono hHeld.size)) (fun hHeld => ?_)
 clear hK K
 refine qsp ?_
 clear hb5
 refine qr1 8 (z00x8 _) rfl fun K hK => ?_
 unfold z00x8
 go_simp
 refine hK.out _ _ hHeld (fun hHeld => ?_)
 clear hK K
 refine qsp ?_
 refine qr1 9 (z00x9 _) rfl fun K hK => ?_
 unfold z00x9
 go_simp
 refine hK.out _ _ hHeld (fun hHeld => ?_)
 clear hK K
 refine qsp ?_
 refine qdn ?_
 go_wp2_with fail
 go_ret
 exact ⟨rfl, HB.out.trans (((below_drew1 W).trans (HB5.out.mono (Nat.le_refl _))).mono HB.out.size)⟩
theorem block_ne {w : World} {a b : Nat} {x y : Obj} (h1 : w.heap[a]? = some x) (h2 : w.heap[b]? = some y) (hne : x ≠ y) : a ≠ b := by
 intro e
 rw [e, h2] at h1
 exact hne (Option.some.inj h1).symm
theorem own_ne {w : World} {b : Nat} {v : Value} {l : List UInt8} {o : Obj} (ho : OwnB w 0 5 v l) (h : w.heap[b]? = some o) (hne : ∀ cur, o ≠ .cells cur 5 (0, 0)) : b ∉ v.ownBlock.toList := by
 intro hm
 have hk : v.ownBlock = some b := by simpa using hm
 rcases ho.2 with ⟨rfl, _⟩ | ⟨g, cap, cur, rfl, _, hg, _⟩
 ·simp [Value.ownBlock] at hk
 ·simp [Value.ownBlock] at hk
  subst hk
  rw [hg] at h
  exact hne cur (Option.some.inj h).symm
theorem own_keepB {w w' : World} {S : List Nat} {v : Value} {l : List UInt8} (ho : OwnB w 0 5 v l) (h : Only S w w') (hS : ∀ k, v.ownBlock = some k → k ∉ S) : OwnB w' 0 5 v l := rows_only0 ho h hS
theorem own_ltB {w : World} {v : Value} {l : List UInt8} (ho : OwnB w 0 5 v l) : ∀ k, v.ownBlock = some k → k < w.heap.size := fun k hk => (ho.lt k hk).2
/-- a file whose bytes are laid anew -/
theorem dk_final {w8 : World} {D' : List Nat} {d mb fb cc b0 : Nat} {room lives : Int} {off : Bool} {x v8 : Value} {safe : Nat} {l8 : List UInt8}
  (k1 : w8.heap[d]? = some (.cells #[.int .i64 room, .bool off, .int .i64 lives, .map (some mb)] 79 (0, 0))) (m8 : w8.heap[mb]? = some (.map #[⟨.string logA, .pointer (some ⟨fb, 0, none⟩), b0⟩] cc)) (hb0 : b0 < cc)
  (f8 : w8.heap[fb]? = some (.cells #[x, .int .i64 (safe : Int)] 86 (0, 0))) (o8 : OwnB w8 0 5 v8 l8) (hd : d ∈ D') (hm : mb ∈ D') (hf : fb ∈ D') (ho : ∀ k, v8.ownBlock = some k → k ∈ D') (hlt : ∀ b ∈ D', b < w8.heap.size) :
  IsDk (w8.setCell ⟨fb, 0, none⟩ v8) D' d ⟨room, off, lives, some (l8, safe)⟩ := by
 have ow : Only [fb] w8 (w8.setCell ⟨fb, 0, none⟩ v8) := (Only.refl _ _).setCell (by simp) _
 have n1 : d ≠ fb := block_ne k1 f8 (by simp)
 have n2 : mb ≠ fb := block_ne m8 f8 (by simp)
 have n3 : fb ∉ v8.ownBlock.toList := own_ne o8 f8 (by simp)
 refine ⟨⟨mb, ow.keeps k1 (by simpa using n1), hm, cc, fb, b0, v8, ow.keeps m8 (by simpa using n2), hb0, hf, heap_set f8 0 v8, own_keepB o8 ow (fun k hk hm => ?_), ho⟩, hd, fun b hb => Nat.lt_of_lt_of_le (hlt b hb) ow.size⟩
 rw [List.mem_singleton.1 hm] at hk
 exact n3 (by rw [hk]; simp)
theorem logA_20 : logA.size ≤ 20 := by decide
set_option maxHeartbeats 2000000 in
theorem append_ok (h : IsDk w D d s) (ho : s.off = false) (ao : Option Addr) (n c : Nat) (l : List UInt8) (hi : IsB w ao n c l) (hr : (n : Int) ≤ s.room - (s.total : Int)) (h1 : s.room ≤ 1048576) :
  Calls Try.prog 80 #[.pointer (some ⟨d, 0, none⟩), .string logA, .slice ao n c] w fun e w' => ∃ D', e = .returned (.int .i64 0) ∧ IsDk w' D' d (appD s l) ∧ Moves D D' w w' := by
 have hb : Below w.heap.size w (w.alloc (.cells #[.string logA] 9)) := (Below.refl _ _).alloc (Nat.le_refl _) _
 have hW := h.below hb
 have HM := Lib.hid (may_on hW ho w.heap.size logA (by rw [cell_heap (heap_new _ _)]; rfl) good_log)
 have HB := Lib.hid hb
 have HI := Lib.hid (hi.below hb)
 have HTO : Hid (∀ w', Below (w.alloc (.cells #[.string logA] 9)).heap.size (w.alloc (.cells #[.string logA] 9)) w' → Calls Try.prog 89 #[.pointer (some ⟨d, 0, none⟩)] w' fun e w'' => e = .returned (.int .i64 (s.total : Int)) ∧ Below w'.heap.size w' w'') := Lib.hid fun w' hb => total_any (hW.below hb)
 have HW := Lib.hid hW
 obtain ⟨⟨mb, k1, k2, k3⟩, k4, k5⟩ := hW
 have hr0 : ∀ w', Below (w.alloc (.cells #[.string logA] 9)).heap.size (w.alloc (.cells #[.string logA] 9)) w' → w'.cell? ⟨d, 0, none⟩ = some (.int .i64 s.room) := fun w' hb => by rw [cell_heap (heap_below3 hb (lt_of_heap k1) k1)]; rfl
 have HK := Lib.hid (And.intro k1 (And.intro k2 (And.intro k3 (And.intro k4 k5))))
 have h2 : (0 : Int) ≤ (s.total : Int) := by omega
 clear h hb k1 k2 k3 k4 k5 hi
 generalize hTT : s.total = T at *
 generalize hRR : s.room = R at *
 have q1 : IntKind.i64.wrap (R - (T : Int)) = R - (T : Int) := IntWalk.i64_in _ (by omega)
 have HTT := Lib.hid hTT; have HRR := Lib.hid hRR
 clear hTT hRR
 go_enter Try.func80, Try.ntmps80
 go_wp2_with fail
 refine HM.out.mono ?_
 rintro e w1 ⟨rfl, rfl⟩
 go_upto_region 4 with (fail)
 generalize w.alloc (.cells #[.string logA] 9) = W at *
 refine wp_region_held_drew (S := fun w' => Below W.heap.size W w') (by kernel_rfl) (below_drew1 W) (fun hHeld => ?_)
 refine qtl 0 (z00x0 _) rfl ?_
 refine qtl 1 (z00x1 _) rfl ?_
 refine qtl 2 (z00x2 _) rfl ?_
 refine qtl 3 (z00x3 _) rfl ?_
 refine qtl 4 (z00x4 _) rfl ?_
 refine qtl 5 (z00x5 _) rfl ?_
 refine qtl 6 (z00x6 _) rfl ?_
 refine qr1 7 (z00x7 _) rfl fun K hK => ?_
 unfold z00x7
 go_simp
 refine (HTO.out _ (by exact below_drew1 _)).mono ?_
 rintro e w5 ⟨rfl, hb5⟩
 have HB5 := Lib.hid hb5
 go_wp2_with fail
 refine hK.out _ _ (hHeld.trans (hb5.mono hHeld.size)) (fun hHeld => ?_)
 clear hK K
 refine qsp ?_
 clear hb5
 refine qr1 8 (z00x8 _) rfl fun K hK => ?_
 unfold z00x8
 go_simp
 refine hK.out _ _ hHeld (fun hHeld => ?_)
 clear hK K
 refine qsp ?_
 refine qr1 9 (z00x9 _) rfl fun K hK => ?_
 unfold z00x9
 go_simp
 refine hK.out _ _ hHeld (fun hHeld => ?_)
 clear hK K
 refine qsp ?_
 refine qdn ?_
 have hb6 : Below W.heap.size W w5 := (below_drew1 W).trans HB5.out
 have HI5 := Lib.hid (HI.out.below hb6)
 have HB6 := Lib.hid (HB.out.trans (hb6.mono HB.out.size))
 obtain ⟨k1, k2, k3, k4, k5⟩ := HK.out
 have K1 := Lib.hid (heap_below3 hb6 (lt_of_heap k1) k1)
 have K3 := Lib.hid (k3.keep (Only.ofBelow hb6 []) k2 (fun b _ => by simp))
 have K5 : Hid (∀ b ∈ D, b < w5.heap.size) := Lib.hid (fun b hb => Nat.lt_of_lt_of_le (k5 b hb) hb6.size)
 have hc3 : w5.cell? ⟨d, 3, none⟩ = some (.map (some mb)) := by rw [cell_heap K1.out]; rfl
 have hWsz := hb6.size
 clear k1 k3 k5 hb6 hr0 hHeld HW HK HM HTO
 cases hfile : s.file with
 | none =>
  rw [hfile] at K3
  obtain ⟨cc, hm⟩ := K3.out
  have hl := look_no hm logA logA_20
  have hm6 := heap_old hm (.cells #[.slice none 0 0, .int .i64 0] 86)
  have hput := put_new hm6 logA (.pointer (some ⟨w5.heap.size, 0, none⟩)) logA_20
  have o7 := setBlock_only (w5.alloc (.cells #[.slice none 0 0, .int .i64 0] 86)) mb (.map #[⟨.string logA, .pointer (some ⟨w5.heap.size, 0, none⟩), cc⟩] (cc + 1))
  have hmlt := lt_of_heap hm
  have m7 := setBlock_at (w5.alloc (.cells #[.slice none 0 0, .int .i64 0] 86)) mb (.map #[⟨.string logA, .pointer (some ⟨w5.heap.size, 0, none⟩), cc⟩] (cc + 1)) (lt_of_heap hm6)
  have f7 := o7.keeps (heap_new w5 (.cells #[.slice none 0 0, .int .i64 0] 86)) (by simp; omega)
  have dne : d ≠ mb := block_ne K1.out hm (by simp)
  have k7 := o7.keeps (heap_old K1.out (.cells #[.slice none 0 0, .int .i64 0] 86)) (by simpa using dne)
  have hc6 : (w5.alloc (.cells #[.slice none 0 0, .int .i64 0] 86)).cell? ⟨d, 3, none⟩ = some (.map (some mb)) := by rw [cell_heap (heap_old K1.out _)]; rfl
  have oA : Only [mb] w5 (setBlock (w5.alloc (.cells #[.slice none 0 0, .int .i64 0] 86)) mb (.map #[⟨.string logA, .pointer (some ⟨w5.heap.size, 0, none⟩), cc⟩] (cc + 1))) := ((Only.refl [mb] w5).alloc _).trans o7
  have hI7 : IsB (setBlock (w5.alloc (.cells #[.slice none 0 0, .int .i64 0] 86)) mb (.map #[⟨.string logA, .pointer (some ⟨w5.heap.size, 0, none⟩), cc⟩] (cc + 1))) ao n c l := isB_avoid HI5.out oA (by intro b off i hb; simp; intro e; subst e; exact isB_notmap HI5.out hb hm)
  have hsz7 : (setBlock (w5.alloc (.cells #[.slice none 0 0, .int .i64 0] 86)) mb (.map #[⟨.string logA, .pointer (some ⟨w5.heap.size, 0, none⟩), cc⟩] (cc + 1))).heap.size = w5.heap.size + 1 := by simp [setBlock]
  have hfc := cell_heap f7 0
  have HM7 := Lib.hid m7; have HF7 := Lib.hid f7; have HK7 := Lib.hid k7; have HOA := Lib.hid oA; have HI7 := Lib.hid hI7; have HSZ7 := Lib.hid hsz7
  have hfc0 : (setBlock (w5.alloc (.cells #[.slice none 0 0, .int .i64 0] 86)) mb (.map #[⟨.string logA, .pointer (some ⟨w5.heap.size, 0, none⟩), cc⟩] (cc + 1))).cell? ⟨w5.heap.size, 0, none⟩ = some (.slice none 0 0) := by rw [cell_heap f7]; rfl
  have hlen0 : ([] : List UInt8).length + n ≤ 140737488355328 := by simp; omega
  have hmD := k2
  clear hm hm6 o7 m7 f7 dne k7 oA hI7 hsz7 hfc K3
  go_wp2_with (at_builtin; refine wpList_append_bf rfl (.tmp 46) (.tmp 47) 29 rfl 5 Try.underlying29 F.info5 (.slice none 0 0) [] rfl (OwnB.nil _ _ _) ao n c l rfl HI7.out hlen0 ?_; intro v8 w8 ho8 on8 fr8; rw [List.nil_append] at ho8; have HO8 := Lib.hid ho8; have HON8 := Lib.hid on8; have HF8 := Lib.hid (on8.keeps HF7.out (by simp [Value.ownBlock])); have HFR8 := Lib.hid fr8; have hc8 : w8.cell? ⟨w5.heap.size, 0, none⟩ = some (.slice none 0 0) := (cell_heap HF8.out 0).trans rfl; have hz8 := free_heap HF8.out 0; obtain ⟨a8, c8, e8, _, _⟩ := rows_form ho8; subst e8; clear ho8 on8 fr8)
  go_ret
  have hap : appD s l = ⟨R, s.off, s.lives, some (l, 0)⟩ := by unfold appD appF; rw [hfile, HRR.out]
  have on8 := HON8.out
  have hK8 := on8.keeps HK7.out (by simp [Value.ownBlock])
  have hM8 := on8.keeps HM7.out (by simp [Value.ownBlock])
  have hs8 := on8.size
  have hs7 := HSZ7.out
  have fr8 := HFR8.out
  have hlt8 := own_ltB HO8.out
  rw [hap]
  refine ⟨D ++ w5.heap.size :: (Value.slice a8 l.length c8).ownBlock.toList, rfl, dk_final hK8 hM8 (Nat.lt_succ_self _) HF8.out HO8.out (by simp [k4]) (by simp [k2]) (by simp) (fun k hk => by simp [hk]) (fun b hb => ?_), (Moves.of_below HB6.out).trans ⟨?_, fun b hb => ?_, fun b hb => by simp [hb]⟩⟩
  ·simp only [List.mem_append, List.mem_cons, Option.mem_toList] at hb
   rcases hb with hb | rfl | hb
   ·have := K5.out b hb; omega
   ·omega
   ·exact hlt8 b hb
  ·have o9 : Only [w5.heap.size] w8 (w8.setCell ⟨w5.heap.size, 0, none⟩ (.slice a8 l.length c8)) := (Only.refl _ _).setCell (by simp) _
   have oall := ((HOA.out.mono (T := [mb, w5.heap.size]) (by simp)).trans (on8.mono (by simp [Value.ownBlock]))).trans (o9.mono (T := [mb, w5.heap.size]) (by simp))
   exact oall.cut (fun k hk hlt => by
    simp at hk
    rcases hk with rfl | rfl
    ·exact k2
    ·omega)
  ·simp only [List.mem_append, List.mem_cons, Option.mem_toList] at hb
   rcases hb with hb | rfl | hb
   ·exact .inl hb
   ·exact .inr (Nat.le_refl _)
   ·rcases fr8 b hb with h8 | h8
    ·simp [Value.ownBlock] at h8
    ·right; omega
 | some p =>
  obtain ⟨m, kk⟩ := p
  rw [hfile] at K3
  obtain ⟨cc, fb, b0, v, hm, hb0, hfD, hf, ho5, hov⟩ := K3.out
  have hT : T = m.length := by rw [← HTT.out]; unfold Dk.total; rw [hfile]
  obtain ⟨a0, c0, rfl, _, _⟩ := rows_form ho5
  have hl := look_yes hm logA_20
  have hfc : w5.cell? ⟨fb, 0, none⟩ = some (.slice a0 m.length c0) := by rw [cell_heap hf]; rfl
  have hlen0 : m.length + n ≤ 140737488355328 := by omega
  have HM5 := Lib.hid hm; have HF5 := Lib.hid hf; have HO5 := Lib.hid ho5; have HOV := Lib.hid hov
  have N1 : Hid (fb ∉ (Value.slice a0 m.length c0).ownBlock.toList) := Lib.hid (own_ne ho5 hf (by simp))
  clear hm hf ho5 hov K3
  go_wp2_with (at_builtin; refine wpList_append_bf rfl (.tmp 46) (.tmp 47) 29 rfl 5 Try.underlying29 F.info5 (.slice a0 m.length c0) m rfl HO5.out ao n c l rfl HI5.out hlen0 ?_; intro v8 w8 ho8 on8 fr8; have HO8 := Lib.hid ho8; have HON8 := Lib.hid on8; have HF8 := Lib.hid (on8.keeps HF5.out N1.out); have HFR8 := Lib.hid fr8; have hc8 : w8.cell? ⟨fb, 0, none⟩ = some (.slice a0 m.length c0) := (cell_heap HF8.out 0).trans rfl; have hz8 := free_heap HF8.out 0; obtain ⟨a8, c8, e8, _, _⟩ := rows_form ho8; subst e8; clear ho8 on8 fr8)
  go_ret
  have hap : appD s l = ⟨R, s.off, s.lives, some (m ++ l, kk)⟩ := by unfold appD appF; rw [hfile, HRR.out]
  have HO9 : OwnB w8 0 5 (.slice a8 (m.length + l.length) c8) (m ++ l) := by rw [← List.length_append]; exact HO8.out
  rw [List.length_append] at HFR8
  have on8 := HON8.out
  have hK8 := on8.keeps K1.out (own_ne HO5.out K1.out (by simp))
  have hM8 := on8.keeps HM5.out (own_ne HO5.out HM5.out (by simp))
  have hs8 := on8.size
  have fr8 := HFR8.out
  have hlt8 := own_ltB HO9
  rw [hap]
  refine ⟨D ++ (Value.slice a8 (m.length + l.length) c8).ownBlock.toList, rfl, dk_final hK8 hM8 hb0 HF8.out HO9 (by simp [k4]) (by simp [k2]) (by simp [hfD]) (fun k hk => by simp [hk]) (fun b hb => ?_), (Moves.of_below HB6.out).trans ⟨?_, fun b hb => ?_, fun b hb => by simp [hb]⟩⟩
  ·simp only [List.mem_append, Option.mem_toList] at hb
   rcases hb with hb | hb
   ·have := K5.out b hb; omega
   ·exact hlt8 b hb
  ·have o9 : Only [fb] w8 (w8.setCell ⟨fb, 0, none⟩ (.slice a8 (m.length + l.length) c8)) := (Only.refl _ _).setCell (by simp) _
   exact (on8.mono (fun k hk => HOV.out k (by simpa using hk))).trans (o9.mono (by simpa using hfD))
  ·simp only [List.mem_append, Option.mem_toList] at hb
   rcases hb with hb | hb
   ·exact .inl hb
   ·rcases fr8 b hb with h8 | h8
    ·exact .inl (HOV.out b h8)
    ·exact .inr h8
end
end Go.Proofs.Ytnicaicjgaoolaa
namespace Go.Proofs.Ytnicaicjgaoolaa
open Go.RowKit Go.ChangeMaps Go.WideMaps Go.Maps
set_option maxRecDepth 20000
section
variable {w : World} {D : List Nat} {d : Nat} {s : Dk}
theorem find_no (h : IsDk w D d s) (ho : s.off = false) (t : ByteArray) (ht : GoodN t) (hno : s.file = none ∨ t ≠ logA) :
  Calls Try.prog 74 #[.pointer (some ⟨d, 0, none⟩), .string t] w fun e w' => e = .returned (.tuple #[.pointer none, .int .i64 4]) ∧ Below w.heap.size w w' := by
 obtain ⟨⟨mb, k1, k2, k3⟩, k4, k5⟩ := h
 refine find_none ⟨⟨mb, k1, k2, k3⟩, k4, k5⟩ ho t ht (mb := mb) (by rw [cell_heap k1]; rfl) fun w' hb => ?_
 cases hf : s.file with
 | none =>
  rw [hf] at k3
  obtain ⟨c, hm⟩ := k3
  exact look_no (heap_below3 hb (lt_of_heap hm) hm) t ht.1.2
 | some p =>
  obtain ⟨l, k⟩ := p
  rw [hf] at k3
  obtain ⟨c, fb, b0, v, hm, _⟩ := k3
  refine look_other (heap_below3 hb (lt_of_heap hm) hm) logA_20 ht.1.2 (fun e => ?_)
  rcases hno with h1 | h1
  ·rw [hf] at h1; cases h1
  ·exact h1 e.symm
/-- the parts of a disk that has its file -/
structure Parts (w : World) (D : List Nat) (d : Nat) (s : Dk) (l : List UInt8) (k mb cc fb b0 : Nat) (v : Value) : Prop where
 hd : w.heap[d]? = some (.cells #[.int .i64 s.room, .bool s.off, .int .i64 s.lives, .map (some mb)] 79 (0, 0))
 hm : w.heap[mb]? = some (.map #[⟨.string logA, .pointer (some ⟨fb, 0, none⟩), b0⟩] cc)
 hb : b0 < cc
 hf : w.heap[fb]? = some (.cells #[v, .int .i64 (k : Int)] 86 (0, 0))
 ho : OwnB w 0 5 v l
 dD : d ∈ D
 mD : mb ∈ D
 fD : fb ∈ D
 vD : ∀ j, v.ownBlock = some j → j ∈ D
 lt : ∀ b ∈ D, b < w.heap.size
theorem IsDk.parts (h : IsDk w D d s) {l : List UInt8} {k : Nat} (hf : s.file = some (l, k)) : ∃ mb cc fb b0 v, Parts w D d s l k mb cc fb b0 v := by
 obtain ⟨⟨mb, k1, k2, k3⟩, k4, k5⟩ := h
 rw [hf] at k3
 obtain ⟨c, fb, b0, v, h1, h2, h3, h4, h5, h6⟩ := k3
 exact ⟨mb, c, fb, b0, v, k1, h1, h2, h4, h5, k4, k2, h3, h6, k5⟩
theorem Parts.dk {l : List UInt8} {k mb cc fb b0 : Nat} {v : Value} (h : Parts w D d s l k mb cc fb b0 v) (hf : s.file = some (l, k)) : IsDk w D d s :=
 ⟨⟨mb, h.hd, h.mD, by rw [hf]; exact ⟨cc, fb, b0, v, h.hm, h.hb, h.fD, h.hf, h.ho, h.vD⟩⟩, h.dD, h.lt⟩
theorem Parts.below {w' : World} {l : List UInt8} {k mb cc fb b0 : Nat} {v : Value} (h : Parts w D d s l k mb cc fb b0 v) (hb : Below w.heap.size w w') : Parts w' D d s l k mb cc fb b0 v :=
 ⟨heap_below3 hb (lt_of_heap h.hd) h.hd, heap_below3 hb (lt_of_heap h.hm) h.hm, h.hb, heap_below3 hb (lt_of_heap h.hf) h.hf, rows_only0 h.ho (Only.ofBelow hb []) (fun b _ => by simp), h.dD, h.mD, h.fD, h.vD, fun b hb2 => Nat.lt_of_lt_of_le (h.lt b hb2) hb.size⟩
/-- the file's two cells are laid anew -/
theorem Parts.set {l l' : List UInt8} {k k' mb cc fb b0 : Nat} {v v' : Value} {w' : World} {D' : List Nat} {s' : Dk} (h : Parts w D d s l k mb cc fb b0 v) (ho : Only [fb] w w') (hf : w'.heap[fb]? = some (.cells #[v', .int .i64 (k' : Int)] 86 (0, 0)))
  (hv : OwnB w 0 5 v' l') (hsub : ∀ b ∈ D, b ∈ D') (hvD : ∀ j, v'.ownBlock = some j → j ∈ D') (hlt : ∀ b ∈ D', b < w.heap.size) (hs' : s'.room = s.room ∧ s'.off = s.off ∧ s'.lives = s.lives) : Parts w' D' d s' l' k' mb cc fb b0 v' := by
 have n1 : d ≠ fb := block_ne h.hd h.hf (by simp)
 have n2 : mb ≠ fb := block_ne h.hm h.hf (by simp)
 have n3 : fb ∉ v'.ownBlock.toList := own_ne hv h.hf (by simp)
 obtain ⟨e1, e2, e3⟩ := hs'
 refine ⟨by rw [e1, e2, e3]; exact ho.keeps h.hd (by simpa using n1), ho.keeps h.hm (by simpa using n2), h.hb, hf, own_keepB hv ho (fun j hj hm => ?_), hsub _ h.dD, hsub _ h.mD, hsub _ h.fD, hvD, fun b hb => Nat.lt_of_lt_of_le (hlt b hb) ho.size⟩
 rw [List.mem_singleton.1 hm] at hj
 exact n3 (by rw [hj]; simp)
theorem find_yes {l : List UInt8} {k mb cc fb b0 : Nat} {v : Value} (h : Parts w D d s l k mb cc fb b0 v) (hf : s.file = some (l, k)) (ho : s.off = false) :
  Calls Try.prog 74 #[.pointer (some ⟨d, 0, none⟩), .string logA] w fun e w' => e = .returned (.tuple #[.pointer (some ⟨fb, 0, none⟩), .int .i64 0]) ∧ Below w.heap.size w w' :=
 find_some (h.dk hf) ho logA good_log (mb := mb) (by rw [cell_heap h.hd]; rfl) fun w' hb => look_yes (heap_below3 hb (lt_of_heap h.hm) h.hm) logA_20
theorem read_off (h : IsDk w D d s) (ho : s.off = true) (t : ByteArray) : Calls Try.prog 70 #[.pointer (some ⟨d, 0, none⟩), .string t] w fun e w' => e = .returned (.tuple #[.slice none 0 0, .int .i64 10]) ∧ Below w.heap.size w w' := by
 have HF := Lib.hid (find_off h ho t)
 clear h
 go_enter Try.func70, Try.ntmps70
 go_wp2_with fail
 refine HF.out.mono ?_
 rintro e w1 ⟨rfl, hb⟩
 have HB := Lib.hid hb
 clear hb
 go_wp2_with fail
 go_ret2
 exact ⟨rfl, HB.out⟩
theorem read_no (h : IsDk w D d s) (ho : s.off = false) (t : ByteArray) (ht : GoodN t) (hno : s.file = none ∨ t ≠ logA) : Calls Try.prog 70 #[.pointer (some ⟨d, 0, none⟩), .string t] w fun e w' => e = .returned (.tuple #[.slice none 0 0, .int .i64 4]) ∧ Below w.heap.size w w' := by
 have HF := Lib.hid (find_no h ho t ht hno)
 clear h
 go_enter Try.func70, Try.ntmps70
 go_wp2_with fail
 refine HF.out.mono ?_
 rintro e w1 ⟨rfl, hb⟩
 have HB := Lib.hid hb
 clear hb
 go_wp2_with fail
 go_ret2
 exact ⟨rfl, HB.out⟩
theorem read_yes (h : IsDk w D d s) (ho : s.off = false) {l : List UInt8} {k : Nat} (hf : s.file = some (l, k)) (hl : l.length ≤ 1048576) :
  Calls Try.prog 70 #[.pointer (some ⟨d, 0, none⟩), .string logA] w fun e w' => ∃ v, e = .returned (.tuple #[v, .int .i64 0]) ∧ OwnB w' w.heap.size 5 v l ∧ Below w.heap.size w w' := by
 obtain ⟨mb, cc, fb, b0, v, hp⟩ := h.parts hf
 have HF := Lib.hid (find_yes hp hf ho)
 have HP := Lib.hid hp
 clear h hp
 go_enter Try.func70, Try.ntmps70
 go_wp2_with fail
 refine HF.out.mono ?_
 rintro e w1 ⟨rfl, hb⟩
 have HB := Lib.hid hb
 have HP1 := Lib.hid (HP.out.below hb)
 obtain ⟨ao, c, rfl, hi⟩ := HP1.out.ho.isB
 have hc : w1.cell? ⟨fb, 0, none⟩ = some (.slice ao l.length c) := by rw [cell_heap HP1.out.hf]; rfl
 have HI := Lib.hid hi
 clear hb hi
 go_wp2_with fail
 refine (F.clone_any ao l.length c l w1 HI.out (by omega)).mono ?_
 rintro e w2 ⟨v2, rfl, ho2, hb2⟩
 have HO2 := Lib.hid (ho2.mono HB.out.size)
 have HB2 := Lib.hid (HB.out.trans (hb2.mono HB.out.size))
 clear ho2 hb2
 go_wp2_with fail
 go_ret2
 exact ⟨v2, rfl, HO2.out, HB2.out⟩
theorem sync_no (h : IsDk w D d s) (ho : s.off = false) (hno : s.file = none) : Calls Try.prog 79 #[.pointer (some ⟨d, 0, none⟩), .string logA] w fun e w' => e = .returned (.int .i64 4) ∧ Below w.heap.size w w' := by
 have HF := Lib.hid (find_no h ho logA good_log (.inl hno))
 clear h
 go_enter Try.func79, Try.ntmps79
 go_wp2_with fail
 refine HF.out.mono ?_
 rintro e w1 ⟨rfl, hb⟩
 have HB := Lib.hid hb
 clear hb
 go_wp2_with fail
 go_ret
 exact ⟨rfl, HB.out⟩
theorem sync_yes (h : IsDk w D d s) (ho : s.off = false) {l : List UInt8} {k : Nat} (hf : s.file = some (l, k)) :
  Calls Try.prog 79 #[.pointer (some ⟨d, 0, none⟩), .string logA] w fun e w' => e = .returned (.int .i64 0) ∧ IsDk w' D d { s with file := some (l, l.length) } ∧ Only D w w' := by
 obtain ⟨mb, cc, fb, b0, v, hp⟩ := h.parts hf
 have HF := Lib.hid (find_yes hp hf ho)
 have HP := Lib.hid hp
 clear h hp
 go_enter Try.func79, Try.ntmps79
 go_wp2_with fail
 refine HF.out.mono ?_
 rintro e w1 ⟨rfl, hb⟩
 have HB := Lib.hid hb
 have HP1 := Lib.hid (HP.out.below hb)
 obtain ⟨ao, c, rfl, hi⟩ := HP1.out.ho.isB
 have hc : w1.cell? ⟨fb, 0, none⟩ = some (.slice ao l.length c) := by rw [cell_heap HP1.out.hf]; rfl
 have hc1 : w1.cell? ⟨fb, 1, none⟩ = some (.int .i64 (k : Int)) := by rw [cell_heap HP1.out.hf]; rfl
 have hz1 := free_heap HP1.out.hf 1
 clear hb hi
 go_wp2_with fail
 go_ret
 have o9 : Only [fb] w1 (w1.setCell ⟨fb, 1, none⟩ (.int .i64 (l.length : Int))) := (Only.refl _ _).setCell (by simp) _
 have hp9 := HP1.out.set (s' := { s with file := some (l, l.length) }) o9 (heap_set HP1.out.hf 1 _) HP1.out.ho (fun b hb => hb) HP1.out.vD HP1.out.lt ⟨rfl, rfl, rfl⟩
 exact ⟨rfl, hp9.dk rfl, (Only.ofBelow HB.out D).trans (o9.mono (by simpa using HP1.out.fD))⟩
theorem IsFile.only_d {w' : World} {mb : Nat} {f : Option (List UInt8 × Nat)} {cs : Array Value} (h : IsFile w D mb f) (ho : Only [d] w w') (hd : w.heap[d]? = some (.cells cs 79 (0, 0))) : IsFile w' D mb f := by
 cases f with
 | none =>
  obtain ⟨c, h1⟩ := h
  exact ⟨c, ho.keeps h1 (by simpa using block_ne h1 hd (by simp))⟩
 | some p =>
  obtain ⟨l, safe⟩ := p
  obtain ⟨c, fb, b0, v, h1, h2, h3, h4, h5, h6⟩ := h
  refine ⟨c, fb, b0, v, ho.keeps h1 (by simpa using block_ne h1 hd (by simp)), h2, h3, ho.keeps h4 (by simpa using block_ne h4 hd (by simp)), rows_only0 h5 ho (fun b hb hm => ?_), h6⟩
  exact own_ne h5 hd (by simp) (by rw [List.mem_singleton.1 hm] at hb; rw [hb]; simp)
theorem on_any (h : IsDk w D d s) (hl : s.lives ≤ 1000000000) (hl0 : 0 ≤ s.lives) : Calls Try.prog 24 #[.pointer (some ⟨d, 0, none⟩)] w fun e w' => e = .returned (.tuple #[]) ∧ IsDk w' D d { s with off := false, lives := s.lives + 1 } ∧ Only D w w' := by
 obtain ⟨⟨mb, k1, k2, k3⟩, k4, k5⟩ := h
 have hc1 : w.cell? ⟨d, 1, none⟩ = some (.bool s.off) := by rw [cell_heap k1]; rfl
 have hc2 : w.cell? ⟨d, 2, none⟩ = some (.int .i64 s.lives) := by rw [cell_heap k1]; rfl
 have hz1 := free_heap k1 1; have hz2 := free_heap k1 2
 have K := Lib.hid (And.intro k1 (And.intro k2 (And.intro k3 (And.intro k4 k5))))
 have q1 : IntKind.i64.wrap (s.lives + 1) = s.lives + 1 := IntWalk.i64_in _ (by omega)
 clear k1 k2 k3 k4 k5
 go_enter Try.func24, Try.ntmps24
 go_wp2_with fail
 go_end0
 obtain ⟨k1, k2, k3, k4, k5⟩ := K.out
 have o9 : Only [d] w ((w.setCell ⟨d, 2, none⟩ (.int .i64 (s.lives + 1))).setCell ⟨d, 1, none⟩ (.bool false)) := ((Only.refl _ _).setCell (by simp) _).setCell (by simp) _
 have hh := heap_set (heap_set k1 2 (.int .i64 (s.lives + 1))) 1 (.bool false)
 refine ⟨rfl, ⟨⟨mb, hh, k2, ?_⟩, k4, fun b hb => Nat.lt_of_lt_of_le (k5 b hb) o9.size⟩, o9.mono (by simpa using k4)⟩
 exact k3.only_d o9 k1
end
end Go.Proofs.Ytnicaicjgaoolaa
