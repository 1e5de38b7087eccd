/-
  The document's bytes of a reply. No condition.
-/
import Derived.Test.YtpikdeikcmdcmaaCutW
import Derived.Deep.RegionHeld3
namespace Go.Proofs.Ytpikdeikcmdcmaa
open Go.RowKit
theorem rp_any (a b c d : Int) (ao : Option Addr) (n k : Nat) (w : World) :
    Calls Try.prog 17 #[aggP a b c d (.slice ao n k)] w fun e w' => e = .returned (aggP a b c d (.slice ao n k)) ∧ Below w.heap.size w w' := by
  simp only [aggP]
  go_enter Try.func17, Try.ntmps17
  go_wp2_with fail
  exact bodyPost_ret (results_rep (fn := Try.f17) rfl _ _ (w.heap.size + 1) _ rfl (heap_alloc2_new _ _ _) Try.underlying40 size40) rfl ⟨rfl, below_two _ _ _⟩
theorem resB_eq (PP : List UInt8) (xe : Int) (xp xd : ByteArray) (xn : List ByteArray) (xa xb xc xg xh xi xj : Int) :
    PP ++ resB ⟨xe, xp, xd, xn, xa, xb, xc, xg, xh, xi, xj⟩ = PP ++ be8 xe ++ txt xp ++ txt xd ++ be8 (xn.length : Int) ++ xn.flatMap txt ++ be8 xa ++ be8 xb ++ be8 xc ++ be8 xg ++ be8 xh ++ be8 xi ++ be8 xj := by
  simp [resB, be8s]

set_option maxHeartbeats 16000000 in
set_option maxRecDepth 100000 in
theorem rput_any (a b c d : Int) (ao : Option Addr) (n k0 : Nat) (l : List (Re × Value)) (w : World) (h : IsRes w ao n l) (hn : n ≤ 100) (hf : ∀ x ∈ resL l, FitR x) :
    Calls Try.prog 16 #[aggP a b c d (.slice ao n k0)] w fun e w' => ∃ a2 n2 c2, e = .returned (.slice a2 n2 c2) ∧ Wn w w' a2 n2 c2 (putR ⟨a, b, c, d, resL l⟩) ∧ Below w.heap.size w w' := by
  have HF := Lib.hid hf
  have hln : (resL l).length = n := by rw [resL, List.length_map, h.len]
  simp only [aggP, putR] at *
  rw [hln]
  go_enter Try.func16, Try.ntmps16
  go_wp2_with fail
  have hB0 : Below w.heap.size w (w.alloc (.cells #[.int .i64 a, .int .i64 b, .int .i64 c, .int .i64 d, .slice ao n k0] 40)) := (Below.refl _ _).alloc (Nat.le_refl _) _
  have hX : (w.alloc (.cells #[.int .i64 a, .int .i64 b, .int .i64 c, .int .i64 d, .slice ao n k0] 40)).heap[w.heap.size]? = some (.cells #[.int .i64 a, .int .i64 b, .int .i64 c, .int .i64 d, .slice ao n k0] 40 (0, 0)) := heap_new _ _
  have hgoal : ∀ a2 n2 c2 L (W : World), Wn (w.alloc (.cells #[.int .i64 a, .int .i64 b, .int .i64 c, .int .i64 d, .slice ao n k0] 40)) W a2 n2 c2 L → Wn w W a2 n2 c2 L ∧ Below w.heap.size w W := fun a2 n2 c2 L W hw => by
    have hb := hB0.trans (hw.below.mono hB0.size)
    exact ⟨⟨hw.own.mono hB0.size, hb⟩, hb⟩
  have HG := Lib.hid hgoal
  have HH := Lib.hid (h.below hB0)
  generalize (w.alloc (.cells #[.int .i64 a, .int .i64 b, .int .i64 c, .int .i64 d, .slice ao n k0] 40)) = w0 at *
  generalize hXX : w.heap.size = X at *
  have HXX := Lib.hid hXX
  have HXC := Lib.hid (fun (W : World) (hb : Below w0.heap.size w0 W) (j : Nat) => (show W.cell? ⟨X, j, none⟩ = _ from cell_heap (heap_below hb (lt_of_heap hX) hX) j))
  have hc0 : w0.cell? ⟨X, 0, none⟩ = some (.int .i64 a) := HXC.out w0 (Below.refl _ _) 0
  have hc1 : w0.cell? ⟨X, 1, none⟩ = some (.int .i64 b) := HXC.out w0 (Below.refl _ _) 1
  have HL1 := Lib.hid (show (([] : List UInt8) ++ be8 a).length ≤ 1000000000000 from by simp only [List.length_append, be8_len, txt_len, List.length_nil]; omega)
  have HLN := Lib.hid hln
  clear hX hB0 hgoal h hXX hln
  go_wp2_with fail
  refine wp_region_held_drew (S := fun w' => w'.cell? ⟨X, 0, none⟩ = some (.int .i64 a) ∧ w'.cell? ⟨X, 1, none⟩ = some (.int .i64 b)) (by kernel_rfl) ⟨(show w0.drew.cell? ⟨X, 0, none⟩ = _ from hc0), hc1⟩ (fun hHeld => ?_)
  refine wpAnyH_take (i := 0) (oi := { dst := some 7, op := Op.fieldAddr 40 (Operand.tmp 1) 0, type := 0, pos := _, after := #[], guard := none }) (v := ?_) rfl (by kernel_rfl) (by kernel_rfl) (by kernel_rfl) (fun _ _ _ h => h) (Or.inl ⟨by rfl, ?_⟩) (by exact hHeld) ?_
  rotate_left
  · (intro w hSw; (try dsimp only at hSw); go_simp <;> with_reducible rfl)
  try simp only [Act.put, List.setIfInBounds_toArray, List.set_cons_zero, List.set_cons_succ]
  refine wpAnyH_take (i := 1) (oi := { dst := some 8, op := Op.load 2 (Operand.tmp 7), type := 2, pos := _, after := #[{ on := 0, ground := Ground.data }], guard := none }) (v := ?_) rfl (by kernel_rfl) (by kernel_rfl) (by kernel_rfl) (fun _ _ _ h => h) (Or.inl ⟨by rfl, ?_⟩) (by exact hHeld) ?_
  rotate_left
  · (intro w hSw; (try dsimp only at hSw); go_simp <;> with_reducible rfl)
  try simp only [Act.put, List.setIfInBounds_toArray, List.set_cons_zero, List.set_cons_succ]
  refine wpAnyH_take (i := 3) (oi := { dst := some 10, op := Op.fieldAddr 40 (Operand.tmp 1) 1, type := 0, pos := _, after := #[], guard := none }) (v := ?_) rfl (by kernel_rfl) (by kernel_rfl) (by kernel_rfl) (fun _ _ _ h => h) (Or.inl ⟨by rfl, ?_⟩) (by exact hHeld) ?_
  rotate_left
  · (intro w hSw; (try dsimp only at hSw); go_simp <;> with_reducible rfl)
  try simp only [Act.put, List.setIfInBounds_toArray, List.set_cons_zero, List.set_cons_succ]
  refine wpAnyH_take (i := 4) (oi := { dst := some 11, op := Op.load 2 (Operand.tmp 10), type := 2, pos := _, after := #[{ on := 3, ground := Ground.data }], guard := none }) (v := ?_) rfl (by kernel_rfl) (by kernel_rfl) (by kernel_rfl) (fun _ _ _ h => h) (Or.inl ⟨by rfl, ?_⟩) (by exact hHeld) ?_
  rotate_left
  · (intro w hSw; (try dsimp only at hSw); go_simp <;> with_reducible rfl)
  try simp only [Act.put, List.setIfInBounds_toArray, List.set_cons_zero, List.set_cons_succ]
  refine wpAnyH_ready (rs := [2]) (by kernel_rfl) (by simp) ?_
  refine AllReadyH.cons (o := { dst := some 9, op := Op.call { callee := Callee.value (Operand.func 32), args := #[Operand.const (Value.slice none 0 0), Operand.tmp 8], argTypes := #[29, 2] }, type := 29, pos := _, after := #[{ on := 1, ground := Ground.data }], guard := none }) rfl (fun K hK => ?_) AllReadyH.nil
  go_simp
  refine (ri64_on (w := w0) a (isB_nil _) (by exact below_drew (Below.refl _ _) 1) (by simp)).mono ?_
  rintro e u1 ⟨a1, n1, c1, rfl, hw1, hl1⟩
  have HW1 := Lib.hid hw1
  have HLB1 := Lib.hid hl1
  clear hw1
  go_wp2_with fail
  refine hK.out _ _ ⟨cell_later hl1 hHeld.1, cell_later hl1 hHeld.2⟩ (fun hHeld => ?_)
  clear hK K
  try simp only [Act.put, List.setIfInBounds_toArray, List.set_cons_zero, List.set_cons_succ]
  refine wpAnyH_ready (rs := [5]) (by kernel_rfl) (by simp) ?_
  refine AllReadyH.cons (o := { dst := some 12, op := Op.call { callee := Callee.value (Operand.func 32), args := #[Operand.tmp 9, Operand.tmp 11], argTypes := #[29, 2] }, type := 29, pos := _, after := #[{ on := 2, ground := Ground.data }, { on := 4, ground := Ground.data }, { on := 2, ground := Ground.chain }], guard := none }) rfl (fun K hK => ?_) AllReadyH.nil
  go_simp
  refine (ri64_on (w := w0) b (by exact HW1.out.is) (by exact HW1.out.below) HL1.out).mono ?_
  rintro e u2 ⟨a2, n2, c2, rfl, hw2, hl2⟩
  have HW2 := Lib.hid hw2
  have HLB2 := Lib.hid hl2
  clear hw2
  go_wp2_with fail
  refine hK.out _ _ ⟨cell_later hl2 hHeld.1, cell_later hl2 hHeld.2⟩ (fun hHeld => ?_)
  clear hK K
  try simp only [Act.put, List.setIfInBounds_toArray, List.set_cons_zero, List.set_cons_succ]
  refine wpAnyH_take (i := 6) (oi := { dst := some 3, op := Op.assign (Operand.tmp 12), type := 29, pos := _, after := #[{ on := 5, ground := Ground.data }, { on := 5, ground := Ground.chain }, { on := 0, ground := Ground.phase }, { on := 1, ground := Ground.phase }, { on := 2, ground := Ground.phase }, { on := 3, ground := Ground.phase }, { on := 4, ground := Ground.phase }, { on := 5, ground := Ground.phase }], guard := none }) (v := ?_) rfl (by kernel_rfl) (by kernel_rfl) (by kernel_rfl) (fun _ _ _ h => h) (Or.inl ⟨by rfl, ?_⟩) (by exact hHeld) ?_
  rotate_left
  · (intro w hSw; (try dsimp only at hSw); go_simp <;> with_reducible rfl)
  try simp only [Act.put, List.setIfInBounds_toArray, List.set_cons_zero, List.set_cons_succ]
  refine wpAnyH_done (by kernel_rfl) ?_ _
  have hc2 : u2.cell? ⟨X, 2, none⟩ = some (.int .i64 c) := HXC.out u2 HW2.out.below 2
  have hc3 : u2.cell? ⟨X, 3, none⟩ = some (.int .i64 d) := HXC.out u2 HW2.out.below 3
  have hc4 : u2.cell? ⟨X, 4, none⟩ = some (.slice ao n k0) := HXC.out u2 HW2.out.below 4
  have HL2 := Lib.hid (show (([] : List UInt8) ++ be8 a ++ be8 b).length ≤ 1000000000000 from (by simp only [List.length_append, be8_len, txt_len, List.length_nil]; omega))
  have HL3 := Lib.hid (show (([] : List UInt8) ++ be8 a ++ be8 b ++ be8 c).length ≤ 1000000000000 from (by simp only [List.length_append, be8_len, txt_len, List.length_nil]; omega))
  have HL4 := Lib.hid (show (([] : List UInt8) ++ be8 a ++ be8 b ++ be8 c ++ be8 d).length ≤ 1000000000000 from (by simp only [List.length_append, be8_len, txt_len, List.length_nil]; omega))
  clear hc0 hc1 hHeld hl1 hl2
  go_wp2_with fail
  refine wp_region_held_drew (S := fun w' => w'.cell? ⟨X, 2, none⟩ = some (.int .i64 c) ∧ w'.cell? ⟨X, 3, none⟩ = some (.int .i64 d) ∧ w'.cell? ⟨X, 4, none⟩ = some (.slice ao n k0)) (by kernel_rfl) ⟨(show u2.drew.cell? ⟨X, 2, none⟩ = _ from hc2), hc3, hc4⟩ (fun hHeld => ?_)
  refine wpAnyH_take (i := 0) (oi := { dst := some 13, op := Op.move (Operand.tmp 3), type := 29, pos := _, after := #[], guard := none }) (v := ?_) rfl (by kernel_rfl) (by kernel_rfl) (by kernel_rfl) (fun _ _ _ h => h) (Or.inl ⟨by rfl, ?_⟩) (by exact hHeld) ?_
  rotate_left
  · (intro w hSw; (try dsimp only at hSw); go_simp <;> with_reducible rfl)
  try simp only [Act.put, List.setIfInBounds_toArray, List.set_cons_zero, List.set_cons_succ]
  refine wpAnyH_take (i := 1) (oi := { dst := some 14, op := Op.fieldAddr 40 (Operand.tmp 1) 2, type := 0, pos := _, after := #[], guard := none }) (v := ?_) rfl (by kernel_rfl) (by kernel_rfl) (by kernel_rfl) (fun _ _ _ h => h) (Or.inl ⟨by rfl, ?_⟩) (by exact hHeld) ?_
  rotate_left
  · (intro w hSw; (try dsimp only at hSw); go_simp <;> with_reducible rfl)
  try simp only [Act.put, List.setIfInBounds_toArray, List.set_cons_zero, List.set_cons_succ]
  refine wpAnyH_take (i := 2) (oi := { dst := some 15, op := Op.load 23 (Operand.tmp 14), type := 23, pos := _, after := #[{ on := 1, ground := Ground.data }], guard := none }) (v := ?_) rfl (by kernel_rfl) (by kernel_rfl) (by kernel_rfl) (fun _ _ _ h => h) (Or.inl ⟨by rfl, ?_⟩) (by exact hHeld) ?_
  rotate_left
  · (intro w hSw; (try dsimp only at hSw); go_simp <;> with_reducible rfl)
  try simp only [Act.put, List.setIfInBounds_toArray, List.set_cons_zero, List.set_cons_succ]
  refine wpAnyH_take (i := 4) (oi := { dst := some 17, op := Op.fieldAddr 40 (Operand.tmp 1) 3, type := 0, pos := _, after := #[], guard := none }) (v := ?_) rfl (by kernel_rfl) (by kernel_rfl) (by kernel_rfl) (fun _ _ _ h => h) (Or.inl ⟨by rfl, ?_⟩) (by exact hHeld) ?_
  rotate_left
  · (intro w hSw; (try dsimp only at hSw); go_simp <;> with_reducible rfl)
  try simp only [Act.put, List.setIfInBounds_toArray, List.set_cons_zero, List.set_cons_succ]
  refine wpAnyH_take (i := 5) (oi := { dst := some 18, op := Op.load 3 (Operand.tmp 17), type := 3, pos := _, after := #[{ on := 4, ground := Ground.data }], guard := none }) (v := ?_) rfl (by kernel_rfl) (by kernel_rfl) (by kernel_rfl) (fun _ _ _ h => h) (Or.inl ⟨by rfl, ?_⟩) (by exact hHeld) ?_
  rotate_left
  · (intro w hSw; (try dsimp only at hSw); go_simp <;> with_reducible rfl)
  try simp only [Act.put, List.setIfInBounds_toArray, List.set_cons_zero, List.set_cons_succ]
  refine wpAnyH_take (i := 7) (oi := { dst := some 20, op := Op.fieldAddr 40 (Operand.tmp 1) 4, type := 0, pos := _, after := #[], guard := none }) (v := ?_) rfl (by kernel_rfl) (by kernel_rfl) (by kernel_rfl) (fun _ _ _ h => h) (Or.inl ⟨by rfl, ?_⟩) (by exact hHeld) ?_
  rotate_left
  · (intro w hSw; (try dsimp only at hSw); go_simp <;> with_reducible rfl)
  try simp only [Act.put, List.setIfInBounds_toArray, List.set_cons_zero, List.set_cons_succ]
  refine wpAnyH_take (i := 8) (oi := { dst := some 21, op := Op.load 24 (Operand.tmp 20), type := 24, pos := _, after := #[{ on := 7, ground := Ground.data }], guard := none }) (v := ?_) rfl (by kernel_rfl) (by kernel_rfl) (by kernel_rfl) (fun _ _ _ h => h) (Or.inl ⟨by rfl, ?_⟩) (by exact hHeld) ?_
  rotate_left
  · (intro w hSw; (try dsimp only at hSw); go_simp <;> with_reducible rfl)
  try simp only [Act.put, List.setIfInBounds_toArray, List.set_cons_zero, List.set_cons_succ]
  refine wpAnyH_take (i := 9) (oi := { dst := some 22, op := Op.call { callee := Callee.builtin Builtin.len, args := #[Operand.tmp 21], argTypes := #[24] }, type := 3, pos := _, after := #[{ on := 8, ground := Ground.data }], guard := none }) (v := ?_) rfl (by kernel_rfl) (by kernel_rfl) (by kernel_rfl) (fun _ _ _ h => h) (Or.inl ⟨by rfl, ?_⟩) (by exact hHeld) ?_
  rotate_left
  · (intro w hSw; (try dsimp only at hSw); go_simp <;> with_reducible rfl)
  try simp only [Act.put, List.setIfInBounds_toArray, List.set_cons_zero, List.set_cons_succ]
  refine wpAnyH_ready (rs := [3]) (by kernel_rfl) (by simp) ?_
  refine AllReadyH.cons (o := { dst := some 16, op := Op.call { callee := Callee.value (Operand.func 32), args := #[Operand.tmp 13, Operand.tmp 15], argTypes := #[29, 2] }, type := 29, pos := _, after := #[{ on := 0, ground := Ground.data }, { on := 2, ground := Ground.data }], guard := none }) rfl (fun K hK => ?_) AllReadyH.nil
  go_simp
  refine (ri64_on (w := w0) c (by exact (HW2.out.later (below_drew (Below.refl _ _) 1)).is) (by exact below_drew HW2.out.below 1) HL2.out).mono ?_
  rintro e u3 ⟨a3, n3, c3, rfl, hw3, hl3⟩
  have HW3 := Lib.hid hw3
  have HLB3 := Lib.hid hl3
  clear hw3
  go_wp2_with fail
  refine hK.out _ _ ⟨cell_later hl3 hHeld.1, cell_later hl3 hHeld.2.1, cell_later hl3 hHeld.2.2⟩ (fun hHeld => ?_)
  clear hK K
  try simp only [Act.put, List.setIfInBounds_toArray, List.set_cons_zero, List.set_cons_succ]
  refine wpAnyH_ready (rs := [6]) (by kernel_rfl) (by simp) ?_
  refine AllReadyH.cons (o := { dst := some 19, op := Op.call { callee := Callee.value (Operand.func 32), args := #[Operand.tmp 16, Operand.tmp 18], argTypes := #[29, 2] }, type := 29, pos := _, after := #[{ on := 3, ground := Ground.data }, { on := 5, ground := Ground.data }, { on := 3, ground := Ground.chain }], guard := none }) rfl (fun K hK => ?_) AllReadyH.nil
  go_simp
  refine (ri64_on (w := w0) d (by exact HW3.out.is) (by exact HW3.out.below) HL3.out).mono ?_
  rintro e u4 ⟨a4, n4, c4, rfl, hw4, hl4⟩
  have HW4 := Lib.hid hw4
  have HLB4 := Lib.hid hl4
  clear hw4
  go_wp2_with fail
  refine hK.out _ _ ⟨cell_later hl4 hHeld.1, cell_later hl4 hHeld.2.1, cell_later hl4 hHeld.2.2⟩ (fun hHeld => ?_)
  clear hK K
  try simp only [Act.put, List.setIfInBounds_toArray, List.set_cons_zero, List.set_cons_succ]
  refine wpAnyH_ready (rs := [10]) (by kernel_rfl) (by simp) ?_
  refine AllReadyH.cons (o := { dst := some 23, op := Op.call { callee := Callee.value (Operand.func 32), args := #[Operand.tmp 19, Operand.tmp 22], argTypes := #[29, 2] }, type := 29, pos := _, after := #[{ on := 6, ground := Ground.data }, { on := 9, ground := Ground.data }, { on := 6, ground := Ground.chain }], guard := none }) rfl (fun K hK => ?_) AllReadyH.nil
  go_simp
  refine (ri64_on (w := w0) (n : Int) (by exact HW4.out.is) (by exact HW4.out.below) HL4.out).mono ?_
  rintro e u5 ⟨a5, n5, c5, rfl, hw5, hl5⟩
  have HW5 := Lib.hid hw5
  have HLB5 := Lib.hid hl5
  clear hw5
  go_wp2_with fail
  refine hK.out _ _ ⟨cell_later hl5 hHeld.1, cell_later hl5 hHeld.2.1, cell_later hl5 hHeld.2.2⟩ (fun hHeld => ?_)
  clear hK K
  try simp only [Act.put, List.setIfInBounds_toArray, List.set_cons_zero, List.set_cons_succ]
  refine wpAnyH_take (i := 11) (oi := { dst := some 3, op := Op.assign (Operand.tmp 23), type := 29, pos := _, after := #[{ on := 10, ground := Ground.data }, { on := 10, ground := Ground.chain }, { on := 0, ground := Ground.phase }, { on := 1, ground := Ground.phase }, { on := 2, ground := Ground.phase }, { on := 3, ground := Ground.phase }, { on := 4, ground := Ground.phase }, { on := 5, ground := Ground.phase }, { on := 6, ground := Ground.phase }, { on := 7, ground := Ground.phase }, { on := 8, ground := Ground.phase }, { on := 9, ground := Ground.phase }, { on := 10, ground := Ground.phase }], guard := none }) (v := ?_) rfl (by kernel_rfl) (by kernel_rfl) (by kernel_rfl) (fun _ _ _ h => h) (Or.inl ⟨by rfl, ?_⟩) (by exact hHeld) ?_
  rotate_left
  · (intro w hSw; (try dsimp only at hSw); go_simp <;> with_reducible rfl)
  try simp only [Act.put, List.setIfInBounds_toArray, List.set_cons_zero, List.set_cons_succ]
  refine wpAnyH_done (by kernel_rfl) ?_ _
  have hst : Wn w0 u5 a5 n5 c5 (be8s [a, b, c, d, (n : Int)]) := by
    have e : ([] : List UInt8) ++ be8 a ++ be8 b ++ be8 c ++ be8 d ++ be8 (n : Int) = be8s [a, b, c, d, (n : Int)] := by simp [be8s]
    rw [← e]; exact HW5.out
  have HST := Lib.hid hst
  clear hst hc2 hc3 hc4 hHeld hl3 hl4 hl5
  go_wp2_with fail
  go_loopw [3, 4] (fun v i wr => ∃ k : Nat, k ≤ n ∧ i = .int .i64 (k : Int) ∧ ∃ a2 n2 c2, v = .slice a2 n2 c2 ∧ Wn w0 wr a2 n2 c2 (be8s [a, b, c, d, (n : Int)] ++ ((resL l).take k).flatMap resB)) (fun _ i _ => n - (intOf i).toNat)
  case atStart => exact ⟨0, by omega, rfl, _, _, _, rfl, by simpa using HST.out⟩
  case round =>
    obtain ⟨k, hk, rfl, a6, n6, c6, rfl, hw6⟩ := hrel
    have HW6 := Lib.hid hw6; clear hw6
    have hc4 : wr.cell? ⟨X, 4, none⟩ = some (.slice ao n k0) := HXC.out wr HW6.out.below 4
    have hlk : (be8s [a, b, c, d, (n : Int)] ++ ((resL l).take k).flatMap resB).length ≤ 40 + 200000000 * 100 := by
      have h1 := ress_len ((resL l).take k) (fun s hs => HF.out s (List.mem_of_mem_take hs))
      have h2 : 200000000 * ((resL l).take k).length ≤ 200000000 * 100 := Nat.mul_le_mul_left _ (by rw [List.length_take]; omega)
      have h3 : (be8s [a, b, c, d, (n : Int)]).length = 40 := by rw [be8s_len]; rfl
      rw [List.length_append]; omega
    by_cases hlt : k < n
    · obtain ⟨b0, off, rfl, x, v, hx, hv, e0, e1, e2, e3, e4, e5, e6, e7, e8, e9, e10⟩ := (HH.out.below HW6.out.below).get hlt
      have hat := resL_at l k (by rw [HH.out.len]; exact hlt) hx
      have HTK := Lib.hid (ress_take _ _ _ hat)
      have hfx := HF.out x (List.mem_of_getElem? hat)
      have HV := Lib.hid hv
      obtain ⟨va, vn, vc, rfl, hvs, _⟩ := hv
      have HVN := Lib.hid hvs.len
      have hts := txts_len x.names hfx.each
      obtain ⟨xe, xp, xd, xn, xa, xb, xc, xg, xh, xi, xj⟩ := x
      have HFE := Lib.hid hfx.each
      have HFP := Lib.hid hfx.path; have HFD := Lib.hid hfx.data
      have hfp := hfx.path; have hfd := hfx.data; have hfn := hfx.names
      simp only at e0 e1 e2 e3 e4 e5 e6 e7 e8 e9 e10 HFE HFP HFD hfp hfd hfn hts HVN
      have HVS := Lib.hid (hvs.below (w' := wr.alloc (.cells #[.int .i64 xe, .string xp, .string xd, .slice va vn vc, .int .i64 xa, .int .i64 xb, .int .i64 xc, .int .i64 xg, .int .i64 xh, .int .i64 xi, .int .i64 xj] 35)) ((Below.refl _ _).alloc (Nat.le_refl _) _))
      have HYH := Lib.hid (heap_new wr (.cells #[.int .i64 xe, .string xp, .string xd, .slice va vn vc, .int .i64 xa, .int .i64 xb, .int .i64 xc, .int .i64 xg, .int .i64 xh, .int .i64 xi, .int .i64 xj] 35))
      have HWY := Lib.hid (HW6.out.later (W' := wr.alloc (.cells #[.int .i64 xe, .string xp, .string xd, .slice va vn vc, .int .i64 xa, .int .i64 xb, .int .i64 xc, .int .i64 xg, .int .i64 xh, .int .i64 xi, .int .i64 xj] 35)) ((Below.refl _ _).alloc (Nat.le_refl _) _))
      clear hx hat hfx hvs
      generalize hPP : be8s [a, b, c, d, (n : Int)] ++ ((resL l).take k).flatMap resB = PP at *
      have HPP := Lib.hid hPP; clear hPP
      go_wp2_with fail
      generalize (wr.alloc (.cells #[.int .i64 xe, .string xp, .string xd, .slice va vn vc, .int .i64 xa, .int .i64 xb, .int .i64 xc, .int .i64 xg, .int .i64 xh, .int .i64 xi, .int .i64 xj] 35)) = wy at *
      generalize wr.heap.size = Y at *
      have HYC := Lib.hid (fun (W : World) (hb : Below wy.heap.size wy W) (j : Nat) => (show W.cell? ⟨Y, j, none⟩ = _ from cell_heap (heap_below hb (lt_of_heap HYH.out) HYH.out) j))
      have y0 : wy.cell? ⟨Y, 0, none⟩ = some (.int .i64 xe) := HYC.out wy (Below.refl _ _) 0
      have y1 : wy.cell? ⟨Y, 1, none⟩ = some (.string xp) := HYC.out wy (Below.refl _ _) 1
      have y2 : wy.cell? ⟨Y, 2, none⟩ = some (.string xd) := HYC.out wy (Below.refl _ _) 2
      have HL6 := Lib.hid (show PP.length ≤ 1000000000000 by omega)
      have HL7 := Lib.hid (show (PP ++ be8 xe).length ≤ 1000000000000 from (by simp only [List.length_append, be8_len, txt_len, List.length_nil]; omega))
      have HL8 := Lib.hid (show (PP ++ be8 xe ++ txt xp).length ≤ 1000000000000 from (by simp only [List.length_append, be8_len, txt_len, List.length_nil]; omega))
      clear e0 e1 e2 e3 e4 e5 e6 e7 e8 e9 e10 hc4
      refine wp_region_held_drew (S := fun w' => w'.cell? ⟨Y, 0, none⟩ = some (.int .i64 xe) ∧ w'.cell? ⟨Y, 1, none⟩ = some (.string xp) ∧ w'.cell? ⟨Y, 2, none⟩ = some (.string xd)) (by kernel_rfl) ⟨(show wy.drew.cell? ⟨Y, 0, none⟩ = _ from y0), y1, y2⟩ (fun hHeld => ?_)
      refine wpAnyH_take (i := 0) (oi := { dst := some 36, op := Op.move (Operand.tmp 3), type := 29, pos := _, after := #[], guard := none }) (v := ?_) rfl (by kernel_rfl) (by kernel_rfl) (by kernel_rfl) (fun _ _ _ h => h) (Or.inl ⟨by rfl, ?_⟩) (by exact hHeld) ?_
      rotate_left
      · (intro w hSw; (try dsimp only at hSw); go_simp <;> with_reducible rfl)
      try simp only [Act.put, List.setIfInBounds_toArray, List.set_cons_zero, List.set_cons_succ]
      refine wpAnyH_take (i := 1) (oi := { dst := some 37, op := Op.fieldAddr 35 (Operand.tmp 5) 0, type := 0, pos := _, after := #[], guard := none }) (v := ?_) rfl (by kernel_rfl) (by kernel_rfl) (by kernel_rfl) (fun _ _ _ h => h) (Or.inl ⟨by rfl, ?_⟩) (by exact hHeld) ?_
      rotate_left
      · (intro w hSw; (try dsimp only at hSw); go_simp <;> with_reducible rfl)
      try simp only [Act.put, List.setIfInBounds_toArray, List.set_cons_zero, List.set_cons_succ]
      refine wpAnyH_take (i := 2) (oi := { dst := some 38, op := Op.load 23 (Operand.tmp 37), type := 23, pos := _, after := #[{ on := 1, ground := Ground.data }], guard := none }) (v := ?_) rfl (by kernel_rfl) (by kernel_rfl) (by kernel_rfl) (fun _ _ _ h => h) (Or.inl ⟨by rfl, ?_⟩) (by exact hHeld) ?_
      rotate_left
      · (intro w hSw; (try dsimp only at hSw); go_simp <;> with_reducible rfl)
      try simp only [Act.put, List.setIfInBounds_toArray, List.set_cons_zero, List.set_cons_succ]
      refine wpAnyH_take (i := 4) (oi := { dst := some 40, op := Op.fieldAddr 35 (Operand.tmp 5) 1, type := 0, pos := _, after := #[], guard := none }) (v := ?_) rfl (by kernel_rfl) (by kernel_rfl) (by kernel_rfl) (fun _ _ _ h => h) (Or.inl ⟨by rfl, ?_⟩) (by exact hHeld) ?_
      rotate_left
      · (intro w hSw; (try dsimp only at hSw); go_simp <;> with_reducible rfl)
      try simp only [Act.put, List.setIfInBounds_toArray, List.set_cons_zero, List.set_cons_succ]
      refine wpAnyH_take (i := 5) (oi := { dst := some 41, op := Op.load 9 (Operand.tmp 40), type := 9, pos := _, after := #[{ on := 4, ground := Ground.data }], guard := none }) (v := ?_) rfl (by kernel_rfl) (by kernel_rfl) (by kernel_rfl) (fun _ _ _ h => h) (Or.inl ⟨by rfl, ?_⟩) (by exact hHeld) ?_
      rotate_left
      · (intro w hSw; (try dsimp only at hSw); go_simp <;> with_reducible rfl)
      try simp only [Act.put, List.setIfInBounds_toArray, List.set_cons_zero, List.set_cons_succ]
      refine wpAnyH_take (i := 7) (oi := { dst := some 43, op := Op.fieldAddr 35 (Operand.tmp 5) 2, type := 0, pos := _, after := #[], guard := none }) (v := ?_) rfl (by kernel_rfl) (by kernel_rfl) (by kernel_rfl) (fun _ _ _ h => h) (Or.inl ⟨by rfl, ?_⟩) (by exact hHeld) ?_
      rotate_left
      · (intro w hSw; (try dsimp only at hSw); go_simp <;> with_reducible rfl)
      try simp only [Act.put, List.setIfInBounds_toArray, List.set_cons_zero, List.set_cons_succ]
      refine wpAnyH_take (i := 8) (oi := { dst := some 44, op := Op.load 9 (Operand.tmp 43), type := 9, pos := _, after := #[{ on := 7, ground := Ground.data }], guard := none }) (v := ?_) rfl (by kernel_rfl) (by kernel_rfl) (by kernel_rfl) (fun _ _ _ h => h) (Or.inl ⟨by rfl, ?_⟩) (by exact hHeld) ?_
      rotate_left
      · (intro w hSw; (try dsimp only at hSw); go_simp <;> with_reducible rfl)
      try simp only [Act.put, List.setIfInBounds_toArray, List.set_cons_zero, List.set_cons_succ]
      refine wpAnyH_ready (rs := [3]) (by kernel_rfl) (by simp) ?_
      refine AllReadyH.cons (o := { dst := some 39, op := Op.call { callee := Callee.value (Operand.func 32), args := #[Operand.tmp 36, Operand.tmp 38], argTypes := #[29, 2] }, type := 29, pos := _, after := #[{ on := 0, ground := Ground.data }, { on := 2, ground := Ground.data }], guard := none }) rfl (fun K hK => ?_) AllReadyH.nil
      go_simp
      refine (ri64_on (w := w0) xe (by exact (HWY.out.later (below_drew (Below.refl _ _) 1)).is) (by exact below_drew HWY.out.below 1) HL6.out).mono ?_
      rintro e u7 ⟨a7, n7, c7, rfl, hw7, hl7⟩
      have HW7 := Lib.hid hw7
      have HLB7 := Lib.hid hl7
      clear hw7
      go_wp2_with fail
      refine hK.out _ _ ⟨cell_later hl7 hHeld.1, cell_later hl7 hHeld.2.1, cell_later hl7 hHeld.2.2⟩ (fun hHeld => ?_)
      clear hK K
      try simp only [Act.put, List.setIfInBounds_toArray, List.set_cons_zero, List.set_cons_succ]
      refine wpAnyH_ready (rs := [6]) (by kernel_rfl) (by simp) ?_
      refine AllReadyH.cons (o := { dst := some 42, op := Op.call { callee := Callee.value (Operand.func 33), args := #[Operand.tmp 39, Operand.tmp 41], argTypes := #[29, 9] }, type := 29, pos := _, after := #[{ on := 3, ground := Ground.data }, { on := 5, ground := Ground.data }, { on := 3, ground := Ground.chain }], guard := none }) rfl (fun K hK => ?_) AllReadyH.nil
      go_simp
      refine (rtext_on (w := w0) xp (by exact HW7.out.is) (by exact HW7.out.below) HL7.out HFP.out).mono ?_
      rintro e u8 ⟨a8, n8, c8, rfl, hw8, hl8⟩
      have HW8 := Lib.hid hw8
      have HLB8 := Lib.hid hl8
      clear hw8
      go_wp2_with fail
      refine hK.out _ _ ⟨cell_later hl8 hHeld.1, cell_later hl8 hHeld.2.1, cell_later hl8 hHeld.2.2⟩ (fun hHeld => ?_)
      clear hK K
      try simp only [Act.put, List.setIfInBounds_toArray, List.set_cons_zero, List.set_cons_succ]
      refine wpAnyH_ready (rs := [9]) (by kernel_rfl) (by simp) ?_
      refine AllReadyH.cons (o := { dst := some 45, op := Op.call { callee := Callee.value (Operand.func 33), args := #[Operand.tmp 42, Operand.tmp 44], argTypes := #[29, 9] }, type := 29, pos := _, after := #[{ on := 6, ground := Ground.data }, { on := 8, ground := Ground.data }, { on := 6, ground := Ground.chain }], guard := none }) rfl (fun K hK => ?_) AllReadyH.nil
      go_simp
      refine (rtext_on (w := w0) xd (by exact HW8.out.is) (by exact HW8.out.below) HL8.out HFD.out).mono ?_
      rintro e u9 ⟨a9, n9, c9, rfl, hw9, hl9⟩
      have HW9 := Lib.hid hw9
      have HLB9 := Lib.hid hl9
      clear hw9
      go_wp2_with fail
      refine hK.out _ _ ⟨cell_later hl9 hHeld.1, cell_later hl9 hHeld.2.1, cell_later hl9 hHeld.2.2⟩ (fun hHeld => ?_)
      clear hK K
      try simp only [Act.put, List.setIfInBounds_toArray, List.set_cons_zero, List.set_cons_succ]
      refine wpAnyH_take (i := 10) (oi := { dst := some 3, op := Op.assign (Operand.tmp 45), type := 29, pos := _, after := #[{ on := 9, ground := Ground.data }, { on := 9, ground := Ground.chain }, { on := 0, ground := Ground.phase }, { on := 1, ground := Ground.phase }, { on := 2, ground := Ground.phase }, { on := 3, ground := Ground.phase }, { on := 4, ground := Ground.phase }, { on := 5, ground := Ground.phase }, { on := 6, ground := Ground.phase }, { on := 7, ground := Ground.phase }, { on := 8, ground := Ground.phase }, { on := 9, ground := Ground.phase }], guard := none }) (v := ?_) rfl (by kernel_rfl) (by kernel_rfl) (by kernel_rfl) (fun _ _ _ h => h) (Or.inl ⟨by rfl, ?_⟩) (by exact hHeld) ?_
      rotate_left
      · (intro w hSw; (try dsimp only at hSw); go_simp <;> with_reducible rfl)
      try simp only [Act.put, List.setIfInBounds_toArray, List.set_cons_zero, List.set_cons_succ]
      refine wpAnyH_done (by kernel_rfl) ?_ _
      have HB9 := Lib.hid ((below_drew (Below.refl wy.heap.size wy) 1).trans (HLB7.out.trans ((HLB8.out.mono (by exact HLB7.out.size)).trans (HLB9.out.mono (by exact Nat.le_trans HLB7.out.size HLB8.out.size)))))
      have y3 : u9.cell? ⟨Y, 3, none⟩ = some (.slice va vn vc) := HYC.out u9 HB9.out 3
      clear hHeld hl7 hl8 hl9 y0 y1 y2
      go_wp2_with fail
      refine (ri64_on (w := w0) (vn : Int) HW9.out.is HW9.out.below (by simp only [List.length_append, be8_len, txt_len, List.length_nil]; omega)).mono ?_
      rintro e u10 ⟨a10, n10, c10, rfl, hw10, hl10⟩
      have HB10 := Lib.hid (HB9.out.trans (hl10.mono HB9.out.size))
      have HW10 := Lib.hid hw10
      clear hw10 hl10 y3
      generalize hQQ : PP ++ be8 xe ++ txt xp ++ txt xd ++ be8 (vn : Int) = QQ at *
      have hQL : QQ.length ≤ 100000000000 := by rw [← hQQ]; simp only [List.length_append, be8_len, txt_len]; omega
      have HQQ := Lib.hid hQQ; clear hQQ
      go_wp2_with fail
      go_loopw [3, 6] (fun v i wq => ∃ q : Nat, q ≤ vn ∧ i = .int .i64 (q : Int) ∧ ∃ a2 n2 c2, v = .slice a2 n2 c2 ∧ Wn w0 wq a2 n2 c2 (QQ ++ (xn.take q).flatMap txt) ∧ Below wy.heap.size wy wq) (fun _ i _ => vn - (intOf i).toNat)
      case atStart => exact ⟨0, by omega, rfl, _, _, _, rfl, by simpa using HW10.out, HB10.out⟩
      case round =>
        obtain ⟨q, hq, rfl, a11, n11, c11, rfl, hw11, hb11⟩ := hrel
        have HWQ := Lib.hid hw11; have HBQ := Lib.hid hb11
        clear hw11 hb11
        have y3 : wr.cell? ⟨Y, 3, none⟩ = some (.slice va vn vc) := HYC.out wr HBQ.out 3
        have hlk2 : ((xn.take q).flatMap txt).length ≤ 100008 * 1000 := by
          refine Nat.le_trans (txts_len _ (fun s hs => HFE.out s (List.mem_of_mem_take hs))) ?_
          rw [List.length_take]; omega
        by_cases hlt2 : q < vn
        · obtain ⟨vb, voff, rfl, hxx⟩ := (HVS.out.at_).resolve_left (by omega)
          have hcn := cell_later HBQ.out (hxx q hlt2)
          have hsz : (xn.getD q ByteArray.empty).size ≤ 100000 := by
            refine HFE.out _ ?_
            rw [List.getD_eq_getElem?_getD, List.getElem?_eq_getElem (by rw [HVN.out]; exact hlt2)]
            exact List.getElem_mem _
          have HTQ := Lib.hid (txts_take xn q (by rw [HVN.out]; exact hlt2))
          generalize xn.getD q ByteArray.empty = s at *
          clear hxx
          go_wp2_with fail
          refine (rtext_on (w := w0) s HWQ.out.is HWQ.out.below (by rw [List.length_append]; omega) hsz).mono ?_
          rintro e u12 ⟨a12, n12, c12, rfl, hw12, hl12⟩
          have HW12 := Lib.hid hw12; have HB12 := Lib.hid (HBQ.out.trans (hl12.mono HBQ.out.size))
          clear hw12 hl12
          go_wp2_with fail
          go_roundw
          case rel => exact ⟨q + 1, by omega, by go_num, _, _, _, rfl, by rw [HTQ.out, ← List.append_assoc]; exact HW12.out, HB12.out⟩
          case measure => simp [intOf]; omega
        · obtain rfl : q = vn := by omega
          have z4 : wr.cell? ⟨Y, 4, none⟩ = some (.int .i64 xa) := HYC.out wr HBQ.out 4
          have z5 : wr.cell? ⟨Y, 5, none⟩ = some (.int .i64 xb) := HYC.out wr HBQ.out 5
          generalize hTT : QQ ++ (xn.take q).flatMap txt = TT at *
          have hTL : TT.length ≤ 200000000000 := by rw [← hTT]; rw [List.length_append]; omega
          have HTT := Lib.hid hTT; clear hTT
          have HL13 := Lib.hid (show TT.length ≤ 1000000000000 by omega)
          have HL14 := Lib.hid (show (TT ++ be8 xa).length ≤ 1000000000000 from (by simp only [List.length_append, be8_len, txt_len, List.length_nil]; omega))
          have HL15 := Lib.hid (show (TT ++ be8 xa ++ be8 xb).length ≤ 1000000000000 from (by simp only [List.length_append, be8_len, txt_len, List.length_nil]; omega))
          have HL16 := Lib.hid (show (TT ++ be8 xa ++ be8 xb ++ be8 xc).length ≤ 1000000000000 from (by simp only [List.length_append, be8_len, txt_len, List.length_nil]; omega))
          have HL17 := Lib.hid (show (TT ++ be8 xa ++ be8 xb ++ be8 xc ++ be8 xg).length ≤ 1000000000000 from (by simp only [List.length_append, be8_len, txt_len, List.length_nil]; omega))
          have HL18 := Lib.hid (show (TT ++ be8 xa ++ be8 xb ++ be8 xc ++ be8 xg ++ be8 xh).length ≤ 1000000000000 from (by simp only [List.length_append, be8_len, txt_len, List.length_nil]; omega))
          have HL19 := Lib.hid (show (TT ++ be8 xa ++ be8 xb ++ be8 xc ++ be8 xg ++ be8 xh ++ be8 xi).length ≤ 1000000000000 from (by simp only [List.length_append, be8_len, txt_len, List.length_nil]; omega))
          skip
          go_wp2_with fail
          refine wp_region_held_drew (S := fun w' => w'.cell? ⟨Y, 4, none⟩ = some (.int .i64 xa) ∧ w'.cell? ⟨Y, 5, none⟩ = some (.int .i64 xb)) (by kernel_rfl) ⟨(show wr.drew.cell? ⟨Y, 4, none⟩ = _ from z4), z5⟩ (fun hHeld => ?_)
          refine wpAnyH_take (i := 0) (oi := { dst := some 65, op := Op.move (Operand.tmp 3), type := 29, pos := _, after := #[], guard := none }) (v := ?_) rfl (by kernel_rfl) (by kernel_rfl) (by kernel_rfl) (fun _ _ _ h => h) (Or.inl ⟨by rfl, ?_⟩) (by exact hHeld) ?_
          rotate_left
          · (intro w hSw; (try dsimp only at hSw); go_simp <;> with_reducible rfl)
          try simp only [Act.put, List.setIfInBounds_toArray, List.set_cons_zero, List.set_cons_succ]
          refine wpAnyH_take (i := 1) (oi := { dst := some 66, op := Op.fieldAddr 35 (Operand.tmp 5) 4, type := 0, pos := _, after := #[], guard := none }) (v := ?_) rfl (by kernel_rfl) (by kernel_rfl) (by kernel_rfl) (fun _ _ _ h => h) (Or.inl ⟨by rfl, ?_⟩) (by exact hHeld) ?_
          rotate_left
          · (intro w hSw; (try dsimp only at hSw); go_simp <;> with_reducible rfl)
          try simp only [Act.put, List.setIfInBounds_toArray, List.set_cons_zero, List.set_cons_succ]
          refine wpAnyH_take (i := 2) (oi := { dst := some 67, op := Op.fieldAddr 33 (Operand.tmp 66) 0, type := 0, pos := _, after := #[{ on := 1, ground := Ground.data }], guard := none }) (v := ?_) rfl (by kernel_rfl) (by kernel_rfl) (by kernel_rfl) (fun _ _ _ h => h) (Or.inl ⟨by rfl, ?_⟩) (by exact hHeld) ?_
          rotate_left
          · (intro w hSw; (try dsimp only at hSw); go_simp <;> with_reducible rfl)
          try simp only [Act.put, List.setIfInBounds_toArray, List.set_cons_zero, List.set_cons_succ]
          refine wpAnyH_take (i := 3) (oi := { dst := some 68, op := Op.load 2 (Operand.tmp 67), type := 2, pos := _, after := #[{ on := 2, ground := Ground.data }], guard := none }) (v := ?_) rfl (by kernel_rfl) (by kernel_rfl) (by kernel_rfl) (fun _ _ _ h => h) (Or.inl ⟨by rfl, ?_⟩) (by exact hHeld) ?_
          rotate_left
          · (intro w hSw; (try dsimp only at hSw); go_simp <;> with_reducible rfl)
          try simp only [Act.put, List.setIfInBounds_toArray, List.set_cons_zero, List.set_cons_succ]
          refine wpAnyH_take (i := 5) (oi := { dst := some 70, op := Op.fieldAddr 35 (Operand.tmp 5) 4, type := 0, pos := _, after := #[], guard := none }) (v := ?_) rfl (by kernel_rfl) (by kernel_rfl) (by kernel_rfl) (fun _ _ _ h => h) (Or.inl ⟨by rfl, ?_⟩) (by exact hHeld) ?_
          rotate_left
          · (intro w hSw; (try dsimp only at hSw); go_simp <;> with_reducible rfl)
          try simp only [Act.put, List.setIfInBounds_toArray, List.set_cons_zero, List.set_cons_succ]
          refine wpAnyH_take (i := 6) (oi := { dst := some 71, op := Op.fieldAddr 33 (Operand.tmp 70) 1, type := 0, pos := _, after := #[{ on := 5, ground := Ground.data }], guard := none }) (v := ?_) rfl (by kernel_rfl) (by kernel_rfl) (by kernel_rfl) (fun _ _ _ h => h) (Or.inl ⟨by rfl, ?_⟩) (by exact hHeld) ?_
          rotate_left
          · (intro w hSw; (try dsimp only at hSw); go_simp <;> with_reducible rfl)
          try simp only [Act.put, List.setIfInBounds_toArray, List.set_cons_zero, List.set_cons_succ]
          refine wpAnyH_take (i := 7) (oi := { dst := some 72, op := Op.load 2 (Operand.tmp 71), type := 2, pos := _, after := #[{ on := 6, ground := Ground.data }], guard := none }) (v := ?_) rfl (by kernel_rfl) (by kernel_rfl) (by kernel_rfl) (fun _ _ _ h => h) (Or.inl ⟨by rfl, ?_⟩) (by exact hHeld) ?_
          rotate_left
          · (intro w hSw; (try dsimp only at hSw); go_simp <;> with_reducible rfl)
          try simp only [Act.put, List.setIfInBounds_toArray, List.set_cons_zero, List.set_cons_succ]
          refine wpAnyH_ready (rs := [4]) (by kernel_rfl) (by simp) ?_
          refine AllReadyH.cons (o := { dst := some 69, op := Op.call { callee := Callee.value (Operand.func 32), args := #[Operand.tmp 65, Operand.tmp 68], argTypes := #[29, 2] }, type := 29, pos := _, after := #[{ on := 0, ground := Ground.data }, { on := 3, ground := Ground.data }], guard := none }) rfl (fun K hK => ?_) AllReadyH.nil
          go_simp
          refine (ri64_on (w := w0) xa (by exact (HWQ.out.later (below_drew (Below.refl _ _) 1)).is) (by exact below_drew HWQ.out.below 1) HL13.out).mono ?_
          rintro e u13 ⟨a13, n13, c13, rfl, hw13, hl13⟩
          have HW13 := Lib.hid hw13
          have HLB13 := Lib.hid hl13
          clear hw13
          go_wp2_with fail
          refine hK.out _ _ ⟨cell_later hl13 hHeld.1, cell_later hl13 hHeld.2⟩ (fun hHeld => ?_)
          clear hK K
          try simp only [Act.put, List.setIfInBounds_toArray, List.set_cons_zero, List.set_cons_succ]
          refine wpAnyH_ready (rs := [8]) (by kernel_rfl) (by simp) ?_
          refine AllReadyH.cons (o := { dst := some 73, op := Op.call { callee := Callee.value (Operand.func 32), args := #[Operand.tmp 69, Operand.tmp 72], argTypes := #[29, 2] }, type := 29, pos := _, after := #[{ on := 4, ground := Ground.data }, { on := 7, ground := Ground.data }, { on := 4, ground := Ground.chain }], guard := none }) rfl (fun K hK => ?_) AllReadyH.nil
          go_simp
          refine (ri64_on (w := w0) xb (by exact HW13.out.is) (by exact HW13.out.below) HL14.out).mono ?_
          rintro e u14 ⟨a14, n14, c14, rfl, hw14, hl14⟩
          have HW14 := Lib.hid hw14
          have HLB14 := Lib.hid hl14
          clear hw14
          go_wp2_with fail
          refine hK.out _ _ ⟨cell_later hl14 hHeld.1, cell_later hl14 hHeld.2⟩ (fun hHeld => ?_)
          clear hK K
          try simp only [Act.put, List.setIfInBounds_toArray, List.set_cons_zero, List.set_cons_succ]
          refine wpAnyH_take (i := 9) (oi := { dst := some 3, op := Op.assign (Operand.tmp 73), type := 29, pos := _, after := #[{ on := 8, ground := Ground.data }, { on := 8, ground := Ground.chain }, { on := 0, ground := Ground.phase }, { on := 1, ground := Ground.phase }, { on := 2, ground := Ground.phase }, { on := 3, ground := Ground.phase }, { on := 4, ground := Ground.phase }, { on := 5, ground := Ground.phase }, { on := 6, ground := Ground.phase }, { on := 7, ground := Ground.phase }, { on := 8, ground := Ground.phase }], guard := none }) (v := ?_) rfl (by kernel_rfl) (by kernel_rfl) (by kernel_rfl) (fun _ _ _ h => h) (Or.inl ⟨by rfl, ?_⟩) (by exact hHeld) ?_
          rotate_left
          · (intro w hSw; (try dsimp only at hSw); go_simp <;> with_reducible rfl)
          try simp only [Act.put, List.setIfInBounds_toArray, List.set_cons_zero, List.set_cons_succ]
          refine wpAnyH_done (by kernel_rfl) ?_ _
          have HB14 := Lib.hid (HBQ.out.trans (((below_drew (Below.refl wr.heap.size wr) 1).trans (HLB13.out.trans (HLB14.out.mono HLB13.out.size))).mono HBQ.out.size))
          have z6 : u14.cell? ⟨Y, 6, none⟩ = some (.int .i64 xc) := HYC.out u14 HB14.out 6
          have z7 : u14.cell? ⟨Y, 7, none⟩ = some (.int .i64 xg) := HYC.out u14 HB14.out 7
          clear hHeld z4 z5 hl13 hl14
          go_wp2_with fail
          refine wp_region_held_drew (S := fun w' => w'.cell? ⟨Y, 6, none⟩ = some (.int .i64 xc) ∧ w'.cell? ⟨Y, 7, none⟩ = some (.int .i64 xg)) (by kernel_rfl) ⟨(show u14.drew.cell? ⟨Y, 6, none⟩ = _ from z6), z7⟩ (fun hHeld => ?_)
          refine wpAnyH_take (i := 0) (oi := { dst := some 74, op := Op.move (Operand.tmp 3), type := 29, pos := _, after := #[], guard := none }) (v := ?_) rfl (by kernel_rfl) (by kernel_rfl) (by kernel_rfl) (fun _ _ _ h => h) (Or.inl ⟨by rfl, ?_⟩) (by exact hHeld) ?_
          rotate_left
          · (intro w hSw; (try dsimp only at hSw); go_simp <;> with_reducible rfl)
          try simp only [Act.put, List.setIfInBounds_toArray, List.set_cons_zero, List.set_cons_succ]
          refine wpAnyH_take (i := 1) (oi := { dst := some 75, op := Op.fieldAddr 35 (Operand.tmp 5) 4, type := 0, pos := _, after := #[], guard := none }) (v := ?_) rfl (by kernel_rfl) (by kernel_rfl) (by kernel_rfl) (fun _ _ _ h => h) (Or.inl ⟨by rfl, ?_⟩) (by exact hHeld) ?_
          rotate_left
          · (intro w hSw; (try dsimp only at hSw); go_simp <;> with_reducible rfl)
          try simp only [Act.put, List.setIfInBounds_toArray, List.set_cons_zero, List.set_cons_succ]
          refine wpAnyH_take (i := 2) (oi := { dst := some 76, op := Op.fieldAddr 33 (Operand.tmp 75) 2, type := 0, pos := _, after := #[{ on := 1, ground := Ground.data }], guard := none }) (v := ?_) rfl (by kernel_rfl) (by kernel_rfl) (by kernel_rfl) (fun _ _ _ h => h) (Or.inl ⟨by rfl, ?_⟩) (by exact hHeld) ?_
          rotate_left
          · (intro w hSw; (try dsimp only at hSw); go_simp <;> with_reducible rfl)
          try simp only [Act.put, List.setIfInBounds_toArray, List.set_cons_zero, List.set_cons_succ]
          refine wpAnyH_take (i := 3) (oi := { dst := some 77, op := Op.load 3 (Operand.tmp 76), type := 3, pos := _, after := #[{ on := 2, ground := Ground.data }], guard := none }) (v := ?_) rfl (by kernel_rfl) (by kernel_rfl) (by kernel_rfl) (fun _ _ _ h => h) (Or.inl ⟨by rfl, ?_⟩) (by exact hHeld) ?_
          rotate_left
          · (intro w hSw; (try dsimp only at hSw); go_simp <;> with_reducible rfl)
          try simp only [Act.put, List.setIfInBounds_toArray, List.set_cons_zero, List.set_cons_succ]
          refine wpAnyH_take (i := 5) (oi := { dst := some 79, op := Op.fieldAddr 35 (Operand.tmp 5) 4, type := 0, pos := _, after := #[], guard := none }) (v := ?_) rfl (by kernel_rfl) (by kernel_rfl) (by kernel_rfl) (fun _ _ _ h => h) (Or.inl ⟨by rfl, ?_⟩) (by exact hHeld) ?_
          rotate_left
          · (intro w hSw; (try dsimp only at hSw); go_simp <;> with_reducible rfl)
          try simp only [Act.put, List.setIfInBounds_toArray, List.set_cons_zero, List.set_cons_succ]
          refine wpAnyH_take (i := 6) (oi := { dst := some 80, op := Op.fieldAddr 33 (Operand.tmp 79) 3, type := 0, pos := _, after := #[{ on := 5, ground := Ground.data }], guard := none }) (v := ?_) rfl (by kernel_rfl) (by kernel_rfl) (by kernel_rfl) (fun _ _ _ h => h) (Or.inl ⟨by rfl, ?_⟩) (by exact hHeld) ?_
          rotate_left
          · (intro w hSw; (try dsimp only at hSw); go_simp <;> with_reducible rfl)
          try simp only [Act.put, List.setIfInBounds_toArray, List.set_cons_zero, List.set_cons_succ]
          refine wpAnyH_take (i := 7) (oi := { dst := some 81, op := Op.load 3 (Operand.tmp 80), type := 3, pos := _, after := #[{ on := 6, ground := Ground.data }], guard := none }) (v := ?_) rfl (by kernel_rfl) (by kernel_rfl) (by kernel_rfl) (fun _ _ _ h => h) (Or.inl ⟨by rfl, ?_⟩) (by exact hHeld) ?_
          rotate_left
          · (intro w hSw; (try dsimp only at hSw); go_simp <;> with_reducible rfl)
          try simp only [Act.put, List.setIfInBounds_toArray, List.set_cons_zero, List.set_cons_succ]
          refine wpAnyH_ready (rs := [4]) (by kernel_rfl) (by simp) ?_
          refine AllReadyH.cons (o := { dst := some 78, op := Op.call { callee := Callee.value (Operand.func 32), args := #[Operand.tmp 74, Operand.tmp 77], argTypes := #[29, 2] }, type := 29, pos := _, after := #[{ on := 0, ground := Ground.data }, { on := 3, ground := Ground.data }], guard := none }) rfl (fun K hK => ?_) AllReadyH.nil
          go_simp
          refine (ri64_on (w := w0) xc (by exact (HW14.out.later (below_drew (Below.refl _ _) 1)).is) (by exact below_drew HW14.out.below 1) HL15.out).mono ?_
          rintro e u15 ⟨a15, n15, c15, rfl, hw15, hl15⟩
          have HW15 := Lib.hid hw15
          have HLB15 := Lib.hid hl15
          clear hw15
          go_wp2_with fail
          refine hK.out _ _ ⟨cell_later hl15 hHeld.1, cell_later hl15 hHeld.2⟩ (fun hHeld => ?_)
          clear hK K
          try simp only [Act.put, List.setIfInBounds_toArray, List.set_cons_zero, List.set_cons_succ]
          refine wpAnyH_ready (rs := [8]) (by kernel_rfl) (by simp) ?_
          refine AllReadyH.cons (o := { dst := some 82, op := Op.call { callee := Callee.value (Operand.func 32), args := #[Operand.tmp 78, Operand.tmp 81], argTypes := #[29, 2] }, type := 29, pos := _, after := #[{ on := 4, ground := Ground.data }, { on := 7, ground := Ground.data }, { on := 4, ground := Ground.chain }], guard := none }) rfl (fun K hK => ?_) AllReadyH.nil
          go_simp
          refine (ri64_on (w := w0) xg (by exact HW15.out.is) (by exact HW15.out.below) HL16.out).mono ?_
          rintro e u16 ⟨a16, n16, c16, rfl, hw16, hl16⟩
          have HW16 := Lib.hid hw16
          have HLB16 := Lib.hid hl16
          clear hw16
          go_wp2_with fail
          refine hK.out _ _ ⟨cell_later hl16 hHeld.1, cell_later hl16 hHeld.2⟩ (fun hHeld => ?_)
          clear hK K
          try simp only [Act.put, List.setIfInBounds_toArray, List.set_cons_zero, List.set_cons_succ]
          refine wpAnyH_take (i := 9) (oi := { dst := some 3, op := Op.assign (Operand.tmp 82), type := 29, pos := _, after := #[{ on := 8, ground := Ground.data }, { on := 8, ground := Ground.chain }, { on := 0, ground := Ground.phase }, { on := 1, ground := Ground.phase }, { on := 2, ground := Ground.phase }, { on := 3, ground := Ground.phase }, { on := 4, ground := Ground.phase }, { on := 5, ground := Ground.phase }, { on := 6, ground := Ground.phase }, { on := 7, ground := Ground.phase }, { on := 8, ground := Ground.phase }], guard := none }) (v := ?_) rfl (by kernel_rfl) (by kernel_rfl) (by kernel_rfl) (fun _ _ _ h => h) (Or.inl ⟨by rfl, ?_⟩) (by exact hHeld) ?_
          rotate_left
          · (intro w hSw; (try dsimp only at hSw); go_simp <;> with_reducible rfl)
          try simp only [Act.put, List.setIfInBounds_toArray, List.set_cons_zero, List.set_cons_succ]
          refine wpAnyH_done (by kernel_rfl) ?_ _
          have HB16 := Lib.hid (HB14.out.trans (((below_drew (Below.refl u14.heap.size u14) 1).trans (HLB15.out.trans (HLB16.out.mono HLB15.out.size))).mono HB14.out.size))
          have z8 : u16.cell? ⟨Y, 8, none⟩ = some (.int .i64 xh) := HYC.out u16 HB16.out 8
          have z9 : u16.cell? ⟨Y, 9, none⟩ = some (.int .i64 xi) := HYC.out u16 HB16.out 9
          have z10 : u16.cell? ⟨Y, 10, none⟩ = some (.int .i64 xj) := HYC.out u16 HB16.out 10
          clear hHeld z6 z7 hl15 hl16
          go_wp2_with fail
          refine wp_region_held_drew (S := fun w' => w'.cell? ⟨Y, 8, none⟩ = some (.int .i64 xh) ∧ w'.cell? ⟨Y, 9, none⟩ = some (.int .i64 xi) ∧ w'.cell? ⟨Y, 10, none⟩ = some (.int .i64 xj)) (by kernel_rfl) ⟨(show u16.drew.cell? ⟨Y, 8, none⟩ = _ from z8), z9, z10⟩ (fun hHeld => ?_)
          refine wpAnyH_take (i := 0) (oi := { dst := some 83, op := Op.move (Operand.tmp 3), type := 29, pos := _, after := #[], guard := none }) (v := ?_) rfl (by kernel_rfl) (by kernel_rfl) (by kernel_rfl) (fun _ _ _ h => h) (Or.inl ⟨by rfl, ?_⟩) (by exact hHeld) ?_
          rotate_left
          · (intro w hSw; (try dsimp only at hSw); go_simp <;> with_reducible rfl)
          try simp only [Act.put, List.setIfInBounds_toArray, List.set_cons_zero, List.set_cons_succ]
          refine wpAnyH_take (i := 1) (oi := { dst := some 84, op := Op.fieldAddr 35 (Operand.tmp 5) 4, type := 0, pos := _, after := #[], guard := none }) (v := ?_) rfl (by kernel_rfl) (by kernel_rfl) (by kernel_rfl) (fun _ _ _ h => h) (Or.inl ⟨by rfl, ?_⟩) (by exact hHeld) ?_
          rotate_left
          · (intro w hSw; (try dsimp only at hSw); go_simp <;> with_reducible rfl)
          try simp only [Act.put, List.setIfInBounds_toArray, List.set_cons_zero, List.set_cons_succ]
          refine wpAnyH_take (i := 2) (oi := { dst := some 85, op := Op.fieldAddr 33 (Operand.tmp 84) 4, type := 0, pos := _, after := #[{ on := 1, ground := Ground.data }], guard := none }) (v := ?_) rfl (by kernel_rfl) (by kernel_rfl) (by kernel_rfl) (fun _ _ _ h => h) (Or.inl ⟨by rfl, ?_⟩) (by exact hHeld) ?_
          rotate_left
          · (intro w hSw; (try dsimp only at hSw); go_simp <;> with_reducible rfl)
          try simp only [Act.put, List.setIfInBounds_toArray, List.set_cons_zero, List.set_cons_succ]
          refine wpAnyH_take (i := 3) (oi := { dst := some 86, op := Op.load 2 (Operand.tmp 85), type := 2, pos := _, after := #[{ on := 2, ground := Ground.data }], guard := none }) (v := ?_) rfl (by kernel_rfl) (by kernel_rfl) (by kernel_rfl) (fun _ _ _ h => h) (Or.inl ⟨by rfl, ?_⟩) (by exact hHeld) ?_
          rotate_left
          · (intro w hSw; (try dsimp only at hSw); go_simp <;> with_reducible rfl)
          try simp only [Act.put, List.setIfInBounds_toArray, List.set_cons_zero, List.set_cons_succ]
          refine wpAnyH_take (i := 5) (oi := { dst := some 88, op := Op.fieldAddr 35 (Operand.tmp 5) 4, type := 0, pos := _, after := #[], guard := none }) (v := ?_) rfl (by kernel_rfl) (by kernel_rfl) (by kernel_rfl) (fun _ _ _ h => h) (Or.inl ⟨by rfl, ?_⟩) (by exact hHeld) ?_
          rotate_left
          · (intro w hSw; (try dsimp only at hSw); go_simp <;> with_reducible rfl)
          try simp only [Act.put, List.setIfInBounds_toArray, List.set_cons_zero, List.set_cons_succ]
          refine wpAnyH_take (i := 6) (oi := { dst := some 89, op := Op.fieldAddr 33 (Operand.tmp 88) 5, type := 0, pos := _, after := #[{ on := 5, ground := Ground.data }], guard := none }) (v := ?_) rfl (by kernel_rfl) (by kernel_rfl) (by kernel_rfl) (fun _ _ _ h => h) (Or.inl ⟨by rfl, ?_⟩) (by exact hHeld) ?_
          rotate_left
          · (intro w hSw; (try dsimp only at hSw); go_simp <;> with_reducible rfl)
          try simp only [Act.put, List.setIfInBounds_toArray, List.set_cons_zero, List.set_cons_succ]
          refine wpAnyH_take (i := 7) (oi := { dst := some 90, op := Op.load 3 (Operand.tmp 89), type := 3, pos := _, after := #[{ on := 6, ground := Ground.data }], guard := none }) (v := ?_) rfl (by kernel_rfl) (by kernel_rfl) (by kernel_rfl) (fun _ _ _ h => h) (Or.inl ⟨by rfl, ?_⟩) (by exact hHeld) ?_
          rotate_left
          · (intro w hSw; (try dsimp only at hSw); go_simp <;> with_reducible rfl)
          try simp only [Act.put, List.setIfInBounds_toArray, List.set_cons_zero, List.set_cons_succ]
          refine wpAnyH_take (i := 9) (oi := { dst := some 92, op := Op.fieldAddr 35 (Operand.tmp 5) 4, type := 0, pos := _, after := #[], guard := none }) (v := ?_) rfl (by kernel_rfl) (by kernel_rfl) (by kernel_rfl) (fun _ _ _ h => h) (Or.inl ⟨by rfl, ?_⟩) (by exact hHeld) ?_
          rotate_left
          · (intro w hSw; (try dsimp only at hSw); go_simp <;> with_reducible rfl)
          try simp only [Act.put, List.setIfInBounds_toArray, List.set_cons_zero, List.set_cons_succ]
          refine wpAnyH_take (i := 10) (oi := { dst := some 93, op := Op.fieldAddr 33 (Operand.tmp 92) 6, type := 0, pos := _, after := #[{ on := 9, ground := Ground.data }], guard := none }) (v := ?_) rfl (by kernel_rfl) (by kernel_rfl) (by kernel_rfl) (fun _ _ _ h => h) (Or.inl ⟨by rfl, ?_⟩) (by exact hHeld) ?_
          rotate_left
          · (intro w hSw; (try dsimp only at hSw); go_simp <;> with_reducible rfl)
          try simp only [Act.put, List.setIfInBounds_toArray, List.set_cons_zero, List.set_cons_succ]
          refine wpAnyH_take (i := 11) (oi := { dst := some 94, op := Op.load 3 (Operand.tmp 93), type := 3, pos := _, after := #[{ on := 10, ground := Ground.data }], guard := none }) (v := ?_) rfl (by kernel_rfl) (by kernel_rfl) (by kernel_rfl) (fun _ _ _ h => h) (Or.inl ⟨by rfl, ?_⟩) (by exact hHeld) ?_
          rotate_left
          · (intro w hSw; (try dsimp only at hSw); go_simp <;> with_reducible rfl)
          try simp only [Act.put, List.setIfInBounds_toArray, List.set_cons_zero, List.set_cons_succ]
          refine wpAnyH_ready (rs := [4]) (by kernel_rfl) (by simp) ?_
          refine AllReadyH.cons (o := { dst := some 87, op := Op.call { callee := Callee.value (Operand.func 32), args := #[Operand.tmp 83, Operand.tmp 86], argTypes := #[29, 2] }, type := 29, pos := _, after := #[{ on := 0, ground := Ground.data }, { on := 3, ground := Ground.data }], guard := none }) rfl (fun K hK => ?_) AllReadyH.nil
          go_simp
          refine (ri64_on (w := w0) xh (by exact (HW16.out.later (below_drew (Below.refl _ _) 1)).is) (by exact below_drew HW16.out.below 1) HL17.out).mono ?_
          rintro e u17 ⟨a17, n17, c17, rfl, hw17, hl17⟩
          have HW17 := Lib.hid hw17
          have HLB17 := Lib.hid hl17
          clear hw17
          go_wp2_with fail
          refine hK.out _ _ ⟨cell_later hl17 hHeld.1, cell_later hl17 hHeld.2.1, cell_later hl17 hHeld.2.2⟩ (fun hHeld => ?_)
          clear hK K
          try simp only [Act.put, List.setIfInBounds_toArray, List.set_cons_zero, List.set_cons_succ]
          refine wpAnyH_ready (rs := [8]) (by kernel_rfl) (by simp) ?_
          refine AllReadyH.cons (o := { dst := some 91, op := Op.call { callee := Callee.value (Operand.func 32), args := #[Operand.tmp 87, Operand.tmp 90], argTypes := #[29, 2] }, type := 29, pos := _, after := #[{ on := 4, ground := Ground.data }, { on := 7, ground := Ground.data }, { on := 4, ground := Ground.chain }], guard := none }) rfl (fun K hK => ?_) AllReadyH.nil
          go_simp
          refine (ri64_on (w := w0) xi (by exact HW17.out.is) (by exact HW17.out.below) HL18.out).mono ?_
          rintro e u18 ⟨a18, n18, c18, rfl, hw18, hl18⟩
          have HW18 := Lib.hid hw18
          have HLB18 := Lib.hid hl18
          clear hw18
          go_wp2_with fail
          refine hK.out _ _ ⟨cell_later hl18 hHeld.1, cell_later hl18 hHeld.2.1, cell_later hl18 hHeld.2.2⟩ (fun hHeld => ?_)
          clear hK K
          try simp only [Act.put, List.setIfInBounds_toArray, List.set_cons_zero, List.set_cons_succ]
          refine wpAnyH_ready (rs := [12]) (by kernel_rfl) (by simp) ?_
          refine AllReadyH.cons (o := { dst := some 95, op := Op.call { callee := Callee.value (Operand.func 32), args := #[Operand.tmp 91, Operand.tmp 94], argTypes := #[29, 2] }, type := 29, pos := _, after := #[{ on := 8, ground := Ground.data }, { on := 11, ground := Ground.data }, { on := 8, ground := Ground.chain }], guard := none }) rfl (fun K hK => ?_) AllReadyH.nil
          go_simp
          refine (ri64_on (w := w0) xj (by exact HW18.out.is) (by exact HW18.out.below) HL19.out).mono ?_
          rintro e u19 ⟨a19, n19, c19, rfl, hw19, hl19⟩
          have HW19 := Lib.hid hw19
          have HLB19 := Lib.hid hl19
          clear hw19
          go_wp2_with fail
          refine hK.out _ _ ⟨cell_later hl19 hHeld.1, cell_later hl19 hHeld.2.1, cell_later hl19 hHeld.2.2⟩ (fun hHeld => ?_)
          clear hK K
          try simp only [Act.put, List.setIfInBounds_toArray, List.set_cons_zero, List.set_cons_succ]
          refine wpAnyH_take (i := 13) (oi := { dst := some 3, op := Op.assign (Operand.tmp 95), type := 29, pos := _, after := #[{ on := 12, ground := Ground.data }, { on := 12, ground := Ground.chain }, { on := 0, ground := Ground.phase }, { on := 1, ground := Ground.phase }, { on := 2, ground := Ground.phase }, { on := 3, ground := Ground.phase }, { on := 4, ground := Ground.phase }, { on := 5, ground := Ground.phase }, { on := 6, ground := Ground.phase }, { on := 7, ground := Ground.phase }, { on := 8, ground := Ground.phase }, { on := 9, ground := Ground.phase }, { on := 10, ground := Ground.phase }, { on := 11, ground := Ground.phase }, { on := 12, ground := Ground.phase }], guard := none }) (v := ?_) rfl (by kernel_rfl) (by kernel_rfl) (by kernel_rfl) (fun _ _ _ h => h) (Or.inl ⟨by rfl, ?_⟩) (by exact hHeld) ?_
          rotate_left
          · (intro w hSw; (try dsimp only at hSw); go_simp <;> with_reducible rfl)
          try simp only [Act.put, List.setIfInBounds_toArray, List.set_cons_zero, List.set_cons_succ]
          refine wpAnyH_done (by kernel_rfl) ?_ _
          clear hHeld z8 z9 z10 hl17 hl18 hl19
          go_wp2_with fail
          go_roundw
          case rel =>
            refine ⟨k + 1, by omega, by go_num, _, _, _, rfl, ?_⟩
            rw [HTK.out, ← List.append_assoc, HPP.out, resB_eq, HVN.out, HQQ.out]
            have e : xn.take q = xn := List.take_of_length_le (by rw [HVN.out]; exact Nat.le_refl _)
            have ht := HTT.out
            rw [e] at ht
            rw [ht]
            exact HW19.out
          case measure => simp [intOf]; omega
    · obtain rfl : k = n := by omega
      go_wp2_with fail
      go_ret
      rw [HXX.out]
      have e : (resL l).take k = resL l := List.take_of_length_le (by rw [HLN.out]; exact Nat.le_refl _)
      rw [← e]
      exact ⟨_, _, _, rfl, HG.out _ _ _ _ _ HW6.out⟩
end Go.Proofs.Ytpikdeikcmdcmaa
