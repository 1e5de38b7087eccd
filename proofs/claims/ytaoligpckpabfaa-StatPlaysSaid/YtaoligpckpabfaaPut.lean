/-
  Nodes in bytes. No condition.
-/
import Derived.Test.YtaoligpckpabfaaEq
import Derived.StillTailTactics
import Derived.Deep.RegionHeld3
namespace Go.Proofs.Ytaoligpckpabfaa
open Go.RowKit
def putN (s : Nd) : List UInt8 := be8s [s.made, s.changed, s.version, s.kids, s.owner, s.next] ++ txt s.data ++ be8 (s.names.length : Int) ++ s.names.flatMap txt
/-- a node that is not too long -/
structure FitN (s : Nd) : Prop where
  data : s.data.size ≤ 100000
  names : s.names.length ≤ 1000
  each : ∀ x ∈ s.names, x.size ≤ 100000
theorem txts_len (l : List ByteArray) (h : ∀ s ∈ l, s.size ≤ 100000) : (l.flatMap txt).length ≤ 100008 * l.length := by
  induction l with
  | nil => simp
  | cons s l ih =>
    have h1 := ih (fun t ht => h t (List.mem_cons_of_mem _ ht))
    have h2 := h s (by simp)
    rw [List.flatMap_cons, List.length_append, txt_len, List.length_cons]; omega
theorem putN_len (s : Nd) (h : FitN s) : (putN s).length ≤ 200000000 := by
  have h1 := txts_len s.names h.each
  have h2 := h.data; have h3 := h.names
  simp only [putN, List.length_append, be8_len, txt_len, be8s_len, List.length_cons, List.length_nil]
  omega
theorem txts_take (l : List ByteArray) (k : Nat) (hk : k < l.length) : (l.take (k + 1)).flatMap txt = (l.take k).flatMap txt ++ txt (l.getD k ByteArray.empty) := by
  rw [List.take_succ_eq_append_getElem hk, List.flatMap_append]; simp [hk]
/-- what has been written so far, by a call that began at w -/
structure Wn (w W : World) (a : Option Addr) (n c : Nat) (L : List UInt8) : Prop where
  own : OwnB W w.heap.size 5 (.slice a n c) L
  below : Below w.heap.size w W
theorem Wn.is {w W : World} {a : Option Addr} {n c : Nat} {L : List UInt8} (h : Wn w W a n c L) : IsB W a n c L := by
  obtain ⟨a2, c2, e, h2⟩ := h.own.isB
  simp only [Value.slice.injEq] at e
  obtain ⟨rfl, rfl, rfl⟩ := e
  exact h2
theorem Wn.later {w W W' : World} {a : Option Addr} {n c : Nat} {L : List UInt8} (h : Wn w W a n c L) (hb : Below W.heap.size W W') : Wn w W' a n c L :=
  ⟨h.own.below hb, h.below.trans (hb.mono h.below.size)⟩
theorem wn_of {w W : World} {B : Nat} {v : Value} {L : List UInt8} (hB : w.heap.size ≤ B) (h : OwnB W B 5 v L) (hb : Below w.heap.size w W) : ∃ a n c, v = .slice a n c ∧ Wn w W a n c L := by
  obtain ⟨a, c, rfl, _⟩ := h.isB
  exact ⟨a, _, c, rfl, h.mono hB, hb⟩
theorem i64_on {w W : World} {a : Option Addr} {n c : Nat} {L : List UInt8} (z : Int) (h : IsB W a n c L) (hb : Below w.heap.size w W) (hl : L.length ≤ 1000000000000) :
    Calls Try.prog 37 #[.slice a n c, .int .i64 z] W fun e w' => ∃ a n c, e = .returned (.slice a n c) ∧ Wn w w' a n c (L ++ be8 z) ∧ Below W.heap.size W w' := by
  refine (i64_any a n c L z W h (by have := h.len; omega)).mono ?_
  rintro e w' ⟨v, rfl, h1, h2⟩
  obtain ⟨a2, n2, c2, rfl, h3⟩ := wn_of hb.size h1 (hb.trans (h2.mono hb.size))
  exact ⟨a2, n2, c2, rfl, h3, h2⟩
theorem text_on {w W : World} {a : Option Addr} {n c : Nat} {L : List UInt8} (z : ByteArray) (h : IsB W a n c L) (hb : Below w.heap.size w W) (hl : L.length ≤ 1000000000000) (hz : z.size ≤ 100000) :
    Calls Try.prog 38 #[.slice a n c, .string z] W fun e w' => ∃ a n c, e = .returned (.slice a n c) ∧ Wn w w' a n c (L ++ txt z) ∧ Below W.heap.size W w' := by
  refine (text_any a n c L z W h (by have := h.len; omega) (by omega)).mono ?_
  rintro e w' ⟨v, rfl, h1, h2⟩
  obtain ⟨a2, n2, c2, rfl, h3⟩ := wn_of hb.size h1 (hb.trans (h2.mono hb.size))
  exact ⟨a2, n2, c2, rfl, h3, h2⟩
theorem all_on {w W : World} {a : Option Addr} {n c : Nat} {L : List UInt8} (ai : Option Addr) (m ci : Nat) (zs : List Int) (h : IsB W a n c L) (hb : Below w.heap.size w W) (hl : L.length ≤ 1000000000000) (hi : IsI W ai m ci zs) (hm : m ≤ 1000) :
    Calls Try.prog 36 #[.slice a n c, .slice ai m ci] W fun e w' => ∃ a n c, e = .returned (.slice a n c) ∧ Wn w w' a n c (L ++ be8s zs) ∧ Below W.heap.size W w' := by
  refine (pall_any a n c L ai m ci zs W h hi (by have := h.len; omega) (by omega)).mono ?_
  rintro e w' ⟨v, rfl, h1, h2⟩
  obtain ⟨a2, n2, c2, rfl, h3⟩ := wn_of hb.size h1 (hb.trans (h2.mono hb.size))
  exact ⟨a2, n2, c2, rfl, h3, h2⟩

set_option maxHeartbeats 4000000 in
theorem put_any (x : Nd) (vo : Option Addr) (q vc : Nat) (w : World) (hs : IsS w vo q vc x.names) (hf : FitN x) :
    Calls Try.prog 24 #[aggN x (.slice vo q vc)] w fun e w' => ∃ a n c, e = .returned (.slice a n c) ∧ Wn w w' a n c (putN x) ∧ Below w.heap.size w w' := by
  have HF := Lib.hid hf
  have hlen2 := txts_len x.names hf.each
  have hqn := hs.len
  have HF4 := hf.names
  cases x with
  | mk xa xb xc xg xh xi xj xd xe xn =>
  simp only [aggN, cellsN, putN] at *
  go_enter Try.func24, Try.ntmps24
  go_wp2_with fail
  have hB0 : Below w.heap.size w (w.alloc (.cells #[.int .i64 xa, .int .i64 xb, .int .i64 xc, .int .i64 xg, .int .i64 xh, .int .i64 xi, .int .i64 xj, .string xd, .int .i64 xe, .slice vo q vc] 27)) := (Below.refl _ _).alloc (Nat.le_refl _) _
  have hX : (w.alloc (.cells #[.int .i64 xa, .int .i64 xb, .int .i64 xc, .int .i64 xg, .int .i64 xh, .int .i64 xi, .int .i64 xj, .string xd, .int .i64 xe, .slice vo q vc] 27)).heap[w.heap.size]? = some (.cells #[.int .i64 xa, .int .i64 xb, .int .i64 xc, .int .i64 xg, .int .i64 xh, .int .i64 xi, .int .i64 xj, .string xd, .int .i64 xe, .slice vo q vc] 27) := heap_new _ _
  have hZ : w.heap.size + 1 = (w.alloc (.cells #[.int .i64 xa, .int .i64 xb, .int .i64 xc, .int .i64 xg, .int .i64 xh, .int .i64 xi, .int .i64 xj, .string xd, .int .i64 xe, .slice vo q vc] 27)).heap.size := by simp
  have HS0 := Lib.hid (hs.below hB0)
  have hgoal : ∀ a n c L (W : World), Wn (w.alloc (.cells #[.int .i64 xa, .int .i64 xb, .int .i64 xc, .int .i64 xg, .int .i64 xh, .int .i64 xi, .int .i64 xj, .string xd, .int .i64 xe, .slice vo q vc] 27)) W a n c L → Wn w W a n c L ∧ Below w.heap.size w W := fun a n c L W hw => by
    have hb := hB0.trans (hw.below.mono hB0.size)
    exact ⟨⟨hw.own.mono hB0.size, hb⟩, hb⟩
  have HG := Lib.hid hgoal
  generalize (w.alloc (.cells #[.int .i64 xa, .int .i64 xb, .int .i64 xc, .int .i64 xg, .int .i64 xh, .int .i64 xi, .int .i64 xj, .string xd, .int .i64 xe, .slice vo q vc] 27)) = w0 at *
  generalize hXX : w.heap.size = X at *
  have HXX := Lib.hid hXX
  have HX := Lib.hid hX
  clear hX hB0 hgoal hs hXX
  have hb1 : Below w0.heap.size w0 (w0.alloc (.cells #[.int .i64 xa, .int .i64 xb, .int .i64 xc, .int .i64 xg, .int .i64 xh, .int .i64 xe] 2)) := (Below.refl _ _).alloc (Nat.le_refl _) _
  refine (all_on (w := w0) (some ⟨X + 1, 0, none⟩) 6 6 [xa, xb, xc, xg, xh, xe] (isB_nil _) hb1 (by simp) (isI_new w0 [xa, xb, xc, xg, xh, xe] _ rfl _ _ _ hZ 6 rfl 6) (by omega)).mono ?_
  rintro e u1 ⟨a1, n1, c1, rfl, hw1, hl1⟩
  rw [List.nil_append] at hw1
  have HW1 := Lib.hid hw1
  have hl1' := hb1.trans (hl1.mono hb1.size)
  have hc7 : u1.cell? ⟨X, 7, none⟩ = some (.string xd) := cell_later hl1' (show w0.cell? ⟨X, 7, none⟩ = _ by rw [cell_heap HX.out]; rfl)
  have hc9 : u1.cell? ⟨X, 9, none⟩ = some (.slice vo q vc) := cell_later hl1' (show w0.cell? ⟨X, 9, none⟩ = _ by rw [cell_heap HX.out]; rfl)
  have HL1 := Lib.hid (show (be8s [xa, xb, xc, xg, xh, xe]).length ≤ 1000000000000 by simp [be8s_len])
  have HDD := HF.out.data
  simp only at HDD
  have HL2 := Lib.hid (show (be8s [xa, xb, xc, xg, xh, xe] ++ txt xd).length ≤ 1000000000000 by simp only [List.length_append, be8s_len, txt_len, List.length_cons, List.length_nil]; omega)
  have hPL : (be8s [xa, xb, xc, xg, xh, xe] ++ txt xd ++ be8 (q : Int)).length ≤ 200000000000 := by simp only [List.length_append, be8s_len, be8_len, txt_len, List.length_cons, List.length_nil]; omega
  clear hw1 hl1 hl1' hb1 hZ
  go_wp2_with fail
  refine wp_region_held_drew (S := fun w' => w'.cell? ⟨X, 7, none⟩ = some (.string xd) ∧ w'.cell? ⟨X, 9, none⟩ = some (.slice vo q vc)) (by kernel_rfl) ⟨hc7, hc9⟩ (fun hHeld => ?_)
  refine wpAnyH_take (i := 0) (oi := { dst := some 25, op := Op.move (Operand.tmp 3), type := 48, pos := _, after := #[], guard := none }) (v := ?_) rfl (by kernel_rfl) (by kernel_rfl) (by kernel_rfl) (fun _ _ _ h => h) (Or.inl ⟨by rfl, ?_⟩) (by exact hHeld) ?_
  rotate_left
  · (intro w hSw; (try dsimp only at hSw); go_simp <;> with_reducible rfl)
  try simp only [Act.put, List.setIfInBounds_toArray, List.set_cons_zero, List.set_cons_succ]
  refine wpAnyH_take (i := 1) (oi := { dst := some 26, op := Op.fieldAddr 27 (Operand.tmp 1) 1, type := 0, pos := _, after := #[], guard := none }) (v := ?_) rfl (by kernel_rfl) (by kernel_rfl) (by kernel_rfl) (fun _ _ _ h => h) (Or.inl ⟨by rfl, ?_⟩) (by exact hHeld) ?_
  rotate_left
  · (intro w hSw; (try dsimp only at hSw); go_simp <;> with_reducible rfl)
  try simp only [Act.put, List.setIfInBounds_toArray, List.set_cons_zero, List.set_cons_succ]
  refine wpAnyH_take (i := 2) (oi := { dst := some 27, op := Op.load 9 (Operand.tmp 26), type := 9, pos := _, after := #[{ on := 1, ground := Ground.data }], guard := none }) (v := ?_) rfl (by kernel_rfl) (by kernel_rfl) (by kernel_rfl) (fun _ _ _ h => h) (Or.inl ⟨by rfl, ?_⟩) (by exact hHeld) ?_
  rotate_left
  · (intro w hSw; (try dsimp only at hSw); go_simp <;> with_reducible rfl)
  try simp only [Act.put, List.setIfInBounds_toArray, List.set_cons_zero, List.set_cons_succ]
  refine wpAnyH_take (i := 4) (oi := { dst := some 29, op := Op.fieldAddr 27 (Operand.tmp 1) 3, type := 0, pos := _, after := #[], guard := none }) (v := ?_) rfl (by kernel_rfl) (by kernel_rfl) (by kernel_rfl) (fun _ _ _ h => h) (Or.inl ⟨by rfl, ?_⟩) (by exact hHeld) ?_
  rotate_left
  · (intro w hSw; (try dsimp only at hSw); go_simp <;> with_reducible rfl)
  try simp only [Act.put, List.setIfInBounds_toArray, List.set_cons_zero, List.set_cons_succ]
  refine wpAnyH_take (i := 5) (oi := { dst := some 30, op := Op.load 22 (Operand.tmp 29), type := 22, pos := _, after := #[{ on := 4, ground := Ground.data }], guard := none }) (v := ?_) rfl (by kernel_rfl) (by kernel_rfl) (by kernel_rfl) (fun _ _ _ h => h) (Or.inl ⟨by rfl, ?_⟩) (by exact hHeld) ?_
  rotate_left
  · (intro w hSw; (try dsimp only at hSw); go_simp <;> with_reducible rfl)
  try simp only [Act.put, List.setIfInBounds_toArray, List.set_cons_zero, List.set_cons_succ]
  refine wpAnyH_take (i := 6) (oi := { dst := some 31, op := Op.call { callee := Callee.builtin Builtin.len, args := #[Operand.tmp 30], argTypes := #[22] }, type := 3, pos := _, after := #[{ on := 5, ground := Ground.data }], guard := none }) (v := ?_) rfl (by kernel_rfl) (by kernel_rfl) (by kernel_rfl) (fun _ _ _ h => h) (Or.inl ⟨by rfl, ?_⟩) (by exact hHeld) ?_
  rotate_left
  · (intro w hSw; (try dsimp only at hSw); go_simp <;> with_reducible rfl)
  try simp only [Act.put, List.setIfInBounds_toArray, List.set_cons_zero, List.set_cons_succ]
  refine wpAnyH_ready (rs := [3]) (by kernel_rfl) (by simp) ?_
  refine AllReadyH.cons (o := { dst := some 28, op := Op.call { callee := Callee.value (Operand.func 38), args := #[Operand.tmp 25, Operand.tmp 27], argTypes := #[48, 9] }, type := 48, pos := _, after := #[{ on := 0, ground := Ground.data }, { on := 2, ground := Ground.data }], guard := none }) rfl (fun K hK => ?_) AllReadyH.nil
  go_simp
  refine (text_on (w := w0) xd (by exact (HW1.out.later (below_drew (Below.refl _ _) 1)).is) (by exact below_drew HW1.out.below 1) HL1.out HF.out.data).mono ?_
  rintro e u2 ⟨a2, n2, c2, rfl, hw2, hl2⟩
  have HW2 := Lib.hid hw2
  clear hw2
  go_wp2_with fail
  refine hK.out _ _ ⟨cell_later hl2 hHeld.1, cell_later hl2 hHeld.2⟩ (fun hHeld => ?_)
  clear hK K
  try simp only [Act.put, List.setIfInBounds_toArray, List.set_cons_zero, List.set_cons_succ]
  refine wpAnyH_ready (rs := [7]) (by kernel_rfl) (by simp) ?_
  refine AllReadyH.cons (o := { dst := some 32, op := Op.call { callee := Callee.value (Operand.func 37), args := #[Operand.tmp 28, Operand.tmp 31], argTypes := #[48, 2] }, type := 48, pos := _, after := #[{ on := 3, ground := Ground.data }, { on := 6, ground := Ground.data }, { on := 3, ground := Ground.chain }], guard := none }) rfl (fun K hK => ?_) AllReadyH.nil
  go_simp
  refine (i64_on (w := w0) (q : Int) (by exact HW2.out.is) (by exact HW2.out.below) HL2.out).mono ?_
  rintro e u3 ⟨a3, n3, c3, rfl, hw3, hl3⟩
  have HW3 := Lib.hid hw3
  clear hw3
  go_wp2_with fail
  refine hK.out _ _ ⟨cell_later hl3 hHeld.1, cell_later hl3 hHeld.2⟩ (fun hHeld => ?_)
  clear hK K
  try simp only [Act.put, List.setIfInBounds_toArray, List.set_cons_zero, List.set_cons_succ]
  refine wpAnyH_take (i := 8) (oi := { dst := some 3, op := Op.assign (Operand.tmp 32), type := 48, pos := _, after := #[{ on := 7, ground := Ground.data }, { on := 7, ground := Ground.chain }, { on := 0, ground := Ground.phase }, { on := 1, ground := Ground.phase }, { on := 2, ground := Ground.phase }, { on := 3, ground := Ground.phase }, { on := 4, ground := Ground.phase }, { on := 5, ground := Ground.phase }, { on := 6, ground := Ground.phase }, { on := 7, ground := Ground.phase }], guard := none }) (v := ?_) rfl (by kernel_rfl) (by kernel_rfl) (by kernel_rfl) (fun _ _ _ h => h) (Or.inl ⟨by rfl, ?_⟩) (by exact hHeld) ?_
  rotate_left
  · (intro w hSw; (try dsimp only at hSw); go_simp <;> with_reducible rfl)
  try simp only [Act.put, List.setIfInBounds_toArray, List.set_cons_zero, List.set_cons_succ]
  refine wpAnyH_done (by kernel_rfl) ?_ _
  have HQN := Lib.hid hqn
  have hq1000 : q ≤ 1000 := by omega
  have hcx : u3.cell? ⟨X, 9, none⟩ = some (.slice vo q vc) := cell_later HW3.out.below (show w0.cell? ⟨X, 9, none⟩ = _ by rw [cell_heap HX.out]; rfl)
  generalize hPP : be8s [xa, xb, xc, xg, xh, xe] ++ txt xd ++ be8 (q : Int) = PP at *
  have HPP := Lib.hid hPP
  clear hPP hqn hHeld hc7 hc9 hl2 hl3
  go_wp2_with fail
  go_loopw [3, 36] (fun v i wr => ∃ k : Nat, k ≤ q ∧ i = .int .i64 (k : Int) ∧ ∃ a n c, v = .slice a n c ∧ Wn w0 wr a n c (PP ++ (xn.take k).flatMap txt)) (fun _ i _ => q - (intOf i).toNat)
  case atStart => exact ⟨0, by omega, rfl, _, _, _, rfl, by simpa using HW3.out⟩
  case round =>
    obtain ⟨k, hk, rfl, a5, n5, c5, rfl, hw5⟩ := hrel
    have HW5 := Lib.hid hw5; clear hw5
    have hlk : ((xn.take k).flatMap txt).length ≤ 100008 * 1000 := by
      refine Nat.le_trans (txts_len _ (fun s hs => HF.out.each s (List.mem_of_mem_take hs))) ?_
      rw [List.length_take]; omega
    by_cases hlt : k < q
    · obtain ⟨vb, voff, rfl, hx⟩ := (HS0.out.at_).resolve_left (by omega)
      have hcn := cell_later HW5.out.below (hx k hlt)
      have hsz : (xn.getD k ByteArray.empty).size ≤ 100000 := by
        refine HF.out.each _ ?_
        rw [List.getD_eq_getElem?_getD, List.getElem?_eq_getElem (by rw [HQN.out]; exact hlt)]
        exact List.getElem_mem _
      have HTK := Lib.hid (txts_take xn k (by rw [HQN.out]; exact hlt))
      generalize xn.getD k ByteArray.empty = s at *
      clear hx
      go_wp2_with fail
      refine (text_on (w := w0) s HW5.out.is HW5.out.below (by rw [List.length_append]; omega) hsz).mono ?_
      rintro e u6 ⟨a6, n6, c6, rfl, hw6, hl6⟩
      have HW6 := Lib.hid hw6
      clear hw6 hl6
      go_wp2_with fail
      go_roundw
      case rel => exact ⟨k + 1, by omega, by go_num, _, _, _, rfl, by rw [HTK.out, ← List.append_assoc]; exact HW6.out⟩
      case measure => simp [intOf]; omega
    · obtain rfl : k = q := by omega
      go_wp2_with fail
      go_ret
      obtain ⟨h1, h2⟩ := HG.out _ _ _ _ _ HW5.out
      rw [List.take_of_length_le (by have := HQN.out; omega)] at h1
      refine ⟨_, _, _, rfl, ?_, HXX.out ▸ h2⟩
      rw [HQN.out, HPP.out]
      exact h1
end Go.Proofs.Ytaoligpckpabfaa
