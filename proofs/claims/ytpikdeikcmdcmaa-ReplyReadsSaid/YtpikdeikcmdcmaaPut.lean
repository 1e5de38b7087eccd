/-
  Results and replies in bytes.
-/
import Derived.Test.YtpikdeikcmdcmaaSame
import Derived.StillTailTactics
import Derived.Deep.RegionHeld3
namespace Go.Proofs.Ytpikdeikcmdcmaa
open Go.RowKit
def resB (x : Re) : List UInt8 := be8 x.err ++ txt x.path ++ txt x.data ++ be8 (x.names.length : Int) ++ x.names.flatMap txt ++ be8s [x.made, x.changed, x.version, x.kids, x.owner, x.length, x.count]
def putR (r : Rp) : List UInt8 := be8s [r.num, r.zxid, r.err, r.place, (r.res.length : Int)] ++ r.res.flatMap resB
/-- a result that is not too long -/
structure FitR (x : Re) : Prop where
  path : x.path.size ≤ 100000
  data : x.data.size ≤ 100000
  names : x.names.length ≤ 1000
  each : ∀ s ∈ x.names, s.size ≤ 100000
theorem txts_len (l : List ByteArray) (h : ∀ s ∈ l, s.size ≤ 100000) : (l.flatMap txt).length ≤ 100008 * l.length := by
  induction l with
  | nil => simp
  | cons s l ih =>
    have h1 := ih (fun t ht => h t (List.mem_cons_of_mem _ ht))
    have h2 := h s (by simp)
    rw [List.flatMap_cons, List.length_append, txt_len, List.length_cons]; omega
theorem resB_len (x : Re) (h : FitR x) : (resB x).length ≤ 200000000 := by
  have h1 := txts_len x.names h.each
  have h2 := h.path; have h3 := h.data; have h4 := h.names
  simp only [resB, List.length_append, be8_len, txt_len, be8s_len, List.length_cons, List.length_nil]
  omega
theorem ress_len (l : List Re) (h : ∀ x ∈ l, FitR x) : (l.flatMap resB).length ≤ 200000000 * l.length := by
  induction l with
  | nil => simp
  | cons s l ih =>
    have h1 := ih (fun t ht => h t (List.mem_cons_of_mem _ ht))
    have h2 := resB_len s (h s (by simp))
    rw [List.flatMap_cons, List.length_append, List.length_cons]; omega
theorem txts_take (l : List ByteArray) (k : Nat) (hk : k < l.length) : (l.take (k + 1)).flatMap txt = (l.take k).flatMap txt ++ txt (l.getD k ByteArray.empty) := by
  rw [List.take_succ_eq_append_getElem hk, List.flatMap_append]; simp [hk]
theorem ress_take (l : List Re) (k : Nat) (x : Re) (hk : l[k]? = some x) : (l.take (k + 1)).flatMap resB = (l.take k).flatMap resB ++ resB x := by
  obtain ⟨h, rfl⟩ := List.getElem?_eq_some_iff.1 hk
  rw [List.take_succ_eq_append_getElem h, List.flatMap_append]; simp
/-- what has been written so far, by a call that began at w -/
structure Wn (w W : World) (a : Option Addr) (n c : Nat) (L : List UInt8) : Prop where
  own : OwnB W w.heap.size 5 (.slice a n c) L
  below : Below w.heap.size w W
theorem Wn.is {w W : World} {a : Option Addr} {n c : Nat} {L : List UInt8} (h : Wn w W a n c L) : IsB W a n c L := by
  obtain ⟨a2, c2, e, h2⟩ := h.own.isB
  simp only [Value.slice.injEq] at e
  obtain ⟨rfl, rfl, rfl⟩ := e
  exact h2
theorem Wn.later {w W W' : World} {a : Option Addr} {n c : Nat} {L : List UInt8} (h : Wn w W a n c L) (hb : Below W.heap.size W W') : Wn w W' a n c L :=
  ⟨h.own.below hb, h.below.trans (hb.mono h.below.size)⟩
theorem wn_of {w W : World} {B : Nat} {v : Value} {L : List UInt8} (hB : w.heap.size ≤ B) (h : OwnB W B 5 v L) (hb : Below w.heap.size w W) : ∃ a n c, v = .slice a n c ∧ Wn w W a n c L := by
  obtain ⟨a, c, rfl, _⟩ := h.isB
  exact ⟨a, _, c, rfl, h.mono hB, hb⟩
theorem i64_on {w W : World} {a : Option Addr} {n c : Nat} {L : List UInt8} (z : Int) (h : IsB W a n c L) (hb : Below w.heap.size w W) (hl : L.length ≤ 1000000000000) :
    Calls Try.prog 41 #[.slice a n c, .int .i64 z] W fun e w' => ∃ a n c, e = .returned (.slice a n c) ∧ Wn w w' a n c (L ++ be8 z) ∧ Below W.heap.size W w' := by
  refine (i64_any a n c L z W h (by have := h.len; omega)).mono ?_
  rintro e w' ⟨v, rfl, h1, h2⟩
  obtain ⟨a2, n2, c2, rfl, h3⟩ := wn_of hb.size h1 (hb.trans (h2.mono hb.size))
  exact ⟨a2, n2, c2, rfl, h3, h2⟩
theorem ri64_on {w W : World} {a : Option Addr} {n c : Nat} {L : List UInt8} (z : Int) (h : IsB W a n c L) (hb : Below w.heap.size w W) (hl : L.length ≤ 1000000000000) :
    Calls Try.prog 32 #[.slice a n c, .int .i64 z] W fun e w' => ∃ a n c, e = .returned (.slice a n c) ∧ Wn w w' a n c (L ++ be8 z) ∧ Below W.heap.size W w' := by
  refine (refi64_any a n c L z W h (by have := h.len; omega)).mono ?_
  rintro e w' ⟨v, rfl, h1, h2⟩
  obtain ⟨a2, n2, c2, rfl, h3⟩ := wn_of hb.size h1 (hb.trans (h2.mono hb.size))
  exact ⟨a2, n2, c2, rfl, h3, h2⟩
theorem text_on {w W : World} {a : Option Addr} {n c : Nat} {L : List UInt8} (z : ByteArray) (h : IsB W a n c L) (hb : Below w.heap.size w W) (hl : L.length ≤ 1000000000000) (hz : z.size ≤ 100000) :
    Calls Try.prog 42 #[.slice a n c, .string z] W fun e w' => ∃ a n c, e = .returned (.slice a n c) ∧ Wn w w' a n c (L ++ txt z) ∧ Below W.heap.size W w' := by
  refine (text_any a n c L z W h (by have := h.len; omega) (by omega)).mono ?_
  rintro e w' ⟨v, rfl, h1, h2⟩
  obtain ⟨a2, n2, c2, rfl, h3⟩ := wn_of hb.size h1 (hb.trans (h2.mono hb.size))
  exact ⟨a2, n2, c2, rfl, h3, h2⟩
theorem rtext_on {w W : World} {a : Option Addr} {n c : Nat} {L : List UInt8} (z : ByteArray) (h : IsB W a n c L) (hb : Below w.heap.size w W) (hl : L.length ≤ 1000000000000) (hz : z.size ≤ 100000) :
    Calls Try.prog 33 #[.slice a n c, .string z] W fun e w' => ∃ a n c, e = .returned (.slice a n c) ∧ Wn w w' a n c (L ++ txt z) ∧ Below W.heap.size W w' := by
  refine (reftxt_any a n c L z W h (by have := h.len; omega) (by omega)).mono ?_
  rintro e w' ⟨v, rfl, h1, h2⟩
  obtain ⟨a2, n2, c2, rfl, h3⟩ := wn_of hb.size h1 (hb.trans (h2.mono hb.size))
  exact ⟨a2, n2, c2, rfl, h3, h2⟩
theorem all_on {w W : World} {a : Option Addr} {n c : Nat} {L : List UInt8} (ai : Option Addr) (m ci : Nat) (zs : List Int) (h : IsB W a n c L) (hb : Below w.heap.size w W) (hl : L.length ≤ 1000000000000) (hi : IsI W ai m ci zs) (hm : m ≤ 1000) :
    Calls Try.prog 28 #[.slice a n c, .slice ai m ci] W fun e w' => ∃ a n c, e = .returned (.slice a n c) ∧ Wn w w' a n c (L ++ be8s zs) ∧ Below W.heap.size W w' := by
  refine (pall_any a n c L ai m ci zs W h hi (by have := h.len; omega) (by omega)).mono ?_
  rintro e w' ⟨v, rfl, h1, h2⟩
  obtain ⟨a2, n2, c2, rfl, h3⟩ := wn_of hb.size h1 (hb.trans (h2.mono hb.size))
  exact ⟨a2, n2, c2, rfl, h3, h2⟩

set_option maxHeartbeats 4000000 in
theorem result_any (a : Option Addr) (n c : Nat) (l : List UInt8) (x : Re) (v : Value) (w : World) (h : IsB w a n c l) (hv : NamesAt w v x.names) (hl : l.length ≤ 100000000000) (hf : FitR x) :
    Calls Try.prog 29 #[.slice a n c, aggR x v] w fun e w' => ∃ a n c, e = .returned (.slice a n c) ∧ Wn w w' a n c (l ++ resB x) ∧ Below w.heap.size w w' := by
  obtain ⟨vo, q, vc, rfl, hs, hq⟩ := hv
  have HF := Lib.hid hf
  have hlen2 := txts_len x.names hf.each
  have hqn := hs.len
  have HF4 := hf.names
  cases x with
  | mk xe xp xd xn xa xb xc xg xh xi xj =>
  simp only [aggR, resB] at *
  go_enter Try.func29, Try.ntmps29
  go_wp2_with fail
  have hB0 : Below w.heap.size w (w.alloc (.cells #[.int .i64 xe, .string xp, .string xd, .slice vo q vc, .int .i64 xa, .int .i64 xb, .int .i64 xc, .int .i64 xg, .int .i64 xh, .int .i64 xi, .int .i64 xj] 35)) := (Below.refl _ _).alloc (Nat.le_refl _) _
  have hX : (w.alloc (.cells #[.int .i64 xe, .string xp, .string xd, .slice vo q vc, .int .i64 xa, .int .i64 xb, .int .i64 xc, .int .i64 xg, .int .i64 xh, .int .i64 xi, .int .i64 xj] 35)).heap[w.heap.size]? = some (.cells #[.int .i64 xe, .string xp, .string xd, .slice vo q vc, .int .i64 xa, .int .i64 xb, .int .i64 xc, .int .i64 xg, .int .i64 xh, .int .i64 xi, .int .i64 xj] 35) := heap_new _ _
  have HI0 := Lib.hid (h.below hB0)
  have HS0 := Lib.hid (hs.below hB0)
  have hgoal : ∀ a n c L (W : World), Wn (w.alloc (.cells #[.int .i64 xe, .string xp, .string xd, .slice vo q vc, .int .i64 xa, .int .i64 xb, .int .i64 xc, .int .i64 xg, .int .i64 xh, .int .i64 xi, .int .i64 xj] 35)) W a n c L → Wn w W a n c L ∧ Below w.heap.size w W := fun a n c L W hw => by
    have hb := hB0.trans (hw.below.mono hB0.size)
    exact ⟨⟨hw.own.mono hB0.size, hb⟩, hb⟩
  have HG := Lib.hid hgoal
  generalize (w.alloc (.cells #[.int .i64 xe, .string xp, .string xd, .slice vo q vc, .int .i64 xa, .int .i64 xb, .int .i64 xc, .int .i64 xg, .int .i64 xh, .int .i64 xi, .int .i64 xj] 35)) = w0 at *
  generalize hXX : w.heap.size = X at *
  have HXX := Lib.hid hXX
  have HX := Lib.hid hX
  clear hX hB0 hgoal h hs hXX
  have hc0 : w0.cell? ⟨X, 0, none⟩ = some (.int .i64 xe) := by rw [cell_heap HX.out]; rfl
  go_wp2_with fail
  refine (i64_on (w := w0) xe HI0.out (Below.refl _ _) (by omega)).mono ?_
  rintro e u1 ⟨a1, n1, c1, rfl, hw1, hl1⟩
  have HW1 := Lib.hid hw1
  have hc1 : u1.cell? ⟨X, 1, none⟩ = some (.string xp) := cell_later hl1 (show w0.cell? ⟨X, 1, none⟩ = _ by rw [cell_heap HX.out]; rfl)
  have hc2 : u1.cell? ⟨X, 2, none⟩ = some (.string xd) := cell_later hl1 (show w0.cell? ⟨X, 2, none⟩ = _ by rw [cell_heap HX.out]; rfl)
  have HL1 := Lib.hid (show (l ++ be8 xe).length ≤ 1000000000000 by simp only [List.length_append, be8_len]; omega)
  have HP := HF.out.path; have HDD := HF.out.data
  simp only at HP HDD
  have HL2 := Lib.hid (show (l ++ be8 xe ++ txt xp).length ≤ 1000000000000 by simp only [List.length_append, be8_len, txt_len]; omega)
  clear hw1 hl1 hc0
  go_wp2_with fail
  refine wp_region_held_drew (S := fun w' => w'.cell? ⟨X, 1, none⟩ = some (.string xp) ∧ w'.cell? ⟨X, 2, none⟩ = some (.string xd)) (by kernel_rfl) ⟨hc1, hc2⟩ (fun hHeld => ?_)
  refine wpAnyH_take (i := 0) (v := ?_) rfl (by kernel_rfl) (by kernel_rfl) (by kernel_rfl) (fun _ _ _ h => h) (Or.inl ⟨by rfl, ?_⟩) (by exact hHeld) ?_
  rotate_left
  · (intro w hSw; (try dsimp only at hSw); go_simp <;> with_reducible rfl)
  try simp only [Act.put, List.setIfInBounds_toArray, List.set_cons_zero, List.set_cons_succ]
  refine wpAnyH_take (i := 1) (v := ?_) rfl (by kernel_rfl) (by kernel_rfl) (by kernel_rfl) (fun _ _ _ h => h) (Or.inl ⟨by rfl, ?_⟩) (by exact hHeld) ?_
  rotate_left
  · (intro w hSw; (try dsimp only at hSw); go_simp <;> with_reducible rfl)
  try simp only [Act.put, List.setIfInBounds_toArray, List.set_cons_zero, List.set_cons_succ]
  refine wpAnyH_take (i := 2) (v := ?_) rfl (by kernel_rfl) (by kernel_rfl) (by kernel_rfl) (fun _ _ _ h => h) (Or.inl ⟨by rfl, ?_⟩) (by exact hHeld) ?_
  rotate_left
  · (intro w hSw; (try dsimp only at hSw); go_simp <;> with_reducible rfl)
  try simp only [Act.put, List.setIfInBounds_toArray, List.set_cons_zero, List.set_cons_succ]
  refine wpAnyH_take (i := 4) (v := ?_) rfl (by kernel_rfl) (by kernel_rfl) (by kernel_rfl) (fun _ _ _ h => h) (Or.inl ⟨by rfl, ?_⟩) (by exact hHeld) ?_
  rotate_left
  · (intro w hSw; (try dsimp only at hSw); go_simp <;> with_reducible rfl)
  try simp only [Act.put, List.setIfInBounds_toArray, List.set_cons_zero, List.set_cons_succ]
  refine wpAnyH_take (i := 5) (v := ?_) rfl (by kernel_rfl) (by kernel_rfl) (by kernel_rfl) (fun _ _ _ h => h) (Or.inl ⟨by rfl, ?_⟩) (by exact hHeld) ?_
  rotate_left
  · (intro w hSw; (try dsimp only at hSw); go_simp <;> with_reducible rfl)
  try simp only [Act.put, List.setIfInBounds_toArray, List.set_cons_zero, List.set_cons_succ]
  refine wpAnyH_ready (rs := [3]) (by kernel_rfl) (by simp) ?_
  refine AllReadyH.cons rfl (fun K hK => ?_) AllReadyH.nil
  go_simp
  refine (text_on (w := w0) xp (by exact (HW1.out.later (below_drew (Below.refl _ _) 1)).is) (by exact below_drew HW1.out.below 1) HL1.out HF.out.path).mono ?_
  rintro e u2 ⟨a2, n2, c2, rfl, hw2, hl2⟩
  have HW2 := Lib.hid hw2
  clear hw2
  go_wp2_with fail
  refine hK.out _ _ ⟨cell_later hl2 hHeld.1, cell_later hl2 hHeld.2⟩ (fun hHeld => ?_)
  clear hK K
  try simp only [Act.put, List.setIfInBounds_toArray, List.set_cons_zero, List.set_cons_succ]
  refine wpAnyH_ready (rs := [6]) (by kernel_rfl) (by simp) ?_
  refine AllReadyH.cons rfl (fun K hK => ?_) AllReadyH.nil
  go_simp
  refine (text_on (w := w0) xd (by exact HW2.out.is) (by exact HW2.out.below) HL2.out HF.out.data).mono ?_
  rintro e u3 ⟨a3, n3, c3, rfl, hw3, hl3⟩
  have HW3 := Lib.hid hw3
  clear hw3
  go_wp2_with fail
  refine hK.out _ _ ⟨cell_later hl3 hHeld.1, cell_later hl3 hHeld.2⟩ (fun hHeld => ?_)
  clear hK K
  try simp only [Act.put, List.setIfInBounds_toArray, List.set_cons_zero, List.set_cons_succ]
  refine wpAnyH_take (i := 7) (v := ?_) rfl (by kernel_rfl) (by kernel_rfl) (by kernel_rfl) (fun _ _ _ h => h) (Or.inl ⟨by rfl, ?_⟩) (by exact hHeld) ?_
  rotate_left
  · (intro w hSw; (try dsimp only at hSw); go_simp <;> with_reducible rfl)
  try simp only [Act.put, List.setIfInBounds_toArray, List.set_cons_zero, List.set_cons_succ]
  refine wpAnyH_done (by kernel_rfl) ?_ _
  have hc3 : u3.cell? ⟨X, 3, none⟩ = some (.slice vo q vc) := cell_later HW3.out.below (show w0.cell? ⟨X, 3, none⟩ = _ by rw [cell_heap HX.out]; rfl)
  clear hHeld hc1 hc2 hl2 hl3
  go_wp2_with fail
  refine (i64_on (w := w0) (q : Int) HW3.out.is HW3.out.below (by simp only [List.length_append, be8_len, txt_len]; omega)).mono ?_
  rintro e u4 ⟨a4, n4, c4, rfl, hw4, hl4⟩
  replace hc3 := cell_later hl4 hc3
  have HW4 := Lib.hid hw4
  have HQN := Lib.hid hqn
  clear hw4 hl4
  generalize hPP : l ++ be8 xe ++ txt xp ++ txt xd ++ be8 (q : Int) = PP at *
  have hPL : PP.length ≤ 200000000000 := by rw [← hPP]; simp only [List.length_append, be8_len, txt_len]; omega
  have HPP := Lib.hid hPP
  clear hPP hqn
  go_wp2_with fail
  go_loopw [0, 26] (fun v i wr => ∃ k : Nat, k ≤ q ∧ i = .int .i64 (k : Int) ∧ ∃ a n c, v = .slice a n c ∧ Wn w0 wr a n c (PP ++ (xn.take k).flatMap txt)) (fun _ i _ => q - (intOf i).toNat)
  case atStart => exact ⟨0, by omega, rfl, _, _, _, rfl, by simpa using HW4.out⟩
  case round =>
    obtain ⟨k, hk, rfl, a5, n5, c5, rfl, hw5⟩ := hrel
    have HW5 := Lib.hid hw5; clear hw5
    have hlk : ((xn.take k).flatMap txt).length ≤ 100008 * 1000 := by
      refine Nat.le_trans (txts_len _ (fun s hs => HF.out.each s (List.mem_of_mem_take hs))) ?_
      rw [List.length_take]; omega
    by_cases hlt : k < q
    · obtain ⟨vb, voff, rfl, hx⟩ := (HS0.out.at_).resolve_left (by omega)
      have hcn := cell_later HW5.out.below (hx k hlt)
      have hsz : (xn.getD k ByteArray.empty).size ≤ 100000 := by
        refine HF.out.each _ ?_
        rw [List.getD_eq_getElem?_getD, List.getElem?_eq_getElem (by rw [HQN.out]; exact hlt)]
        exact List.getElem_mem _
      have HTK := Lib.hid (txts_take xn k (by rw [HQN.out]; exact hlt))
      generalize xn.getD k ByteArray.empty = s at *
      clear hx
      go_wp2_with fail
      refine (text_on (w := w0) s HW5.out.is HW5.out.below (by rw [List.length_append]; omega) hsz).mono ?_
      rintro e u6 ⟨a6, n6, c6, rfl, hw6, hl6⟩
      have HW6 := Lib.hid hw6
      clear hw6 hl6
      go_wp2_with fail
      go_roundw
      case rel => exact ⟨k + 1, by omega, by go_num, _, _, _, rfl, by rw [HTK.out, ← List.append_assoc]; exact HW6.out⟩
      case measure => simp [intOf]; omega
    · obtain rfl : k = q := by omega
      have cell := fun (j : Nat) (u : Value) (hu : w0.cell? ⟨X, j, none⟩ = some u) => cell_later HW5.out.below hu
      have k4 := cell 4 _ (by rw [cell_heap HX.out]; rfl)
      have k5 := cell 5 _ (by rw [cell_heap HX.out]; rfl)
      have k6 := cell 6 _ (by rw [cell_heap HX.out]; rfl)
      have k7 := cell 7 _ (by rw [cell_heap HX.out]; rfl)
      have k8 := cell 8 _ (by rw [cell_heap HX.out]; rfl)
      have k9 := cell 9 _ (by rw [cell_heap HX.out]; rfl)
      have k10 := cell 10 _ (by rw [cell_heap HX.out]; rfl)
      clear cell
      go_wp2_with fail
      refine (all_on (w := w0) _ 7 7 [xa, xb, xc, xg, xh, xi, xj] ((HW5.out.later ((Below.refl _ _).alloc (Nat.le_refl _) _)).is) ((HW5.out.later ((Below.refl _ _).alloc (Nat.le_refl _) _)).below) (by rw [List.length_append]; omega) (isI_new _ [xa, xb, xc, xg, xh, xi, xj] _ (by rfl) _ _ _ (by rfl) 7 rfl _) (by decide)).mono ?_
      rintro e u7 ⟨a7, n7, c7, rfl, hw7, hl7⟩
      have HW7 := Lib.hid hw7
      clear hw7 hl7
      go_wp2_with fail
      go_ret
      have e : l ++ (be8 xe ++ txt xp ++ txt xd ++ be8 (xn.length : Int) ++ xn.flatMap txt ++ be8s [xa, xb, xc, xg, xh, xi, xj]) = PP ++ (xn.take k).flatMap txt ++ be8s [xa, xb, xc, xg, xh, xi, xj] := by
        rw [← HPP.out, List.take_of_length_le (by rw [HQN.out]; exact Nat.le_refl _), HQN.out]; simp
      rw [e]
      refine ⟨_, _, _, rfl, ?_⟩
      rw [HXX.out]
      exact HG.out _ _ _ _ _ HW7.out

theorem keep_row {w W : World} {ao : Option Addr} {n : Nat} {l : List (Re × Value)} (h : IsRes w ao n l) (hb : Below w.heap.size w W) : IsRes W ao n l := h.below hb
set_option maxHeartbeats 4000000 in
theorem put_any (a b c d : Int) (ao : Option Addr) (n k0 : Nat) (l : List (Re × Value)) (w : World) (h : IsRes w ao n l) (hn : n ≤ 100) (hf : ∀ x ∈ resL l, FitR x) :
    Calls Try.prog 12 #[aggP a b c d (.slice ao n k0)] w fun e w' => ∃ a2 n2 c2, e = .returned (.slice a2 n2 c2) ∧ Wn w w' a2 n2 c2 (putR ⟨a, b, c, d, resL l⟩) ∧ Below w.heap.size w w' := by
  have HF := Lib.hid hf
  have hln : (resL l).length = n := by rw [resL, List.length_map, h.len]
  simp only [aggP, putR] at *
  rw [hln]
  go_enter Try.func12, Try.ntmps12
  go_wp2_with fail
  have hB0 : Below w.heap.size w (w.alloc (.cells #[.int .i64 a, .int .i64 b, .int .i64 c, .int .i64 d, .slice ao n k0] 26)) := (Below.refl _ _).alloc (Nat.le_refl _) _
  have hgoal : ∀ a2 n2 c2 L (W : World), Wn ((w.alloc (.cells #[.int .i64 a, .int .i64 b, .int .i64 c, .int .i64 d, .slice ao n k0] 26)).alloc (.cells #[.int .i64 a, .int .i64 b, .int .i64 c, .int .i64 d, .int .i64 (n : Int)] 2)) W a2 n2 c2 L → Wn w W a2 n2 c2 L ∧ Below w.heap.size w W := fun a2 n2 c2 L W hw => by
    have hb1 := hB0.alloc hB0.size (.cells #[.int .i64 a, .int .i64 b, .int .i64 c, .int .i64 d, .int .i64 (n : Int)] 2)
    have hb := hb1.trans (hw.below.mono hb1.size)
    exact ⟨⟨hw.own.mono hb1.size, hb⟩, hb⟩
  have HG := Lib.hid hgoal
  have hi5 := isI_new (w.alloc (.cells #[.int .i64 a, .int .i64 b, .int .i64 c, .int .i64 d, .slice ao n k0] 26)) [a, b, c, d, (n : Int)] #[.int .i64 a, .int .i64 b, .int .i64 c, .int .i64 d, .int .i64 (n : Int)] (by rfl) 2 (0, 0) (w.heap.size + 1) (by simp) 5 rfl 5
  have hh := h.below (hB0.alloc hB0.size (.cells #[.int .i64 a, .int .i64 b, .int .i64 c, .int .i64 d, .int .i64 (n : Int)] 2))
  have HH := Lib.hid hh
  have HI5 := Lib.hid hi5
  have hc4 : ((w.alloc (.cells #[.int .i64 a, .int .i64 b, .int .i64 c, .int .i64 d, .slice ao n k0] 26)).alloc (.cells #[.int .i64 a, .int .i64 b, .int .i64 c, .int .i64 d, .int .i64 (n : Int)] 2)).cell? ⟨w.heap.size, 4, none⟩ = some (.slice ao n k0) := cell_later (w := w.alloc (.cells #[.int .i64 a, .int .i64 b, .int .i64 c, .int .i64 d, .slice ao n k0] 26)) ((Below.refl _ _).alloc (Nat.le_refl _) _) (by rw [cell_heap (heap_new _ _)]; rfl)
  clear hgoal hi5 hh h hB0
  go_wp2_with fail
  generalize hXX : w.heap.size = X at *
  have HXX := Lib.hid hXX; clear hXX
  generalize ((w.alloc (.cells #[.int .i64 a, .int .i64 b, .int .i64 c, .int .i64 d, .slice ao n k0] 26)).alloc (.cells #[.int .i64 a, .int .i64 b, .int .i64 c, .int .i64 d, .int .i64 (n : Int)] 2)) = w0 at *
  refine (all_on (w := w0) _ 5 5 [a, b, c, d, (n : Int)] (isB_nil _) (Below.refl _ _) (by simp) HI5.out (by decide)).mono ?_
  rintro e u1 ⟨a1, n1, c1, rfl, hw1, hl1⟩
  replace hc4 := cell_later hl1 hc4
  rw [List.nil_append] at hw1
  have HW1 := Lib.hid hw1
  have HLN := Lib.hid hln
  clear hw1 hl1 hln
  go_wp2_with fail
  go_loopw [3, 22] (fun v i wr => ∃ k : Nat, k ≤ n ∧ i = .int .i64 (k : Int) ∧ ∃ a2 n2 c2, v = .slice a2 n2 c2 ∧ Wn w0 wr a2 n2 c2 (be8s [a, b, c, d, (n : Int)] ++ ((resL l).take k).flatMap resB)) (fun _ i _ => n - (intOf i).toNat)
  case atStart => exact ⟨0, by omega, rfl, _, _, _, rfl, by simpa using HW1.out⟩
  case round =>
    obtain ⟨k, hk, rfl, a5, n5, c5, rfl, hw5⟩ := hrel
    have HW5 := Lib.hid hw5; clear hw5
    have hlk : (be8s [a, b, c, d, (n : Int)] ++ ((resL l).take k).flatMap resB).length ≤ 40 + 200000000 * 100 := by
      have h1 := ress_len ((resL l).take k) (fun s hs => HF.out s (List.mem_of_mem_take hs))
      have h2 : 200000000 * ((resL l).take k).length ≤ 200000000 * 100 := Nat.mul_le_mul_left _ (by rw [List.length_take]; omega)
      have h3 : (be8s [a, b, c, d, (n : Int)]).length = 40 := by rw [be8s_len]; rfl
      rw [List.length_append]; omega
    by_cases hlt : k < n
    · obtain ⟨b, off, rfl, x, v, hx, hv, c0, c1, c2, c3, c4, c5, c6, c7, c8, c9, c10⟩ := (HH.out.below HW5.out.below).get hlt
      have hat := resL_at l k (by rw [HH.out.len]; exact hlt) hx
      have hfx := HF.out x (List.mem_of_getElem? hat)
      have HTK := Lib.hid (ress_take _ _ _ hat)
      have HV := Lib.hid hv; have HFX := Lib.hid hfx
      obtain ⟨va, vn, vc, rfl, _, _⟩ := hv
      clear hx hat hfx
      cases x with
      | mk xe xp xd xn xa xb xc xg xh xi xj =>
      simp only at c0 c1 c2 c3 c4 c5 c6 c7 c8 c9 c10
      go_wp2_with fail
      refine (result_any _ _ _ _ ⟨xe, xp, xd, xn, xa, xb, xc, xg, xh, xi, xj⟩ _ _ (HW5.out.later ((Below.refl _ _).alloc (Nat.le_refl _) _)).is (HV.out.below ((Below.refl _ _).alloc (Nat.le_refl _) _)) (by omega) HFX.out).mono ?_
      rintro e u6 ⟨a6, n6, c6, rfl, hw6, hl6⟩
      have hB6 := (HW5.out.below.alloc HW5.out.below.size (.cells #[.int .i64 xe, .string xp, .string xd, .slice va vn vc, .int .i64 xa, .int .i64 xb, .int .i64 xc, .int .i64 xg, .int .i64 xh, .int .i64 xi, .int .i64 xj] 35))
      have hw6' : Wn w0 u6 a6 n6 c6 _ := ⟨hw6.own.mono hB6.size, hB6.trans (hl6.mono hB6.size)⟩
      have HW6 := Lib.hid hw6'
      clear hw6 hl6 hw6' hB6
      go_wp2_with fail
      go_roundw
      case rel => exact ⟨k + 1, by omega, by go_num, _, _, _, rfl, by rw [HTK.out, ← List.append_assoc]; exact HW6.out⟩
      case measure => simp [intOf]; omega
    · obtain rfl : k = n := by omega
      go_wp2_with fail
      go_ret
      rw [HXX.out]
      have e : (resL l).take k = resL l := List.take_of_length_le (by rw [HLN.out]; exact Nat.le_refl _)
      rw [← e]
      exact ⟨_, _, _, rfl, HG.out _ _ _ _ _ HW5.out⟩
end Go.Proofs.Ytpikdeikcmdcmaa
