/-
  A reply is read back as it; unlike ones have unlike bytes: the walk. No condition.
-/
import Derived.Test.YtpikdeikcmdcmaaCutW
import Derived.Deep.RegionHeld3
import Derived.BigQuiet
namespace Go.Proofs.Ytpikdeikcmdcmaa
open Go.RowKit
theorem bytes_eq_of (A B : List UInt8) : ((strB A).toList == (strB B).toList) = decide (A = B) := by
  rw [strB_toList, strB_toList]
  by_cases h : A = B
  · subst h; simp
  · simp [h]
theorem back_math (r q : Rp) (hr : GoodP r) (hq : In64 q.num ∧ In64 q.zxid ∧ In64 q.err ∧ In64 q.place) (hl : q.res.length ≤ 1000) (he : ∀ x ∈ q.res, GoodR x) : decide (putR r = putR q) = decide (r = q) := by
  by_cases h : r = q
  · subst h; simp
  · rw [decide_eq_false h, decide_eq_false fun e => h (putR_inj r q hr hq hl he e)]
/-- a reply in a box, and what it holds -/
structure BoxP (W : World) (X : Nat) (a b c d : Int) (ao : Option Addr) (n k : Nat) (l : List (Re × Value)) : Prop where
  at_ : W.heap[X]? = some (.cells #[.int .i64 a, .int .i64 b, .int .i64 c, .int .i64 d, .slice ao n k] 26 (0, 0))
  res : IsRes W ao n l
theorem BoxP.later {W U : World} {X : Nat} {a b c d : Int} {ao : Option Addr} {n k : Nat} {l : List (Re × Value)} (h : BoxP W X a b c d ao n k l) (hb : Below W.heap.size W U) : BoxP U X a b c d ao n k l :=
  ⟨heap_below hb (lt_of_heap h.at_) h.at_, h.res.below hb⟩
theorem BoxP.c0 {W : World} {X : Nat} {a b c d : Int} {ao : Option Addr} {n k : Nat} {l : List (Re × Value)} (h : BoxP W X a b c d ao n k l) : W.cell? ⟨X, 0, none⟩ = some (.int .i64 a) := by rw [cell_heap h.at_]; rfl
theorem BoxP.c1 {W : World} {X : Nat} {a b c d : Int} {ao : Option Addr} {n k : Nat} {l : List (Re × Value)} (h : BoxP W X a b c d ao n k l) : W.cell? ⟨X, 1, none⟩ = some (.int .i64 b) := by rw [cell_heap h.at_]; rfl
theorem BoxP.c2 {W : World} {X : Nat} {a b c d : Int} {ao : Option Addr} {n k : Nat} {l : List (Re × Value)} (h : BoxP W X a b c d ao n k l) : W.cell? ⟨X, 2, none⟩ = some (.int .i64 c) := by rw [cell_heap h.at_]; rfl
theorem BoxP.c3 {W : World} {X : Nat} {a b c d : Int} {ao : Option Addr} {n k : Nat} {l : List (Re × Value)} (h : BoxP W X a b c d ao n k l) : W.cell? ⟨X, 3, none⟩ = some (.int .i64 d) := by rw [cell_heap h.at_]; rfl
theorem BoxP.c4 {W : World} {X : Nat} {a b c d : Int} {ao : Option Addr} {n k : Nat} {l : List (Re × Value)} (h : BoxP W X a b c d ao n k l) : W.cell? ⟨X, 4, none⟩ = some (.slice ao n k) := by rw [cell_heap h.at_]; rfl
theorem same_on {wz : World} {X Y : Nat} {a b c d e f g i : Int} {ao bo : Option Addr} {n k q k2 : Nat} {l m : List (Re × Value)} (h1 : BoxP wz X a b c d ao n k l) (h2 : BoxP wz Y e f g i bo q k2 m) (hn : n ≤ 1000000) (hq : q ≤ 1000000) (z : Bool) (hz : decide ((⟨a, b, c, d, resL l⟩ : Rp) = ⟨e, f, g, i, resL m⟩) = z) (W : World) (hb : Below wz.heap.size wz W) :
    Calls Try.prog 18 #[aggP a b c d (.slice ao n k), aggP e f g i (.slice bo q k2)] W fun x w' => x = .returned (.bool z) ∧ Below wz.heap.size wz w' := by
  refine (same_any a b c d ao n k l e f g i bo q k2 m W (h1.res.below hb) (h2.res.below hb) hn hq).mono ?_
  rintro x w' ⟨rfl, h⟩
  exact ⟨by rw [hz], hb.trans (h.mono hb.size)⟩
theorem put_on {wz : World} {X : Nat} {a b c d : Int} {ao : Option Addr} {n k : Nat} {l : List (Re × Value)} (h1 : BoxP wz X a b c d ao n k l) (hn : n ≤ 100) (hf : ∀ x ∈ resL l, FitR x) (s : ByteArray) (hs : strB (putR ⟨a, b, c, d, resL l⟩) = s) (W : World) (hb : Below wz.heap.size wz W) :
    Calls Try.prog 12 #[aggP a b c d (.slice ao n k)] W fun e w' => ∃ a2 n2 c2, e = .returned (.slice a2 n2 c2) ∧ (∀ W', Below w'.heap.size w' W' → (convert 29 9 (.slice a2 n2 c2)).run Try.prog W' = .ok (.string s) W') ∧ Below wz.heap.size wz w' ∧ Below W.heap.size W w' := by
  refine (put_any a b c d ao n k l W (h1.res.below hb) hn hf).mono ?_
  rintro e w' ⟨a2, n2, c2, rfl, hw, h2⟩
  refine ⟨a2, n2, c2, rfl, fun W' hb' => ?_, hb.trans (h2.mono hb.size), h2⟩
  rw [← hs]
  exact conv_any W' a2 n2 c2 _ (hw.is.below hb')

set_option maxHeartbeats 16000000 in
set_option maxRecDepth 100000 in
theorem back_walk (a b c d : Int) (ao : Option Addr) (n k0 : Nat) (l : List (Re × Value)) (e f g i : Int) (bo : Option Addr) (q k2 : Nat) (m : List (Re × Value)) (w : World) (h : IsRes w ao n l) (hn : n ≤ 140737488355328) (hi : ∀ x ∈ resL l, IntR x)
    (ha : In64 a) (hb : In64 b) (hc : In64 c) (hd : In64 d) (h2 : IsRes w bo q m) (hn2 : q ≤ 140737488355328) (hi2 : ∀ x ∈ resL m, IntR x) (he : In64 e) (hf : In64 f) (hg : In64 g) (hii : In64 i) :
    Calls Try.prog 6 #[aggP a b c d (.slice ao n k0), aggP e f g i (.slice bo q k2)] w fun x w' => x = .returned (.bool true) ∧ Below w.heap.size w w' := by
  simp only [aggP]
  go_enter Try.func6, Try.ntmps6
  go_wp2_with fail
  have hb0 : Below w.heap.size w ((w.alloc (.cells #[.int .i64 a, .int .i64 b, .int .i64 c, .int .i64 d, .slice ao n k0] 26)).alloc (.cells #[.int .i64 e, .int .i64 f, .int .i64 g, .int .i64 i, .slice bo q k2] 26)) := below_two _ _ _
  have hx2 : BoxP ((w.alloc (.cells #[.int .i64 a, .int .i64 b, .int .i64 c, .int .i64 d, .slice ao n k0] 26)).alloc (.cells #[.int .i64 e, .int .i64 f, .int .i64 g, .int .i64 i, .slice bo q k2] 26)) w.heap.size a b c d ao n k0 l := ⟨heap_old (heap_new _ _) _, h.below hb0⟩
  have hx3 : BoxP ((w.alloc (.cells #[.int .i64 a, .int .i64 b, .int .i64 c, .int .i64 d, .slice ao n k0] 26)).alloc (.cells #[.int .i64 e, .int .i64 f, .int .i64 g, .int .i64 i, .slice bo q k2] 26)) (w.heap.size + 1) e f g i bo q k2 m := ⟨heap_alloc2_new _ _ _, h2.below hb0⟩
  generalize ((w.alloc (.cells #[.int .i64 a, .int .i64 b, .int .i64 c, .int .i64 d, .slice ao n k0] 26)).alloc (.cells #[.int .i64 e, .int .i64 f, .int .i64 g, .int .i64 i, .slice bo q k2] 26)) = w0 at *
  generalize hX3 : w.heap.size + 1 = X3 at *
  clear hX3 h h2
  refine (awake_any w0).mono ?_
  rintro x w1 ⟨rfl, hb1⟩
  have hB1 := hb0.trans (hb1.mono hb0.size)
  have P2 := Lib.hid (hx2.later hb1); have P3 := Lib.hid (hx3.later hb1)
  have HB1 := Lib.hid hB1
  clear hb0 hb1 hx2 hx3 hB1
  have y24 := P2.out.c4
  go_wp2_with fail
  refine (heavy_any ao n k0 l w1 P2.out.res hn).mono ?_
  rintro x w2 ⟨hv, rfl, hlight, hb2⟩
  have Q2 := Lib.hid (P2.out.later hb2); have Q3 := Lib.hid (P3.out.later hb2)
  have HB2 := Lib.hid (HB1.out.trans (hb2.mono HB1.out.size))
  clear hb2 y24
  cases hv with
  | true =>
    clear hlight
    go_wp2_with fail
    go_ret
    exact ⟨rfl, HB2.out⟩
  | false =>
  obtain ⟨hn20, hlt⟩ := hlight rfl
  have HLT := Lib.hid hlt
  clear hlight hlt
  have y34 := Q3.out.c4
  go_wp2_with fail
  refine (heavy_any bo q k2 m w2 Q3.out.res hn2).mono ?_
  rintro x w3 ⟨hv, rfl, hlight, hb3⟩
  have R2 := Lib.hid (Q2.out.later hb3); have R3 := Lib.hid (Q3.out.later hb3)
  have HB3 := Lib.hid (HB2.out.trans (hb3.mono HB2.out.size))
  clear hb3 y34
  have y24 := R2.out.c4
  cases hv with
  | true =>
    clear hlight
    go_wp2_with fail
    go_ret
    exact ⟨rfl, HB3.out⟩
  | false =>
  obtain ⟨hq20, hlt⟩ := hlight rfl
  have HLU := Lib.hid hlt
  clear hlight hlt
  by_cases h16 : 16 < n
  · have g1 : decide ((16 : Int) < (n : Int)) = true := by simp; omega
    go_wp2_with fail
    go_ret
    exact ⟨rfl, HB3.out⟩
  · have g1 : decide ((16 : Int) < (n : Int)) = false := by simp; omega
    have y20 := R2.out.c0; have y21 := R2.out.c1; have y22 := R2.out.c2; have y23 := R2.out.c3
    go_wp2_with fail
    refine (put_any a b c d ao n k0 l w3 R2.out.res (by omega) (fun x hx => (HLT.out x hx).fit)).mono ?_
    rintro x w4 ⟨a4, n4, c4, rfl, hw4, hb4⟩
    have hgood : GoodP ⟨a, b, c, d, resL l⟩ := ⟨ha, hb, hc, hd, by show (resL l).length ≤ 16; rw [resL, List.length_map, R2.out.res.len]; omega, fun x hx => (HLT.out x hx).good (hi x hx)⟩
    have hgood2 : ∀ x ∈ resL m, GoodR x := fun x hx => (HLU.out x hx).good (hi2 x hx)
    have hqm : (resL m).length ≤ 1000 := by rw [resL, List.length_map, R3.out.res.len]; omega
    have HM := Lib.hid (back_math _ ⟨e, f, g, i, resL m⟩ hgood ⟨he, hf, hg, hii⟩ hqm hgood2)
    have hPL : n4 ≤ 5000000000 := by rw [← hw4.is.len]; exact light_len _ HLT.out (by rw [resL, List.length_map, R2.out.res.len]; omega) _ _ _ _
    have T2 := Lib.hid (R2.out.later hb4); have T3 := Lib.hid (R3.out.later hb4)
    have HW4 := Lib.hid hw4
    have HB4 := Lib.hid (HB3.out.trans (hb4.mono HB3.out.size))
    have HGP := Lib.hid (getR_putR _ hgood)
    clear hb4 hw4 y20 y21 y22 y23 y24 hgood hgood2 hqm ha hb hc hd he hf hg hii hi hi2
    go_wp2_with fail
    refine (get_any a4 n4 c4 _ w4 HW4.out.is (by omega)).mono ?_
    rintro x w5 ⟨v5, rs5, rfl, hown5, hres5, hl5, hb5⟩
    rw [HGP.out] at hres5
    rw [HGP.out]
    simp only [aggP] at *
    obtain ⟨a5, c5, e5, hi5⟩ := hown5.isRes
    subst e5
    have U2 := Lib.hid (T2.out.later hb5); have U3 := Lib.hid (T3.out.later hb5)
    have HB5 := Lib.hid (HB4.out.trans (hb5.mono HB4.out.size))
    have HI5 := Lib.hid hi5; have HR5 := Lib.hid hres5
    clear hb5 hown5 hi5 hres5
    generalize hn5 : rs5.length = n5 at *
    have HN5 := Lib.hid hn5; clear hn5
    go_wp2_with fail
    have hal : Below w5.heap.size w5 (w5.alloc (.cells #[.int .i64 a, .int .i64 b, .int .i64 c, .int .i64 d, .slice a5 n5 c5] 26)) := (Below.refl _ _).alloc (Nat.le_refl _) _
    have V2 := Lib.hid (U2.out.later hal); have V3 := Lib.hid (U3.out.later hal)
    have V5 : BoxP (w5.alloc (.cells #[.int .i64 a, .int .i64 b, .int .i64 c, .int .i64 d, .slice a5 n5 c5] 26)) w5.heap.size a b c d a5 n5 c5 rs5 := ⟨heap_new _ _, HI5.out.below hal⟩
    have HBZ := Lib.hid (HB5.out.trans (hal.mono HB5.out.size))
    clear hal
    generalize (w5.alloc (.cells #[.int .i64 a, .int .i64 b, .int .i64 c, .int .i64 d, .slice a5 n5 c5] 26)) = wz at *
    generalize w5.heap.size = X5 at *
    have HSA := Lib.hid (same_on V5 V2.out (by omega) (by omega) true (by rw [HR5.out]; simp))
    have HSB0 : ∀ W, Below wz.heap.size wz W → Calls Try.prog 18 #[aggP a b c d (.slice ao n k0), aggP e f g i (.slice bo q k2)] W fun x w' => x = .returned (.bool (decide ((⟨a, b, c, d, resL l⟩ : Rp) = ⟨e, f, g, i, resL m⟩))) ∧ Below wz.heap.size wz w' ∧ Below W.heap.size W w' := by
      intro W hbW
      refine (same_any a b c d ao n k0 l e f g i bo q k2 m W (V2.out.res.below hbW) (V3.out.res.below hbW) (by omega) (by omega)).mono ?_
      rintro x w' ⟨rfl, hh⟩
      exact ⟨rfl, hbW.trans (hh.mono hbW.size), hh⟩
    have hs1 := bytes_eq_of (putR ⟨a, b, c, d, resL l⟩) (putR ⟨e, f, g, i, resL m⟩)
    rw [HM.out] at hs1
    generalize decide ((⟨a, b, c, d, resL l⟩ : Rp) = ⟨e, f, g, i, resL m⟩) = zz at *
    have HPR0 := put_on V2.out (by omega) (fun x hx => (HLT.out x hx).fit) _ rfl
    have HPQ0 := put_on V3.out (by omega) (fun x hx => (HLU.out x hx).fit) _ rfl
    generalize strB (putR ⟨a, b, c, d, resL l⟩) = sA at *
    generalize strB (putR ⟨e, f, g, i, resL m⟩) = sB at *
    have HSB := Lib.hid HSB0; have HPR := Lib.hid HPR0; have HPQ := Lib.hid HPQ0
    have HC := Lib.hid (show ∀ W, Below wz.heap.size wz W → (fun w' => w'.cell? ⟨w.heap.size, 0, none⟩ = some (.int .i64 a) ∧ w'.cell? ⟨w.heap.size, 1, none⟩ = some (.int .i64 b) ∧ w'.cell? ⟨w.heap.size, 2, none⟩ = some (.int .i64 c) ∧ w'.cell? ⟨w.heap.size, 3, none⟩ = some (.int .i64 d) ∧ w'.cell? ⟨w.heap.size, 4, none⟩ = some (.slice ao n k0) ∧ w'.cell? ⟨X3, 0, none⟩ = some (.int .i64 e) ∧ w'.cell? ⟨X3, 1, none⟩ = some (.int .i64 f) ∧ w'.cell? ⟨X3, 2, none⟩ = some (.int .i64 g) ∧ w'.cell? ⟨X3, 3, none⟩ = some (.int .i64 i) ∧ w'.cell? ⟨X3, 4, none⟩ = some (.slice bo q k2) ∧ w'.cell? ⟨X5, 0, none⟩ = some (.int .i64 a) ∧ w'.cell? ⟨X5, 1, none⟩ = some (.int .i64 b) ∧ w'.cell? ⟨X5, 2, none⟩ = some (.int .i64 c) ∧ w'.cell? ⟨X5, 3, none⟩ = some (.int .i64 d) ∧ w'.cell? ⟨X5, 4, none⟩ = some (.slice a5 n5 c5)) W from fun W hbW => by
      have k2 := V2.out.later hbW; have k3 := V3.out.later hbW; have k5 := V5.later hbW
      exact ⟨k2.c0, k2.c1, k2.c2, k2.c3, k2.c4, k3.c0, k3.c1, k3.c2, k3.c3, k3.c4, k5.c0, k5.c1, k5.c2, k5.c3, k5.c4⟩)
    have hzz : (zz == zz) = true := by simp
    clear HSB0 HPR0 HPQ0 V5
    simp only [aggP] at *
    refine wp_region_held_drew (S := fun w' => w'.cell? ⟨w.heap.size, 0, none⟩ = some (.int .i64 a) ∧ w'.cell? ⟨w.heap.size, 1, none⟩ = some (.int .i64 b) ∧ w'.cell? ⟨w.heap.size, 2, none⟩ = some (.int .i64 c) ∧ w'.cell? ⟨w.heap.size, 3, none⟩ = some (.int .i64 d) ∧ w'.cell? ⟨w.heap.size, 4, none⟩ = some (.slice ao n k0) ∧ w'.cell? ⟨X3, 0, none⟩ = some (.int .i64 e) ∧ w'.cell? ⟨X3, 1, none⟩ = some (.int .i64 f) ∧ w'.cell? ⟨X3, 2, none⟩ = some (.int .i64 g) ∧ w'.cell? ⟨X3, 3, none⟩ = some (.int .i64 i) ∧ w'.cell? ⟨X3, 4, none⟩ = some (.slice bo q k2) ∧ w'.cell? ⟨X5, 0, none⟩ = some (.int .i64 a) ∧ w'.cell? ⟨X5, 1, none⟩ = some (.int .i64 b) ∧ w'.cell? ⟨X5, 2, none⟩ = some (.int .i64 c) ∧ w'.cell? ⟨X5, 3, none⟩ = some (.int .i64 d) ∧ w'.cell? ⟨X5, 4, none⟩ = some (.slice a5 n5 c5)) (by kernel_rfl) (HC.out _ (below_drew (Below.refl wz.heap.size wz) 1)) (fun hHeld => ?_)
    refine wpAnyH_take (i := 0) (oi := { dst := some 29, op := Op.move (Operand.tmp 6), type := 23, pos := _, after := #[], guard := none }) (v := ?_) rfl (by kernel_rfl) (by kernel_rfl) (by kernel_rfl) (fun _ _ _ h => h) (Or.inl ⟨by rfl, ?_⟩) (by exact hHeld) ?_
    rotate_left
    · (intro w hSw; (try dsimp only at hSw); go_simp <;> with_reducible rfl)
    try simp only [Act.put, List.setIfInBounds_toArray, List.set_cons_zero, List.set_cons_succ]
    refine wpAnyH_take (i := 1) (oi := { dst := some 30, op := Op.binOp BinOp.eql 23 (Operand.tmp 29) (Operand.const (Value.int IntKind.i64 0)) 23, type := 4, pos := _, after := #[{ on := 0, ground := Ground.data }], guard := none }) (v := ?_) rfl (by kernel_rfl) (by kernel_rfl) (by kernel_rfl) (fun _ _ _ h => h) (Or.inl ⟨by rfl, ?_⟩) (by exact hHeld) ?_
    rotate_left
    · (intro w hSw; (try dsimp only at hSw); go_simp <;> with_reducible rfl)
    try simp only [Act.put, List.setIfInBounds_toArray, List.set_cons_zero, List.set_cons_succ]
    refine wpAnyH_take (i := 2) (oi := { dst := some 31, op := Op.move (Operand.tmp 30), type := 4, pos := _, after := #[{ on := 1, ground := Ground.data }], guard := none }) (v := ?_) rfl (by kernel_rfl) (by kernel_rfl) (by kernel_rfl) (fun _ _ _ h => h) (Or.inl ⟨by rfl, ?_⟩) (by exact hHeld) ?_
    rotate_left
    · (intro w hSw; (try dsimp only at hSw); go_simp <;> with_reducible rfl)
    try simp only [Act.put, List.setIfInBounds_toArray, List.set_cons_zero, List.set_cons_succ]
    refine wpAnyH_take (i := 3) (oi := { dst := some 32, op := Op.load 26 (Operand.tmp 5), type := 26, pos := _, after := #[{ on := 2, ground := Ground.guard }], guard := some (2, true) }) (v := ?_) rfl (by kernel_rfl) (by kernel_rfl) (by kernel_rfl) (fun _ _ _ h => h) (Or.inl ⟨by rfl, ?_⟩) (by exact hHeld) ?_
    rotate_left
    · (intro w hSw; (try dsimp only at hSw); go_simp <;> with_reducible rfl)
    try simp only [Act.put, List.setIfInBounds_toArray, List.set_cons_zero, List.set_cons_succ]
    refine wpAnyH_take (i := 4) (oi := { dst := some 33, op := Op.load 26 (Operand.tmp 2), type := 26, pos := _, after := #[{ on := 2, ground := Ground.guard }], guard := some (2, true) }) (v := ?_) rfl (by kernel_rfl) (by kernel_rfl) (by kernel_rfl) (fun _ _ _ h => h) (Or.inl ⟨by rfl, ?_⟩) (by exact hHeld) ?_
    rotate_left
    · (intro w hSw; (try dsimp only at hSw); go_simp <;> with_reducible rfl)
    try simp only [Act.put, List.setIfInBounds_toArray, List.set_cons_zero, List.set_cons_succ]
    refine wpAnyH_ready (rs := [5]) (by kernel_rfl) (by simp) ?_
    refine AllReadyH.cons (o := { dst := some 34, op := Op.call { callee := Callee.value (Operand.func 18), args := #[Operand.tmp 32, Operand.tmp 33], argTypes := #[26, 26] }, type := 4, pos := _, after := #[{ on := 3, ground := Ground.data }, { on := 4, ground := Ground.data }, { on := 2, ground := Ground.chain }, { on := 2, ground := Ground.guard }], guard := some (2, true) }) rfl (fun K hK => ?_) AllReadyH.nil
    go_simp
    refine (HSA.out _ (below_drew (Below.refl wz.heap.size wz) 1)).mono ?_
    rintro x u4 ⟨rfl, hB4⟩
    go_wp2_with fail
    refine hK.out _ _ (HC.out _ hB4) (fun hHeld => ?_)
    clear hK K
    try simp only [Act.put, List.setIfInBounds_toArray, List.set_cons_zero, List.set_cons_succ]
    refine wpAnyH_take (i := 6) (oi := { dst := some 35, op := Op.pick (Operand.tmp 31) (Operand.tmp 34) (Operand.const (Value.bool false)), type := 4, pos := _, after := #[{ on := 2, ground := Ground.data }, { on := 5, ground := Ground.data }], guard := none }) (v := ?_) rfl (by kernel_rfl) (by kernel_rfl) (by kernel_rfl) (fun _ _ _ h => h) (Or.inl ⟨by rfl, ?_⟩) (by exact hHeld) ?_
    rotate_left
    · (intro w hSw; (try dsimp only at hSw); go_simp <;> with_reducible rfl)
    try simp only [Act.put, List.setIfInBounds_toArray, List.set_cons_zero, List.set_cons_succ]
    refine wpAnyH_take (i := 7) (oi := { dst := some 36, op := Op.move (Operand.tmp 35), type := 4, pos := _, after := #[{ on := 6, ground := Ground.data }, { on := 5, ground := Ground.chain }], guard := none }) (v := ?_) rfl (by kernel_rfl) (by kernel_rfl) (by kernel_rfl) (fun _ _ _ h => h) (Or.inl ⟨by rfl, ?_⟩) (by exact hHeld) ?_
    rotate_left
    · (intro w hSw; (try dsimp only at hSw); go_simp <;> with_reducible rfl)
    try simp only [Act.put, List.setIfInBounds_toArray, List.set_cons_zero, List.set_cons_succ]
    refine wpAnyH_take (i := 8) (oi := { dst := some 37, op := Op.load 26 (Operand.tmp 2), type := 26, pos := _, after := #[{ on := 7, ground := Ground.guard }], guard := some (7, true) }) (v := ?_) rfl (by kernel_rfl) (by kernel_rfl) (by kernel_rfl) (fun _ _ _ h => h) (Or.inl ⟨by rfl, ?_⟩) (by exact hHeld) ?_
    rotate_left
    · (intro w hSw; (try dsimp only at hSw); go_simp <;> with_reducible rfl)
    try simp only [Act.put, List.setIfInBounds_toArray, List.set_cons_zero, List.set_cons_succ]
    refine wpAnyH_take (i := 11) (oi := { dst := some 40, op := Op.load 26 (Operand.tmp 3), type := 26, pos := _, after := #[{ on := 7, ground := Ground.guard }], guard := some (7, true) }) (v := ?_) rfl (by kernel_rfl) (by kernel_rfl) (by kernel_rfl) (fun _ _ _ h => h) (Or.inl ⟨by rfl, ?_⟩) (by exact hHeld) ?_
    rotate_left
    · (intro w hSw; (try dsimp only at hSw); go_simp <;> with_reducible rfl)
    try simp only [Act.put, List.setIfInBounds_toArray, List.set_cons_zero, List.set_cons_succ]
    refine wpAnyH_take (i := 15) (oi := { dst := some 44, op := Op.load 26 (Operand.tmp 2), type := 26, pos := _, after := #[{ on := 7, ground := Ground.guard }], guard := some (7, true) }) (v := ?_) rfl (by kernel_rfl) (by kernel_rfl) (by kernel_rfl) (fun _ _ _ h => h) (Or.inl ⟨by rfl, ?_⟩) (by exact hHeld) ?_
    rotate_left
    · (intro w hSw; (try dsimp only at hSw); go_simp <;> with_reducible rfl)
    try simp only [Act.put, List.setIfInBounds_toArray, List.set_cons_zero, List.set_cons_succ]
    refine wpAnyH_take (i := 16) (oi := { dst := some 45, op := Op.load 26 (Operand.tmp 3), type := 26, pos := _, after := #[{ on := 7, ground := Ground.guard }], guard := some (7, true) }) (v := ?_) rfl (by kernel_rfl) (by kernel_rfl) (by kernel_rfl) (fun _ _ _ h => h) (Or.inl ⟨by rfl, ?_⟩) (by exact hHeld) ?_
    rotate_left
    · (intro w hSw; (try dsimp only at hSw); go_simp <;> with_reducible rfl)
    try simp only [Act.put, List.setIfInBounds_toArray, List.set_cons_zero, List.set_cons_succ]
    refine wpAnyH_ready (rs := [9]) (by kernel_rfl) (by simp) ?_
    refine AllReadyH.cons (o := { dst := some 38, op := Op.call { callee := Callee.value (Operand.func 12), args := #[Operand.tmp 37], argTypes := #[26] }, type := 29, pos := _, after := #[{ on := 8, ground := Ground.data }, { on := 7, ground := Ground.chain }, { on := 7, ground := Ground.guard }], guard := some (7, true) }) rfl (fun K hK => ?_) AllReadyH.nil
    go_simp
    refine (HPR.out _ hB4).mono ?_
    rintro x u5 ⟨a6, n6, c6, rfl, hcv, hB5, _⟩
    have HCV := Lib.hid hcv; have hcvA := hcv u5 (Below.refl _ _); clear hcv
    go_wp2_with fail
    refine hK.out _ _ (HC.out _ hB5) (fun hHeld => ?_)
    clear hK K
    try simp only [Act.put, List.setIfInBounds_toArray, List.set_cons_zero, List.set_cons_succ]
    refine wpAnyH_ready (rs := [10, 12]) (by kernel_rfl) (by simp) ?_
    refine AllReadyH.cons (o := { dst := some 39, op := Op.convert 29 9 (Operand.tmp 38), type := 9, pos := _, after := #[{ on := 9, ground := Ground.data }, { on := 7, ground := Ground.guard }], guard := some (7, true) }) rfl (fun K hK => ?_) (AllReadyH.cons (o := { dst := some 41, op := Op.call { callee := Callee.value (Operand.func 12), args := #[Operand.tmp 40], argTypes := #[26] }, type := 29, pos := _, after := #[{ on := 11, ground := Ground.data }, { on := 9, ground := Ground.chain }, { on := 7, ground := Ground.guard }], guard := some (7, true) }) rfl (fun K hK => ?_) AllReadyH.nil)
    · go_simp
      refine hK.out _ _ (HC.out _ hB5) (fun hHeld => ?_)
      clear hK K
      try simp only [Act.put, List.setIfInBounds_toArray, List.set_cons_zero, List.set_cons_succ]
      refine wpAnyH_ready (rs := [12]) (by kernel_rfl) (by simp) ?_
      refine AllReadyH.cons (o := { dst := some 41, op := Op.call { callee := Callee.value (Operand.func 12), args := #[Operand.tmp 40], argTypes := #[26] }, type := 29, pos := _, after := #[{ on := 11, ground := Ground.data }, { on := 9, ground := Ground.chain }, { on := 7, ground := Ground.guard }], guard := some (7, true) }) rfl (fun K hK => ?_) AllReadyH.nil
      go_simp
      refine (HPQ.out _ hB5).mono ?_
      rintro x u6 ⟨a7, n7, c7, rfl, hcv, hB6, hb6⟩
      have HCW := Lib.hid hcv; have hcvA6 := HCV.out u6 hb6; have hcvB := hcv u6 (Below.refl _ _); have HB6 := Lib.hid hb6; clear hcv hb6
      go_wp2_with fail
      refine hK.out _ _ (HC.out _ hB6) (fun hHeld => ?_)
      clear hK K
      try simp only [Act.put, List.setIfInBounds_toArray, List.set_cons_zero, List.set_cons_succ]
      refine wpAnyH_ready (rs := [13, 17]) (by kernel_rfl) (by simp) ?_
      refine AllReadyH.cons (o := { dst := some 42, op := Op.convert 29 9 (Operand.tmp 41), type := 9, pos := _, after := #[{ on := 12, ground := Ground.data }, { on := 7, ground := Ground.guard }], guard := some (7, true) }) rfl (fun K hK => ?_) (AllReadyH.cons (o := { dst := some 46, op := Op.call { callee := Callee.value (Operand.func 18), args := #[Operand.tmp 44, Operand.tmp 45], argTypes := #[26, 26] }, type := 4, pos := _, after := #[{ on := 15, ground := Ground.data }, { on := 16, ground := Ground.data }, { on := 12, ground := Ground.chain }, { on := 7, ground := Ground.guard }], guard := some (7, true) }) rfl (fun K hK => ?_) AllReadyH.nil)
      · go_simp
        refine hK.out _ _ (HC.out _ hB6) (fun hHeld => ?_)
        clear hK K
        try simp only [Act.put, List.setIfInBounds_toArray, List.set_cons_zero, List.set_cons_succ]
        refine wpAnyH_take (i := 14) (oi := { dst := some 43, op := Op.binOp BinOp.eql 9 (Operand.tmp 39) (Operand.tmp 42) 9, type := 4, pos := _, after := #[{ on := 10, ground := Ground.data }, { on := 13, ground := Ground.data }, { on := 7, ground := Ground.guard }], guard := some (7, true) }) (v := ?_) rfl (by kernel_rfl) (by kernel_rfl) (by kernel_rfl) (fun _ _ _ h => h) (Or.inl ⟨by rfl, ?_⟩) (by exact hHeld) ?_
        rotate_left
        · (intro w hSw; (try dsimp only at hSw); go_simp <;> with_reducible rfl)
        try simp only [Act.put, List.setIfInBounds_toArray, List.set_cons_zero, List.set_cons_succ]
        refine wpAnyH_ready (rs := [17]) (by kernel_rfl) (by simp) ?_
        refine AllReadyH.cons (o := { dst := some 46, op := Op.call { callee := Callee.value (Operand.func 18), args := #[Operand.tmp 44, Operand.tmp 45], argTypes := #[26, 26] }, type := 4, pos := _, after := #[{ on := 15, ground := Ground.data }, { on := 16, ground := Ground.data }, { on := 12, ground := Ground.chain }, { on := 7, ground := Ground.guard }], guard := some (7, true) }) rfl (fun K hK => ?_) AllReadyH.nil
        go_simp
        refine (HSB.out _ hB6).mono ?_
        rintro x u7 ⟨rfl, hB7, hb7⟩
        have hcvA7 := HCV.out u7 (HB6.out.trans (hb7.mono HB6.out.size)); have hcvB7 := HCW.out u7 hb7
        go_wp2_with fail
        refine hK.out _ _ (HC.out _ hB7) (fun hHeld => ?_)
        clear hK K
        try simp only [Act.put, List.setIfInBounds_toArray, List.set_cons_zero, List.set_cons_succ]
        refine wpAnyH_take (i := 18) (oi := { dst := some 47, op := Op.binOp BinOp.eql 4 (Operand.tmp 43) (Operand.tmp 46) 4, type := 4, pos := _, after := #[{ on := 14, ground := Ground.data }, { on := 17, ground := Ground.data }, { on := 7, ground := Ground.guard }], guard := some (7, true) }) (v := ?_) rfl (by kernel_rfl) (by kernel_rfl) (by kernel_rfl) (fun _ _ _ h => h) (Or.inl ⟨by rfl, ?_⟩) (by exact hHeld) ?_
        rotate_left
        · (intro w hSw; (try dsimp only at hSw); go_simp <;> with_reducible rfl)
        try simp only [Act.put, List.setIfInBounds_toArray, List.set_cons_zero, List.set_cons_succ]
        refine wpAnyH_take (i := 19) (oi := { dst := some 48, op := Op.pick (Operand.tmp 36) (Operand.tmp 47) (Operand.const (Value.bool false)), type := 4, pos := _, after := #[{ on := 7, ground := Ground.data }, { on := 18, ground := Ground.data }], guard := none }) (v := ?_) rfl (by kernel_rfl) (by kernel_rfl) (by kernel_rfl) (fun _ _ _ h => h) (Or.inl ⟨by rfl, ?_⟩) (by exact hHeld) ?_
        rotate_left
        · (intro w hSw; (try dsimp only at hSw); go_simp <;> with_reducible rfl)
        try simp only [Act.put, List.setIfInBounds_toArray, List.set_cons_zero, List.set_cons_succ]
        refine wpAnyH_take (i := 20) (oi := { dst := some 4, op := Op.assign (Operand.tmp 48), type := 4, pos := _, after := #[{ on := 19, ground := Ground.data }, { on := 17, ground := Ground.chain }, { on := 0, ground := Ground.phase }, { on := 1, ground := Ground.phase }, { on := 2, ground := Ground.phase }, { on := 3, ground := Ground.phase }, { on := 4, ground := Ground.phase }, { on := 5, ground := Ground.phase }, { on := 6, ground := Ground.phase }, { on := 7, ground := Ground.phase }, { on := 8, ground := Ground.phase }, { on := 9, ground := Ground.phase }, { on := 10, ground := Ground.phase }, { on := 11, ground := Ground.phase }, { on := 12, ground := Ground.phase }, { on := 13, ground := Ground.phase }, { on := 14, ground := Ground.phase }, { on := 15, ground := Ground.phase }, { on := 16, ground := Ground.phase }, { on := 17, ground := Ground.phase }, { on := 18, ground := Ground.phase }, { on := 19, ground := Ground.phase }], guard := none }) (v := ?_) rfl (by kernel_rfl) (by kernel_rfl) (by kernel_rfl) (fun _ _ _ h => h) (Or.inl ⟨by rfl, ?_⟩) (by exact hHeld) ?_
        rotate_left
        · (intro w hSw; (try dsimp only at hSw); go_simp <;> with_reducible rfl)
        try simp only [Act.put, List.setIfInBounds_toArray, List.set_cons_zero, List.set_cons_succ]
        refine wpAnyH_done (by kernel_rfl) ?_ _
        go_wp2_with fail
        go_ret
        exact ⟨rfl, HBZ.out.trans (hB7.mono HBZ.out.size)⟩
      · go_simp
        refine (HSB.out _ hB6).mono ?_
        rintro x u7 ⟨rfl, hB7, hb7⟩
        have hcvA7 := HCV.out u7 (HB6.out.trans (hb7.mono HB6.out.size)); have hcvB7 := HCW.out u7 hb7
        go_wp2_with fail
        refine hK.out _ _ (HC.out _ hB7) (fun hHeld => ?_)
        clear hK K
        try simp only [Act.put, List.setIfInBounds_toArray, List.set_cons_zero, List.set_cons_succ]
        refine wpAnyH_ready (rs := [13]) (by kernel_rfl) (by simp) ?_
        refine AllReadyH.cons (o := { dst := some 42, op := Op.convert 29 9 (Operand.tmp 41), type := 9, pos := _, after := #[{ on := 12, ground := Ground.data }, { on := 7, ground := Ground.guard }], guard := some (7, true) }) rfl (fun K hK => ?_) AllReadyH.nil
        go_simp
        refine hK.out _ _ (HC.out _ hB7) (fun hHeld => ?_)
        clear hK K
        try simp only [Act.put, List.setIfInBounds_toArray, List.set_cons_zero, List.set_cons_succ]
        refine wpAnyH_take (i := 14) (oi := { dst := some 43, op := Op.binOp BinOp.eql 9 (Operand.tmp 39) (Operand.tmp 42) 9, type := 4, pos := _, after := #[{ on := 10, ground := Ground.data }, { on := 13, ground := Ground.data }, { on := 7, ground := Ground.guard }], guard := some (7, true) }) (v := ?_) rfl (by kernel_rfl) (by kernel_rfl) (by kernel_rfl) (fun _ _ _ h => h) (Or.inl ⟨by rfl, ?_⟩) (by exact hHeld) ?_
        rotate_left
        · (intro w hSw; (try dsimp only at hSw); go_simp <;> with_reducible rfl)
        try simp only [Act.put, List.setIfInBounds_toArray, List.set_cons_zero, List.set_cons_succ]
        refine wpAnyH_take (i := 18) (oi := { dst := some 47, op := Op.binOp BinOp.eql 4 (Operand.tmp 43) (Operand.tmp 46) 4, type := 4, pos := _, after := #[{ on := 14, ground := Ground.data }, { on := 17, ground := Ground.data }, { on := 7, ground := Ground.guard }], guard := some (7, true) }) (v := ?_) rfl (by kernel_rfl) (by kernel_rfl) (by kernel_rfl) (fun _ _ _ h => h) (Or.inl ⟨by rfl, ?_⟩) (by exact hHeld) ?_
        rotate_left
        · (intro w hSw; (try dsimp only at hSw); go_simp <;> with_reducible rfl)
        try simp only [Act.put, List.setIfInBounds_toArray, List.set_cons_zero, List.set_cons_succ]
        refine wpAnyH_take (i := 19) (oi := { dst := some 48, op := Op.pick (Operand.tmp 36) (Operand.tmp 47) (Operand.const (Value.bool false)), type := 4, pos := _, after := #[{ on := 7, ground := Ground.data }, { on := 18, ground := Ground.data }], guard := none }) (v := ?_) rfl (by kernel_rfl) (by kernel_rfl) (by kernel_rfl) (fun _ _ _ h => h) (Or.inl ⟨by rfl, ?_⟩) (by exact hHeld) ?_
        rotate_left
        · (intro w hSw; (try dsimp only at hSw); go_simp <;> with_reducible rfl)
        try simp only [Act.put, List.setIfInBounds_toArray, List.set_cons_zero, List.set_cons_succ]
        refine wpAnyH_take (i := 20) (oi := { dst := some 4, op := Op.assign (Operand.tmp 48), type := 4, pos := _, after := #[{ on := 19, ground := Ground.data }, { on := 17, ground := Ground.chain }, { on := 0, ground := Ground.phase }, { on := 1, ground := Ground.phase }, { on := 2, ground := Ground.phase }, { on := 3, ground := Ground.phase }, { on := 4, ground := Ground.phase }, { on := 5, ground := Ground.phase }, { on := 6, ground := Ground.phase }, { on := 7, ground := Ground.phase }, { on := 8, ground := Ground.phase }, { on := 9, ground := Ground.phase }, { on := 10, ground := Ground.phase }, { on := 11, ground := Ground.phase }, { on := 12, ground := Ground.phase }, { on := 13, ground := Ground.phase }, { on := 14, ground := Ground.phase }, { on := 15, ground := Ground.phase }, { on := 16, ground := Ground.phase }, { on := 17, ground := Ground.phase }, { on := 18, ground := Ground.phase }, { on := 19, ground := Ground.phase }], guard := none }) (v := ?_) rfl (by kernel_rfl) (by kernel_rfl) (by kernel_rfl) (fun _ _ _ h => h) (Or.inl ⟨by rfl, ?_⟩) (by exact hHeld) ?_
        rotate_left
        · (intro w hSw; (try dsimp only at hSw); go_simp <;> with_reducible rfl)
        try simp only [Act.put, List.setIfInBounds_toArray, List.set_cons_zero, List.set_cons_succ]
        refine wpAnyH_done (by kernel_rfl) ?_ _
        go_wp2_with fail
        go_ret
        exact ⟨rfl, HBZ.out.trans (hB7.mono HBZ.out.size)⟩
    · go_simp
      refine (HPQ.out _ hB5).mono ?_
      rintro x u6 ⟨a7, n7, c7, rfl, hcv, hB6, hb6⟩
      have HCW := Lib.hid hcv; have hcvA6 := HCV.out u6 hb6; have hcvB := hcv u6 (Below.refl _ _); have HB6 := Lib.hid hb6; clear hcv hb6
      go_wp2_with fail
      refine hK.out _ _ (HC.out _ hB6) (fun hHeld => ?_)
      clear hK K
      try simp only [Act.put, List.setIfInBounds_toArray, List.set_cons_zero, List.set_cons_succ]
      refine wpAnyH_ready (rs := [10, 13, 17]) (by kernel_rfl) (by simp) ?_
      refine AllReadyH.cons (o := { dst := some 39, op := Op.convert 29 9 (Operand.tmp 38), type := 9, pos := _, after := #[{ on := 9, ground := Ground.data }, { on := 7, ground := Ground.guard }], guard := some (7, true) }) rfl (fun K hK => ?_) (AllReadyH.cons (o := { dst := some 42, op := Op.convert 29 9 (Operand.tmp 41), type := 9, pos := _, after := #[{ on := 12, ground := Ground.data }, { on := 7, ground := Ground.guard }], guard := some (7, true) }) rfl (fun K hK => ?_) (AllReadyH.cons (o := { dst := some 46, op := Op.call { callee := Callee.value (Operand.func 18), args := #[Operand.tmp 44, Operand.tmp 45], argTypes := #[26, 26] }, type := 4, pos := _, after := #[{ on := 15, ground := Ground.data }, { on := 16, ground := Ground.data }, { on := 12, ground := Ground.chain }, { on := 7, ground := Ground.guard }], guard := some (7, true) }) rfl (fun K hK => ?_) AllReadyH.nil))
      · go_simp
        refine hK.out _ _ (HC.out _ hB6) (fun hHeld => ?_)
        clear hK K
        try simp only [Act.put, List.setIfInBounds_toArray, List.set_cons_zero, List.set_cons_succ]
        refine wpAnyH_ready (rs := [13, 17]) (by kernel_rfl) (by simp) ?_
        refine AllReadyH.cons (o := { dst := some 42, op := Op.convert 29 9 (Operand.tmp 41), type := 9, pos := _, after := #[{ on := 12, ground := Ground.data }, { on := 7, ground := Ground.guard }], guard := some (7, true) }) rfl (fun K hK => ?_) (AllReadyH.cons (o := { dst := some 46, op := Op.call { callee := Callee.value (Operand.func 18), args := #[Operand.tmp 44, Operand.tmp 45], argTypes := #[26, 26] }, type := 4, pos := _, after := #[{ on := 15, ground := Ground.data }, { on := 16, ground := Ground.data }, { on := 12, ground := Ground.chain }, { on := 7, ground := Ground.guard }], guard := some (7, true) }) rfl (fun K hK => ?_) AllReadyH.nil)
        · go_simp
          refine hK.out _ _ (HC.out _ hB6) (fun hHeld => ?_)
          clear hK K
          try simp only [Act.put, List.setIfInBounds_toArray, List.set_cons_zero, List.set_cons_succ]
          refine wpAnyH_take (i := 14) (oi := { dst := some 43, op := Op.binOp BinOp.eql 9 (Operand.tmp 39) (Operand.tmp 42) 9, type := 4, pos := _, after := #[{ on := 10, ground := Ground.data }, { on := 13, ground := Ground.data }, { on := 7, ground := Ground.guard }], guard := some (7, true) }) (v := ?_) rfl (by kernel_rfl) (by kernel_rfl) (by kernel_rfl) (fun _ _ _ h => h) (Or.inl ⟨by rfl, ?_⟩) (by exact hHeld) ?_
          rotate_left
          · (intro w hSw; (try dsimp only at hSw); go_simp <;> with_reducible rfl)
          try simp only [Act.put, List.setIfInBounds_toArray, List.set_cons_zero, List.set_cons_succ]
          refine wpAnyH_ready (rs := [17]) (by kernel_rfl) (by simp) ?_
          refine AllReadyH.cons (o := { dst := some 46, op := Op.call { callee := Callee.value (Operand.func 18), args := #[Operand.tmp 44, Operand.tmp 45], argTypes := #[26, 26] }, type := 4, pos := _, after := #[{ on := 15, ground := Ground.data }, { on := 16, ground := Ground.data }, { on := 12, ground := Ground.chain }, { on := 7, ground := Ground.guard }], guard := some (7, true) }) rfl (fun K hK => ?_) AllReadyH.nil
          go_simp
          refine (HSB.out _ hB6).mono ?_
          rintro x u7 ⟨rfl, hB7, hb7⟩
          have hcvA7 := HCV.out u7 (HB6.out.trans (hb7.mono HB6.out.size)); have hcvB7 := HCW.out u7 hb7
          go_wp2_with fail
          refine hK.out _ _ (HC.out _ hB7) (fun hHeld => ?_)
          clear hK K
          try simp only [Act.put, List.setIfInBounds_toArray, List.set_cons_zero, List.set_cons_succ]
          refine wpAnyH_take (i := 18) (oi := { dst := some 47, op := Op.binOp BinOp.eql 4 (Operand.tmp 43) (Operand.tmp 46) 4, type := 4, pos := _, after := #[{ on := 14, ground := Ground.data }, { on := 17, ground := Ground.data }, { on := 7, ground := Ground.guard }], guard := some (7, true) }) (v := ?_) rfl (by kernel_rfl) (by kernel_rfl) (by kernel_rfl) (fun _ _ _ h => h) (Or.inl ⟨by rfl, ?_⟩) (by exact hHeld) ?_
          rotate_left
          · (intro w hSw; (try dsimp only at hSw); go_simp <;> with_reducible rfl)
          try simp only [Act.put, List.setIfInBounds_toArray, List.set_cons_zero, List.set_cons_succ]
          refine wpAnyH_take (i := 19) (oi := { dst := some 48, op := Op.pick (Operand.tmp 36) (Operand.tmp 47) (Operand.const (Value.bool false)), type := 4, pos := _, after := #[{ on := 7, ground := Ground.data }, { on := 18, ground := Ground.data }], guard := none }) (v := ?_) rfl (by kernel_rfl) (by kernel_rfl) (by kernel_rfl) (fun _ _ _ h => h) (Or.inl ⟨by rfl, ?_⟩) (by exact hHeld) ?_
          rotate_left
          · (intro w hSw; (try dsimp only at hSw); go_simp <;> with_reducible rfl)
          try simp only [Act.put, List.setIfInBounds_toArray, List.set_cons_zero, List.set_cons_succ]
          refine wpAnyH_take (i := 20) (oi := { dst := some 4, op := Op.assign (Operand.tmp 48), type := 4, pos := _, after := #[{ on := 19, ground := Ground.data }, { on := 17, ground := Ground.chain }, { on := 0, ground := Ground.phase }, { on := 1, ground := Ground.phase }, { on := 2, ground := Ground.phase }, { on := 3, ground := Ground.phase }, { on := 4, ground := Ground.phase }, { on := 5, ground := Ground.phase }, { on := 6, ground := Ground.phase }, { on := 7, ground := Ground.phase }, { on := 8, ground := Ground.phase }, { on := 9, ground := Ground.phase }, { on := 10, ground := Ground.phase }, { on := 11, ground := Ground.phase }, { on := 12, ground := Ground.phase }, { on := 13, ground := Ground.phase }, { on := 14, ground := Ground.phase }, { on := 15, ground := Ground.phase }, { on := 16, ground := Ground.phase }, { on := 17, ground := Ground.phase }, { on := 18, ground := Ground.phase }, { on := 19, ground := Ground.phase }], guard := none }) (v := ?_) rfl (by kernel_rfl) (by kernel_rfl) (by kernel_rfl) (fun _ _ _ h => h) (Or.inl ⟨by rfl, ?_⟩) (by exact hHeld) ?_
          rotate_left
          · (intro w hSw; (try dsimp only at hSw); go_simp <;> with_reducible rfl)
          try simp only [Act.put, List.setIfInBounds_toArray, List.set_cons_zero, List.set_cons_succ]
          refine wpAnyH_done (by kernel_rfl) ?_ _
          go_wp2_with fail
          go_ret
          exact ⟨rfl, HBZ.out.trans (hB7.mono HBZ.out.size)⟩
        · go_simp
          refine (HSB.out _ hB6).mono ?_
          rintro x u7 ⟨rfl, hB7, hb7⟩
          have hcvA7 := HCV.out u7 (HB6.out.trans (hb7.mono HB6.out.size)); have hcvB7 := HCW.out u7 hb7
          go_wp2_with fail
          refine hK.out _ _ (HC.out _ hB7) (fun hHeld => ?_)
          clear hK K
          try simp only [Act.put, List.setIfInBounds_toArray, List.set_cons_zero, List.set_cons_succ]
          refine wpAnyH_ready (rs := [13]) (by kernel_rfl) (by simp) ?_
          refine AllReadyH.cons (o := { dst := some 42, op := Op.convert 29 9 (Operand.tmp 41), type := 9, pos := _, after := #[{ on := 12, ground := Ground.data }, { on := 7, ground := Ground.guard }], guard := some (7, true) }) rfl (fun K hK => ?_) AllReadyH.nil
          go_simp
          refine hK.out _ _ (HC.out _ hB7) (fun hHeld => ?_)
          clear hK K
          try simp only [Act.put, List.setIfInBounds_toArray, List.set_cons_zero, List.set_cons_succ]
          refine wpAnyH_take (i := 14) (oi := { dst := some 43, op := Op.binOp BinOp.eql 9 (Operand.tmp 39) (Operand.tmp 42) 9, type := 4, pos := _, after := #[{ on := 10, ground := Ground.data }, { on := 13, ground := Ground.data }, { on := 7, ground := Ground.guard }], guard := some (7, true) }) (v := ?_) rfl (by kernel_rfl) (by kernel_rfl) (by kernel_rfl) (fun _ _ _ h => h) (Or.inl ⟨by rfl, ?_⟩) (by exact hHeld) ?_
          rotate_left
          · (intro w hSw; (try dsimp only at hSw); go_simp <;> with_reducible rfl)
          try simp only [Act.put, List.setIfInBounds_toArray, List.set_cons_zero, List.set_cons_succ]
          refine wpAnyH_take (i := 18) (oi := { dst := some 47, op := Op.binOp BinOp.eql 4 (Operand.tmp 43) (Operand.tmp 46) 4, type := 4, pos := _, after := #[{ on := 14, ground := Ground.data }, { on := 17, ground := Ground.data }, { on := 7, ground := Ground.guard }], guard := some (7, true) }) (v := ?_) rfl (by kernel_rfl) (by kernel_rfl) (by kernel_rfl) (fun _ _ _ h => h) (Or.inl ⟨by rfl, ?_⟩) (by exact hHeld) ?_
          rotate_left
          · (intro w hSw; (try dsimp only at hSw); go_simp <;> with_reducible rfl)
          try simp only [Act.put, List.setIfInBounds_toArray, List.set_cons_zero, List.set_cons_succ]
          refine wpAnyH_take (i := 19) (oi := { dst := some 48, op := Op.pick (Operand.tmp 36) (Operand.tmp 47) (Operand.const (Value.bool false)), type := 4, pos := _, after := #[{ on := 7, ground := Ground.data }, { on := 18, ground := Ground.data }], guard := none }) (v := ?_) rfl (by kernel_rfl) (by kernel_rfl) (by kernel_rfl) (fun _ _ _ h => h) (Or.inl ⟨by rfl, ?_⟩) (by exact hHeld) ?_
          rotate_left
          · (intro w hSw; (try dsimp only at hSw); go_simp <;> with_reducible rfl)
          try simp only [Act.put, List.setIfInBounds_toArray, List.set_cons_zero, List.set_cons_succ]
          refine wpAnyH_take (i := 20) (oi := { dst := some 4, op := Op.assign (Operand.tmp 48), type := 4, pos := _, after := #[{ on := 19, ground := Ground.data }, { on := 17, ground := Ground.chain }, { on := 0, ground := Ground.phase }, { on := 1, ground := Ground.phase }, { on := 2, ground := Ground.phase }, { on := 3, ground := Ground.phase }, { on := 4, ground := Ground.phase }, { on := 5, ground := Ground.phase }, { on := 6, ground := Ground.phase }, { on := 7, ground := Ground.phase }, { on := 8, ground := Ground.phase }, { on := 9, ground := Ground.phase }, { on := 10, ground := Ground.phase }, { on := 11, ground := Ground.phase }, { on := 12, ground := Ground.phase }, { on := 13, ground := Ground.phase }, { on := 14, ground := Ground.phase }, { on := 15, ground := Ground.phase }, { on := 16, ground := Ground.phase }, { on := 17, ground := Ground.phase }, { on := 18, ground := Ground.phase }, { on := 19, ground := Ground.phase }], guard := none }) (v := ?_) rfl (by kernel_rfl) (by kernel_rfl) (by kernel_rfl) (fun _ _ _ h => h) (Or.inl ⟨by rfl, ?_⟩) (by exact hHeld) ?_
          rotate_left
          · (intro w hSw; (try dsimp only at hSw); go_simp <;> with_reducible rfl)
          try simp only [Act.put, List.setIfInBounds_toArray, List.set_cons_zero, List.set_cons_succ]
          refine wpAnyH_done (by kernel_rfl) ?_ _
          go_wp2_with fail
          go_ret
          exact ⟨rfl, HBZ.out.trans (hB7.mono HBZ.out.size)⟩
      · go_simp
        refine hK.out _ _ (HC.out _ hB6) (fun hHeld => ?_)
        clear hK K
        try simp only [Act.put, List.setIfInBounds_toArray, List.set_cons_zero, List.set_cons_succ]
        refine wpAnyH_ready (rs := [10, 17]) (by kernel_rfl) (by simp) ?_
        refine AllReadyH.cons (o := { dst := some 39, op := Op.convert 29 9 (Operand.tmp 38), type := 9, pos := _, after := #[{ on := 9, ground := Ground.data }, { on := 7, ground := Ground.guard }], guard := some (7, true) }) rfl (fun K hK => ?_) (AllReadyH.cons (o := { dst := some 46, op := Op.call { callee := Callee.value (Operand.func 18), args := #[Operand.tmp 44, Operand.tmp 45], argTypes := #[26, 26] }, type := 4, pos := _, after := #[{ on := 15, ground := Ground.data }, { on := 16, ground := Ground.data }, { on := 12, ground := Ground.chain }, { on := 7, ground := Ground.guard }], guard := some (7, true) }) rfl (fun K hK => ?_) AllReadyH.nil)
        · go_simp
          refine hK.out _ _ (HC.out _ hB6) (fun hHeld => ?_)
          clear hK K
          try simp only [Act.put, List.setIfInBounds_toArray, List.set_cons_zero, List.set_cons_succ]
          refine wpAnyH_take (i := 14) (oi := { dst := some 43, op := Op.binOp BinOp.eql 9 (Operand.tmp 39) (Operand.tmp 42) 9, type := 4, pos := _, after := #[{ on := 10, ground := Ground.data }, { on := 13, ground := Ground.data }, { on := 7, ground := Ground.guard }], guard := some (7, true) }) (v := ?_) rfl (by kernel_rfl) (by kernel_rfl) (by kernel_rfl) (fun _ _ _ h => h) (Or.inl ⟨by rfl, ?_⟩) (by exact hHeld) ?_
          rotate_left
          · (intro w hSw; (try dsimp only at hSw); go_simp <;> with_reducible rfl)
          try simp only [Act.put, List.setIfInBounds_toArray, List.set_cons_zero, List.set_cons_succ]
          refine wpAnyH_ready (rs := [17]) (by kernel_rfl) (by simp) ?_
          refine AllReadyH.cons (o := { dst := some 46, op := Op.call { callee := Callee.value (Operand.func 18), args := #[Operand.tmp 44, Operand.tmp 45], argTypes := #[26, 26] }, type := 4, pos := _, after := #[{ on := 15, ground := Ground.data }, { on := 16, ground := Ground.data }, { on := 12, ground := Ground.chain }, { on := 7, ground := Ground.guard }], guard := some (7, true) }) rfl (fun K hK => ?_) AllReadyH.nil
          go_simp
          refine (HSB.out _ hB6).mono ?_
          rintro x u7 ⟨rfl, hB7, hb7⟩
          have hcvA7 := HCV.out u7 (HB6.out.trans (hb7.mono HB6.out.size)); have hcvB7 := HCW.out u7 hb7
          go_wp2_with fail
          refine hK.out _ _ (HC.out _ hB7) (fun hHeld => ?_)
          clear hK K
          try simp only [Act.put, List.setIfInBounds_toArray, List.set_cons_zero, List.set_cons_succ]
          refine wpAnyH_take (i := 18) (oi := { dst := some 47, op := Op.binOp BinOp.eql 4 (Operand.tmp 43) (Operand.tmp 46) 4, type := 4, pos := _, after := #[{ on := 14, ground := Ground.data }, { on := 17, ground := Ground.data }, { on := 7, ground := Ground.guard }], guard := some (7, true) }) (v := ?_) rfl (by kernel_rfl) (by kernel_rfl) (by kernel_rfl) (fun _ _ _ h => h) (Or.inl ⟨by rfl, ?_⟩) (by exact hHeld) ?_
          rotate_left
          · (intro w hSw; (try dsimp only at hSw); go_simp <;> with_reducible rfl)
          try simp only [Act.put, List.setIfInBounds_toArray, List.set_cons_zero, List.set_cons_succ]
          refine wpAnyH_take (i := 19) (oi := { dst := some 48, op := Op.pick (Operand.tmp 36) (Operand.tmp 47) (Operand.const (Value.bool false)), type := 4, pos := _, after := #[{ on := 7, ground := Ground.data }, { on := 18, ground := Ground.data }], guard := none }) (v := ?_) rfl (by kernel_rfl) (by kernel_rfl) (by kernel_rfl) (fun _ _ _ h => h) (Or.inl ⟨by rfl, ?_⟩) (by exact hHeld) ?_
          rotate_left
          · (intro w hSw; (try dsimp only at hSw); go_simp <;> with_reducible rfl)
          try simp only [Act.put, List.setIfInBounds_toArray, List.set_cons_zero, List.set_cons_succ]
          refine wpAnyH_take (i := 20) (oi := { dst := some 4, op := Op.assign (Operand.tmp 48), type := 4, pos := _, after := #[{ on := 19, ground := Ground.data }, { on := 17, ground := Ground.chain }, { on := 0, ground := Ground.phase }, { on := 1, ground := Ground.phase }, { on := 2, ground := Ground.phase }, { on := 3, ground := Ground.phase }, { on := 4, ground := Ground.phase }, { on := 5, ground := Ground.phase }, { on := 6, ground := Ground.phase }, { on := 7, ground := Ground.phase }, { on := 8, ground := Ground.phase }, { on := 9, ground := Ground.phase }, { on := 10, ground := Ground.phase }, { on := 11, ground := Ground.phase }, { on := 12, ground := Ground.phase }, { on := 13, ground := Ground.phase }, { on := 14, ground := Ground.phase }, { on := 15, ground := Ground.phase }, { on := 16, ground := Ground.phase }, { on := 17, ground := Ground.phase }, { on := 18, ground := Ground.phase }, { on := 19, ground := Ground.phase }], guard := none }) (v := ?_) rfl (by kernel_rfl) (by kernel_rfl) (by kernel_rfl) (fun _ _ _ h => h) (Or.inl ⟨by rfl, ?_⟩) (by exact hHeld) ?_
          rotate_left
          · (intro w hSw; (try dsimp only at hSw); go_simp <;> with_reducible rfl)
          try simp only [Act.put, List.setIfInBounds_toArray, List.set_cons_zero, List.set_cons_succ]
          refine wpAnyH_done (by kernel_rfl) ?_ _
          go_wp2_with fail
          go_ret
          exact ⟨rfl, HBZ.out.trans (hB7.mono HBZ.out.size)⟩
        · go_simp
          refine (HSB.out _ hB6).mono ?_
          rintro x u7 ⟨rfl, hB7, hb7⟩
          have hcvA7 := HCV.out u7 (HB6.out.trans (hb7.mono HB6.out.size)); have hcvB7 := HCW.out u7 hb7
          go_wp2_with fail
          refine hK.out _ _ (HC.out _ hB7) (fun hHeld => ?_)
          clear hK K
          try simp only [Act.put, List.setIfInBounds_toArray, List.set_cons_zero, List.set_cons_succ]
          refine wpAnyH_ready (rs := [10]) (by kernel_rfl) (by simp) ?_
          refine AllReadyH.cons (o := { dst := some 39, op := Op.convert 29 9 (Operand.tmp 38), type := 9, pos := _, after := #[{ on := 9, ground := Ground.data }, { on := 7, ground := Ground.guard }], guard := some (7, true) }) rfl (fun K hK => ?_) AllReadyH.nil
          go_simp
          refine hK.out _ _ (HC.out _ hB7) (fun hHeld => ?_)
          clear hK K
          try simp only [Act.put, List.setIfInBounds_toArray, List.set_cons_zero, List.set_cons_succ]
          refine wpAnyH_take (i := 14) (oi := { dst := some 43, op := Op.binOp BinOp.eql 9 (Operand.tmp 39) (Operand.tmp 42) 9, type := 4, pos := _, after := #[{ on := 10, ground := Ground.data }, { on := 13, ground := Ground.data }, { on := 7, ground := Ground.guard }], guard := some (7, true) }) (v := ?_) rfl (by kernel_rfl) (by kernel_rfl) (by kernel_rfl) (fun _ _ _ h => h) (Or.inl ⟨by rfl, ?_⟩) (by exact hHeld) ?_
          rotate_left
          · (intro w hSw; (try dsimp only at hSw); go_simp <;> with_reducible rfl)
          try simp only [Act.put, List.setIfInBounds_toArray, List.set_cons_zero, List.set_cons_succ]
          refine wpAnyH_take (i := 18) (oi := { dst := some 47, op := Op.binOp BinOp.eql 4 (Operand.tmp 43) (Operand.tmp 46) 4, type := 4, pos := _, after := #[{ on := 14, ground := Ground.data }, { on := 17, ground := Ground.data }, { on := 7, ground := Ground.guard }], guard := some (7, true) }) (v := ?_) rfl (by kernel_rfl) (by kernel_rfl) (by kernel_rfl) (fun _ _ _ h => h) (Or.inl ⟨by rfl, ?_⟩) (by exact hHeld) ?_
          rotate_left
          · (intro w hSw; (try dsimp only at hSw); go_simp <;> with_reducible rfl)
          try simp only [Act.put, List.setIfInBounds_toArray, List.set_cons_zero, List.set_cons_succ]
          refine wpAnyH_take (i := 19) (oi := { dst := some 48, op := Op.pick (Operand.tmp 36) (Operand.tmp 47) (Operand.const (Value.bool false)), type := 4, pos := _, after := #[{ on := 7, ground := Ground.data }, { on := 18, ground := Ground.data }], guard := none }) (v := ?_) rfl (by kernel_rfl) (by kernel_rfl) (by kernel_rfl) (fun _ _ _ h => h) (Or.inl ⟨by rfl, ?_⟩) (by exact hHeld) ?_
          rotate_left
          · (intro w hSw; (try dsimp only at hSw); go_simp <;> with_reducible rfl)
          try simp only [Act.put, List.setIfInBounds_toArray, List.set_cons_zero, List.set_cons_succ]
          refine wpAnyH_take (i := 20) (oi := { dst := some 4, op := Op.assign (Operand.tmp 48), type := 4, pos := _, after := #[{ on := 19, ground := Ground.data }, { on := 17, ground := Ground.chain }, { on := 0, ground := Ground.phase }, { on := 1, ground := Ground.phase }, { on := 2, ground := Ground.phase }, { on := 3, ground := Ground.phase }, { on := 4, ground := Ground.phase }, { on := 5, ground := Ground.phase }, { on := 6, ground := Ground.phase }, { on := 7, ground := Ground.phase }, { on := 8, ground := Ground.phase }, { on := 9, ground := Ground.phase }, { on := 10, ground := Ground.phase }, { on := 11, ground := Ground.phase }, { on := 12, ground := Ground.phase }, { on := 13, ground := Ground.phase }, { on := 14, ground := Ground.phase }, { on := 15, ground := Ground.phase }, { on := 16, ground := Ground.phase }, { on := 17, ground := Ground.phase }, { on := 18, ground := Ground.phase }, { on := 19, ground := Ground.phase }], guard := none }) (v := ?_) rfl (by kernel_rfl) (by kernel_rfl) (by kernel_rfl) (fun _ _ _ h => h) (Or.inl ⟨by rfl, ?_⟩) (by exact hHeld) ?_
          rotate_left
          · (intro w hSw; (try dsimp only at hSw); go_simp <;> with_reducible rfl)
          try simp only [Act.put, List.setIfInBounds_toArray, List.set_cons_zero, List.set_cons_succ]
          refine wpAnyH_done (by kernel_rfl) ?_ _
          go_wp2_with fail
          go_ret
          exact ⟨rfl, HBZ.out.trans (hB7.mono HBZ.out.size)⟩
      · go_simp
        refine (HSB.out _ hB6).mono ?_
        rintro x u7 ⟨rfl, hB7, hb7⟩
        have hcvA7 := HCV.out u7 (HB6.out.trans (hb7.mono HB6.out.size)); have hcvB7 := HCW.out u7 hb7
        go_wp2_with fail
        refine hK.out _ _ (HC.out _ hB7) (fun hHeld => ?_)
        clear hK K
        try simp only [Act.put, List.setIfInBounds_toArray, List.set_cons_zero, List.set_cons_succ]
        refine wpAnyH_ready (rs := [10, 13]) (by kernel_rfl) (by simp) ?_
        refine AllReadyH.cons (o := { dst := some 39, op := Op.convert 29 9 (Operand.tmp 38), type := 9, pos := _, after := #[{ on := 9, ground := Ground.data }, { on := 7, ground := Ground.guard }], guard := some (7, true) }) rfl (fun K hK => ?_) (AllReadyH.cons (o := { dst := some 42, op := Op.convert 29 9 (Operand.tmp 41), type := 9, pos := _, after := #[{ on := 12, ground := Ground.data }, { on := 7, ground := Ground.guard }], guard := some (7, true) }) rfl (fun K hK => ?_) AllReadyH.nil)
        · go_simp
          refine hK.out _ _ (HC.out _ hB7) (fun hHeld => ?_)
          clear hK K
          try simp only [Act.put, List.setIfInBounds_toArray, List.set_cons_zero, List.set_cons_succ]
          refine wpAnyH_ready (rs := [13]) (by kernel_rfl) (by simp) ?_
          refine AllReadyH.cons (o := { dst := some 42, op := Op.convert 29 9 (Operand.tmp 41), type := 9, pos := _, after := #[{ on := 12, ground := Ground.data }, { on := 7, ground := Ground.guard }], guard := some (7, true) }) rfl (fun K hK => ?_) AllReadyH.nil
          go_simp
          refine hK.out _ _ (HC.out _ hB7) (fun hHeld => ?_)
          clear hK K
          try simp only [Act.put, List.setIfInBounds_toArray, List.set_cons_zero, List.set_cons_succ]
          refine wpAnyH_take (i := 14) (oi := { dst := some 43, op := Op.binOp BinOp.eql 9 (Operand.tmp 39) (Operand.tmp 42) 9, type := 4, pos := _, after := #[{ on := 10, ground := Ground.data }, { on := 13, ground := Ground.data }, { on := 7, ground := Ground.guard }], guard := some (7, true) }) (v := ?_) rfl (by kernel_rfl) (by kernel_rfl) (by kernel_rfl) (fun _ _ _ h => h) (Or.inl ⟨by rfl, ?_⟩) (by exact hHeld) ?_
          rotate_left
          · (intro w hSw; (try dsimp only at hSw); go_simp <;> with_reducible rfl)
          try simp only [Act.put, List.setIfInBounds_toArray, List.set_cons_zero, List.set_cons_succ]
          refine wpAnyH_take (i := 18) (oi := { dst := some 47, op := Op.binOp BinOp.eql 4 (Operand.tmp 43) (Operand.tmp 46) 4, type := 4, pos := _, after := #[{ on := 14, ground := Ground.data }, { on := 17, ground := Ground.data }, { on := 7, ground := Ground.guard }], guard := some (7, true) }) (v := ?_) rfl (by kernel_rfl) (by kernel_rfl) (by kernel_rfl) (fun _ _ _ h => h) (Or.inl ⟨by rfl, ?_⟩) (by exact hHeld) ?_
          rotate_left
          · (intro w hSw; (try dsimp only at hSw); go_simp <;> with_reducible rfl)
          try simp only [Act.put, List.setIfInBounds_toArray, List.set_cons_zero, List.set_cons_succ]
          refine wpAnyH_take (i := 19) (oi := { dst := some 48, op := Op.pick (Operand.tmp 36) (Operand.tmp 47) (Operand.const (Value.bool false)), type := 4, pos := _, after := #[{ on := 7, ground := Ground.data }, { on := 18, ground := Ground.data }], guard := none }) (v := ?_) rfl (by kernel_rfl) (by kernel_rfl) (by kernel_rfl) (fun _ _ _ h => h) (Or.inl ⟨by rfl, ?_⟩) (by exact hHeld) ?_
          rotate_left
          · (intro w hSw; (try dsimp only at hSw); go_simp <;> with_reducible rfl)
          try simp only [Act.put, List.setIfInBounds_toArray, List.set_cons_zero, List.set_cons_succ]
          refine wpAnyH_take (i := 20) (oi := { dst := some 4, op := Op.assign (Operand.tmp 48), type := 4, pos := _, after := #[{ on := 19, ground := Ground.data }, { on := 17, ground := Ground.chain }, { on := 0, ground := Ground.phase }, { on := 1, ground := Ground.phase }, { on := 2, ground := Ground.phase }, { on := 3, ground := Ground.phase }, { on := 4, ground := Ground.phase }, { on := 5, ground := Ground.phase }, { on := 6, ground := Ground.phase }, { on := 7, ground := Ground.phase }, { on := 8, ground := Ground.phase }, { on := 9, ground := Ground.phase }, { on := 10, ground := Ground.phase }, { on := 11, ground := Ground.phase }, { on := 12, ground := Ground.phase }, { on := 13, ground := Ground.phase }, { on := 14, ground := Ground.phase }, { on := 15, ground := Ground.phase }, { on := 16, ground := Ground.phase }, { on := 17, ground := Ground.phase }, { on := 18, ground := Ground.phase }, { on := 19, ground := Ground.phase }], guard := none }) (v := ?_) rfl (by kernel_rfl) (by kernel_rfl) (by kernel_rfl) (fun _ _ _ h => h) (Or.inl ⟨by rfl, ?_⟩) (by exact hHeld) ?_
          rotate_left
          · (intro w hSw; (try dsimp only at hSw); go_simp <;> with_reducible rfl)
          try simp only [Act.put, List.setIfInBounds_toArray, List.set_cons_zero, List.set_cons_succ]
          refine wpAnyH_done (by kernel_rfl) ?_ _
          go_wp2_with fail
          go_ret
          exact ⟨rfl, HBZ.out.trans (hB7.mono HBZ.out.size)⟩
        · go_simp
          refine hK.out _ _ (HC.out _ hB7) (fun hHeld => ?_)
          clear hK K
          try simp only [Act.put, List.setIfInBounds_toArray, List.set_cons_zero, List.set_cons_succ]
          refine wpAnyH_ready (rs := [10]) (by kernel_rfl) (by simp) ?_
          refine AllReadyH.cons (o := { dst := some 39, op := Op.convert 29 9 (Operand.tmp 38), type := 9, pos := _, after := #[{ on := 9, ground := Ground.data }, { on := 7, ground := Ground.guard }], guard := some (7, true) }) rfl (fun K hK => ?_) AllReadyH.nil
          go_simp
          refine hK.out _ _ (HC.out _ hB7) (fun hHeld => ?_)
          clear hK K
          try simp only [Act.put, List.setIfInBounds_toArray, List.set_cons_zero, List.set_cons_succ]
          refine wpAnyH_take (i := 14) (oi := { dst := some 43, op := Op.binOp BinOp.eql 9 (Operand.tmp 39) (Operand.tmp 42) 9, type := 4, pos := _, after := #[{ on := 10, ground := Ground.data }, { on := 13, ground := Ground.data }, { on := 7, ground := Ground.guard }], guard := some (7, true) }) (v := ?_) rfl (by kernel_rfl) (by kernel_rfl) (by kernel_rfl) (fun _ _ _ h => h) (Or.inl ⟨by rfl, ?_⟩) (by exact hHeld) ?_
          rotate_left
          · (intro w hSw; (try dsimp only at hSw); go_simp <;> with_reducible rfl)
          try simp only [Act.put, List.setIfInBounds_toArray, List.set_cons_zero, List.set_cons_succ]
          refine wpAnyH_take (i := 18) (oi := { dst := some 47, op := Op.binOp BinOp.eql 4 (Operand.tmp 43) (Operand.tmp 46) 4, type := 4, pos := _, after := #[{ on := 14, ground := Ground.data }, { on := 17, ground := Ground.data }, { on := 7, ground := Ground.guard }], guard := some (7, true) }) (v := ?_) rfl (by kernel_rfl) (by kernel_rfl) (by kernel_rfl) (fun _ _ _ h => h) (Or.inl ⟨by rfl, ?_⟩) (by exact hHeld) ?_
          rotate_left
          · (intro w hSw; (try dsimp only at hSw); go_simp <;> with_reducible rfl)
          try simp only [Act.put, List.setIfInBounds_toArray, List.set_cons_zero, List.set_cons_succ]
          refine wpAnyH_take (i := 19) (oi := { dst := some 48, op := Op.pick (Operand.tmp 36) (Operand.tmp 47) (Operand.const (Value.bool false)), type := 4, pos := _, after := #[{ on := 7, ground := Ground.data }, { on := 18, ground := Ground.data }], guard := none }) (v := ?_) rfl (by kernel_rfl) (by kernel_rfl) (by kernel_rfl) (fun _ _ _ h => h) (Or.inl ⟨by rfl, ?_⟩) (by exact hHeld) ?_
          rotate_left
          · (intro w hSw; (try dsimp only at hSw); go_simp <;> with_reducible rfl)
          try simp only [Act.put, List.setIfInBounds_toArray, List.set_cons_zero, List.set_cons_succ]
          refine wpAnyH_take (i := 20) (oi := { dst := some 4, op := Op.assign (Operand.tmp 48), type := 4, pos := _, after := #[{ on := 19, ground := Ground.data }, { on := 17, ground := Ground.chain }, { on := 0, ground := Ground.phase }, { on := 1, ground := Ground.phase }, { on := 2, ground := Ground.phase }, { on := 3, ground := Ground.phase }, { on := 4, ground := Ground.phase }, { on := 5, ground := Ground.phase }, { on := 6, ground := Ground.phase }, { on := 7, ground := Ground.phase }, { on := 8, ground := Ground.phase }, { on := 9, ground := Ground.phase }, { on := 10, ground := Ground.phase }, { on := 11, ground := Ground.phase }, { on := 12, ground := Ground.phase }, { on := 13, ground := Ground.phase }, { on := 14, ground := Ground.phase }, { on := 15, ground := Ground.phase }, { on := 16, ground := Ground.phase }, { on := 17, ground := Ground.phase }, { on := 18, ground := Ground.phase }, { on := 19, ground := Ground.phase }], guard := none }) (v := ?_) rfl (by kernel_rfl) (by kernel_rfl) (by kernel_rfl) (fun _ _ _ h => h) (Or.inl ⟨by rfl, ?_⟩) (by exact hHeld) ?_
          rotate_left
          · (intro w hSw; (try dsimp only at hSw); go_simp <;> with_reducible rfl)
          try simp only [Act.put, List.setIfInBounds_toArray, List.set_cons_zero, List.set_cons_succ]
          refine wpAnyH_done (by kernel_rfl) ?_ _
          go_wp2_with fail
          go_ret
          exact ⟨rfl, HBZ.out.trans (hB7.mono HBZ.out.size)⟩
theorem back_said (a b c d : Int) (ao : Option Addr) (n k0 : Nat) (l : List (Re × Value)) (e f g i : Int) (bo : Option Addr) (q k2 : Nat) (m : List (Re × Value)) (w : World) (h : IsRes w ao n l) (hn : n ≤ 140737488355328) (hi : ∀ x ∈ resL l, IntR x)
    (ha : In64 a) (hb : In64 b) (hc : In64 c) (hd : In64 d) (h2 : IsRes w bo q m) (hn2 : q ≤ 140737488355328) (hi2 : ∀ x ∈ resL m, IntR x) (he : In64 e) (hf : In64 f) (hg : In64 g) (hii : In64 i) :
    Calls Try.prog 6 #[aggP a b c d (.slice ao n k0), aggP e f g i (.slice bo q k2)] w fun x w' => x = .returned (.bool true) ∧ Below w.heap.size w w' :=
  back_walk a b c d ao n k0 l e f g i bo q k2 m w h hn hi ha hb hc hd h2 hn2 hi2 he hf hg hii
end Go.Proofs.Ytpikdeikcmdcmaa
