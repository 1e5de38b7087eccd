/-
  Any replies' bytes, whether they are alike, any failure, are as the document says: the walk. No condition.
-/
import Derived.Test.YtpikdeikcmdcmaaBackW
import Derived.Test.YtpikdeikcmdcmaaRPut
namespace Go.Proofs.Ytpikdeikcmdcmaa
open Go.RowKit
/-- the call's own box of a failure: its results lie in memory, and stay -/
theorem rput_on {wz : World} {X : Nat} {a b c d : Int} {ao : Option Addr} {n k : Nat} {l : List (Re × Value)} (h1 : BoxP wz X a b c d ao n k l) (hn : n ≤ 100) (hf : ∀ x ∈ resL l, FitR x) (s : ByteArray) (hs : strB (putR ⟨a, b, c, d, resL l⟩) = s) (W : World) (hb : Below wz.heap.size wz W) :
    Calls Try.prog 16 #[aggP a b c d (.slice ao n k)] W fun e w' => ∃ a2 n2 c2, e = .returned (.slice a2 n2 c2) ∧ (∀ W', Below w'.heap.size w' W' → (convert 29 9 (.slice a2 n2 c2)).run Try.prog W' = .ok (.string s) W') ∧ Below wz.heap.size wz w' ∧ Below W.heap.size W w' := by
  refine (rput_any a b c d ao n k l W (h1.res.below hb) hn hf).mono ?_
  rintro e w' ⟨a2, n2, c2, rfl, hw, h2⟩
  refine ⟨a2, n2, c2, rfl, fun W' hb' => ?_, hb.trans (h2.mono hb.size), h2⟩
  rw [← hs]
  exact conv_any W' a2 n2 c2 _ (hw.is.below hb')
theorem rp_on {wz : World} (a b c d : Int) (ao : Option Addr) (n k : Nat) (W : World) (hb : Below wz.heap.size wz W) :
    Calls Try.prog 17 #[aggP a b c d (.slice ao n k)] W fun e w' => e = .returned (aggP a b c d (.slice ao n k)) ∧ Below wz.heap.size wz w' ∧ Below W.heap.size W w' := by
  refine (rp_any a b c d ao n k W).mono ?_
  rintro e w' ⟨rfl, h2⟩
  exact ⟨rfl, hb.trans (h2.mono hb.size), h2⟩
theorem rsame_on {wz : World} {X Y : Nat} {a b c d e f g i : Int} {ao bo : Option Addr} {n k q k2 : Nat} {l m : List (Re × Value)} (h1 : BoxP wz X a b c d ao n k l) (h2 : BoxP wz Y e f g i bo q k2 m) (hn : n ≤ 1000000) (hq : q ≤ 1000000) (z : Bool) (hz : decide ((⟨a, b, c, d, resL l⟩ : Rp) = ⟨e, f, g, i, resL m⟩) = z) (W : World) (hb : Below wz.heap.size wz W) :
    Calls Try.prog 19 #[aggP a b c d (.slice ao n k), aggP e f g i (.slice bo q k2)] W fun x w' => x = .returned (.bool z) ∧ Below wz.heap.size wz w' := by
  refine (rsame_any a b c d ao n k l e f g i bo q k2 m W (h1.res.below hb) (h2.res.below hb) hn hq).mono ?_
  rintro x w' ⟨rfl, h⟩
  exact ⟨by rw [hz], hb.trans (h.mono hb.size)⟩
theorem all_on2 {wz : World} {X Y : Nat} {a b c d e f g i : Int} {ao bo : Option Addr} {n k q k2 : Nat} {l m : List (Re × Value)} (h1 : BoxP wz X a b c d ao n k l) (h2 : BoxP wz Y e f g i bo q k2 m) (hn : n ≤ 1000000) (hq : q ≤ 1000000) (z : Bool) (hz : decide (resL l = resL m) = z) (W : World) (hb : Below wz.heap.size wz W) :
    (Calls Try.prog 14 #[.slice ao n k, .slice bo q k2] W fun x w' => x = .returned (.bool z) ∧ Below wz.heap.size wz w') ∧ (Calls Try.prog 20 #[.slice ao n k, .slice bo q k2] W fun x w' => x = .returned (.bool z) ∧ Below wz.heap.size wz w') := by
  constructor
  · refine (alikeL_any ao n k l bo q k2 m W (h1.res.below hb) (h2.res.below hb) hn hq).mono ?_
    rintro x w' ⟨rfl, h⟩
    exact ⟨by rw [hz], hb.trans (h.mono hb.size)⟩
  · refine (rall_any ao n k l bo q k2 m W (h1.res.below hb) (h2.res.below hb) hn hq).mono ?_
    rintro x w' ⟨rfl, h⟩
    exact ⟨by rw [hz], hb.trans (h.mono hb.size)⟩
/-- a failure that was made, in memory -/
def FailAt (W : World) (en pl : Int) (m : Nat) (a : Option Addr) (rs : List (Re × Value)) : Prop := IsRes W a m rs ∧ resL rs = failL en pl m
theorem FailAt.later {W U : World} {en pl : Int} {m : Nat} {a : Option Addr} {rs : List (Re × Value)} (h : FailAt W en pl m a rs) (hb : Below W.heap.size W U) : FailAt U en pl m a rs := ⟨h.1.below hb, h.2⟩
theorem failAt_of {W : World} {base : Nat} {en pl : Int} {m : Nat} {a : Option Addr} {c : Nat} {rs : List (Re × Value)} (h : ResOwn W base (.slice a m c) rs) (hr : resL rs = failL en pl m) : FailAt W en pl m a rs := by
  obtain ⟨a2, c2, e, hi⟩ := h.isRes
  have hl : rs.length = m := by have := congrArg List.length hr; rw [failL_len] at this; simpa [resL] using this
  rw [hl] at e hi
  simp only [Value.slice.injEq] at e
  obtain ⟨rfl, -, rfl⟩ := e
  exact ⟨hi, hr⟩
theorem fail_on {wz : World} (num en pl nn : Int) (hn1 : -9223372036854775808 ≤ nn) (hn2 : nn ≤ 9223372036854775807) (W : World) (hb : Below wz.heap.size wz W) :
    Calls Try.prog 13 #[.int .i64 num, .int .i64 en, .int .i64 pl, .int .i64 nn] W fun x w' => ∃ a c rs, x = .returned (aggP num 0 en pl (.slice a (failN nn) c)) ∧ FailAt w' en pl (failN nn) a rs ∧ Below wz.heap.size wz w' := by
  refine (fail_any num en pl nn W hn1 hn2).mono ?_
  rintro x w' ⟨a, c, rs, rfl, h1, h2, h3⟩
  exact ⟨a, c, rs, rfl, failAt_of h1 h2, hb.trans (h3.mono hb.size)⟩
theorem rfail_on {wz : World} (num en pl nn : Int) (hn1 : -9223372036854775808 ≤ nn) (hn2 : nn ≤ 9223372036854775807) (W : World) (hb : Below wz.heap.size wz W) :
    Calls Try.prog 21 #[.int .i64 num, .int .i64 en, .int .i64 pl, .int .i64 nn] W fun x w' => ∃ a c rs, x = .returned (aggP num 0 en pl (.slice a (failN nn) c)) ∧ FailAt w' en pl (failN nn) a rs ∧ Below wz.heap.size wz w' ∧ Below W.heap.size W w' := by
  refine (rfail_any num en pl nn W hn1 hn2).mono ?_
  rintro x w' ⟨a, c, rs, rfl, h1, h2, h3⟩
  exact ⟨a, c, rs, rfl, failAt_of h1 h2, hb.trans (h3.mono hb.size), h3⟩
theorem failN_le (n : Int) : failN n ≤ 16 := by unfold failN; split <;> omega
theorem twin_on {wz : World} {num en pl : Int} {m : Nat} {a a2 : Option Addr} {c c2 : Nat} {rs rs2 : List (Re × Value)} (W : World) (h1 : FailAt W en pl m a rs) (h2 : FailAt W en pl m a2 rs2) (hm : m ≤ 16) (hb : Below wz.heap.size wz W) :
    Calls Try.prog 19 #[aggP num 0 en pl (.slice a m c), aggP num 0 en pl (.slice a2 m c2)] W fun x w' => x = .returned (.bool true) ∧ Below wz.heap.size wz w' := by
  refine (rsame_any num 0 en pl a m c rs num 0 en pl a2 m c2 rs2 W h1.1 h2.1 (by omega) (by omega)).mono ?_
  rintro x w' ⟨rfl, h⟩
  exact ⟨by rw [h1.2, h2.2]; simp, hb.trans (h.mono hb.size)⟩

set_option maxHeartbeats 32000000 in
set_option maxRecDepth 100000 in
theorem says_walk (a b c d : Int) (ao : Option Addr) (n k0 : Nat) (l : List (Re × Value)) (e f g i : Int) (bo : Option Addr) (q k2 : Nat) (m : List (Re × Value)) (en pl nn : Int) (w : World) (h : IsRes w ao n l) (hn : n ≤ 140737488355328)
    (h2 : IsRes w bo q m) (hq : q ≤ 140737488355328) (hnn : In64 nn) :
    Calls Try.prog 4 #[aggP a b c d (.slice ao n k0), aggP e f g i (.slice bo q k2), .int .i64 en, .int .i64 pl, .int .i64 nn] w fun x w' => x = .returned (.bool true) ∧ Below w.heap.size w w' := by
  obtain ⟨hn1, hn2⟩ := hnn
  simp only [aggP]
  go_enter Try.func4, Try.ntmps4
  go_wp2_with fail
  have hb0 : Below w.heap.size w ((w.alloc (.cells #[.int .i64 a, .int .i64 b, .int .i64 c, .int .i64 d, .slice ao n k0] 26)).alloc (.cells #[.int .i64 e, .int .i64 f, .int .i64 g, .int .i64 i, .slice bo q k2] 26)) := below_two _ _ _
  have hx2 : BoxP ((w.alloc (.cells #[.int .i64 a, .int .i64 b, .int .i64 c, .int .i64 d, .slice ao n k0] 26)).alloc (.cells #[.int .i64 e, .int .i64 f, .int .i64 g, .int .i64 i, .slice bo q k2] 26)) w.heap.size a b c d ao n k0 l := ⟨heap_old (heap_new _ _) _, h.below hb0⟩
  have hx3 : BoxP ((w.alloc (.cells #[.int .i64 a, .int .i64 b, .int .i64 c, .int .i64 d, .slice ao n k0] 26)).alloc (.cells #[.int .i64 e, .int .i64 f, .int .i64 g, .int .i64 i, .slice bo q k2] 26)) (w.heap.size + 1) e f g i bo q k2 m := ⟨heap_alloc2_new _ _ _, h2.below hb0⟩
  generalize ((w.alloc (.cells #[.int .i64 a, .int .i64 b, .int .i64 c, .int .i64 d, .slice ao n k0] 26)).alloc (.cells #[.int .i64 e, .int .i64 f, .int .i64 g, .int .i64 i, .slice bo q k2] 26)) = w0 at *
  generalize hX3 : w.heap.size + 1 = X3 at *
  clear hX3 h h2
  refine (awake_any w0).mono ?_
  rintro x w1 ⟨rfl, hb1⟩
  have P2 := Lib.hid (hx2.later hb1); have P3 := Lib.hid (hx3.later hb1)
  have HB1 := Lib.hid (hb0.trans (hb1.mono hb0.size))
  clear hb0 hb1 hx2 hx3
  have y24 := P2.out.c4
  go_wp2_with fail
  refine (heavy_any ao n k0 l w1 P2.out.res hn).mono ?_
  rintro x w2 ⟨hv, rfl, hlight, hb2⟩
  have Q2 := Lib.hid (P2.out.later hb2); have Q3 := Lib.hid (P3.out.later hb2)
  have HB2 := Lib.hid (HB1.out.trans (hb2.mono HB1.out.size))
  clear hb2 y24
  cases hv with
  | true =>
    clear hlight
    go_wp2_with fail
    go_ret
    exact ⟨rfl, HB2.out⟩
  | false =>
  obtain ⟨hn20, hlt⟩ := hlight rfl
  have HLT := Lib.hid hlt
  clear hlight hlt
  have y34 := Q3.out.c4
  go_wp2_with fail
  refine (heavy_any bo q k2 m w2 Q3.out.res hq).mono ?_
  rintro x wz ⟨hv, rfl, hlight, hb3⟩
  have R2 := Q2.out.later hb3; have R3 := Q3.out.later hb3
  have HBZ := Lib.hid (HB2.out.trans (hb3.mono HB2.out.size))
  clear hb3 y34
  cases hv with
  | true =>
    clear hlight
    go_wp2_with fail
    go_ret
    exact ⟨rfl, HBZ.out⟩
  | false =>
    obtain ⟨hq20, hlt⟩ := hlight rfl
    clear hlight hlt
    have HPR0 := put_on R2 (by omega) (fun x hx => (HLT.out x hx).fit) _ rfl
    have HRP0 := rput_on R2 (by omega) (fun x hx => (HLT.out x hx).fit) _ rfl
    generalize strB (putR ⟨a, b, c, d, resL l⟩) = sA at *
    have HPR := Lib.hid HPR0; have HRP := Lib.hid HRP0
    have HSA0 := same_on R2 R3 (by omega) (by omega) _ rfl
    have HRS0 := rsame_on R2 R3 (by omega) (by omega) _ rfl
    have HAL0 := all_on2 R2 R3 (by omega) (by omega) _ rfl
    generalize decide ((⟨a, b, c, d, resL l⟩ : Rp) = ⟨e, f, g, i, resL m⟩) = zz at *
    generalize decide (resL l = resL m) = yy at *
    have HSA := Lib.hid HSA0; have HRS := Lib.hid HRS0; have HAL := Lib.hid HAL0
    have HC := Lib.hid (show ∀ W, Below wz.heap.size wz W → (fun w' => w'.cell? ⟨w.heap.size, 0, none⟩ = some (.int .i64 a) ∧ w'.cell? ⟨w.heap.size, 1, none⟩ = some (.int .i64 b) ∧ w'.cell? ⟨w.heap.size, 2, none⟩ = some (.int .i64 c) ∧ w'.cell? ⟨w.heap.size, 3, none⟩ = some (.int .i64 d) ∧ w'.cell? ⟨w.heap.size, 4, none⟩ = some (.slice ao n k0) ∧ w'.cell? ⟨X3, 0, none⟩ = some (.int .i64 e) ∧ w'.cell? ⟨X3, 1, none⟩ = some (.int .i64 f) ∧ w'.cell? ⟨X3, 2, none⟩ = some (.int .i64 g) ∧ w'.cell? ⟨X3, 3, none⟩ = some (.int .i64 i) ∧ w'.cell? ⟨X3, 4, none⟩ = some (.slice bo q k2)) W from fun W hbW => by
      have k2 := R2.later hbW; have k3 := R3.later hbW
      exact ⟨k2.c0, k2.c1, k2.c2, k2.c3, k2.c4, k3.c0, k3.c1, k3.c2, k3.c3, k3.c4⟩)
    have hzz : (zz == zz) = true := by simp
    have hyy : (yy == yy) = true := by simp
    have hss : (sA.toList == sA.toList) = true := by simp
    clear HPR0 HRP0 HSA0 HRS0 HAL0 R2 R3
    simp only [aggP] at *
    go_wp2_with fail
    refine wp_region_held_drew (S := fun w' => w'.cell? ⟨w.heap.size, 0, none⟩ = some (.int .i64 a) ∧ w'.cell? ⟨w.heap.size, 1, none⟩ = some (.int .i64 b) ∧ w'.cell? ⟨w.heap.size, 2, none⟩ = some (.int .i64 c) ∧ w'.cell? ⟨w.heap.size, 3, none⟩ = some (.int .i64 d) ∧ w'.cell? ⟨w.heap.size, 4, none⟩ = some (.slice ao n k0) ∧ w'.cell? ⟨X3, 0, none⟩ = some (.int .i64 e) ∧ w'.cell? ⟨X3, 1, none⟩ = some (.int .i64 f) ∧ w'.cell? ⟨X3, 2, none⟩ = some (.int .i64 g) ∧ w'.cell? ⟨X3, 3, none⟩ = some (.int .i64 i) ∧ w'.cell? ⟨X3, 4, none⟩ = some (.slice bo q k2)) (by kernel_rfl) (HC.out _ (below_drew (Below.refl wz.heap.size wz) 1)) (fun hHeld => ?_)
    refine wpAnyH_take (i := 0) (oi := { dst := some 21, op := Op.load 26 (Operand.tmp 5), type := 26, pos := _, after := #[], guard := none }) (v := ?_) rfl (by kernel_rfl) (by kernel_rfl) (by kernel_rfl) (fun _ _ _ h => h) (Or.inl ⟨by rfl, ?_⟩) (by exact hHeld) ?_
    rotate_left
    · (intro w hSw; (try dsimp only at hSw); go_simp <;> with_reducible rfl)
    try simp only [Act.put, List.setIfInBounds_toArray, List.set_cons_zero, List.set_cons_succ]
    refine wpAnyH_take (i := 3) (oi := { dst := some 24, op := Op.load 26 (Operand.tmp 5), type := 26, pos := _, after := #[], guard := none }) (v := ?_) rfl (by kernel_rfl) (by kernel_rfl) (by kernel_rfl) (fun _ _ _ h => h) (Or.inl ⟨by rfl, ?_⟩) (by exact hHeld) ?_
    rotate_left
    · (intro w hSw; (try dsimp only at hSw); go_simp <;> with_reducible rfl)
    try simp only [Act.put, List.setIfInBounds_toArray, List.set_cons_zero, List.set_cons_succ]
    refine wpAnyH_ready (rs := [1]) (by kernel_rfl) (by simp) ?_
    refine AllReadyH.cons (o := { dst := some 22, op := Op.call { callee := Callee.value (Operand.func 12), args := #[Operand.tmp 21], argTypes := #[26] }, type := 29, pos := _, after := #[{ on := 0, ground := Ground.data }], guard := none }) rfl (fun K hK => ?_) AllReadyH.nil
    go_simp
    refine (HPR.out _ (below_drew (Below.refl wz.heap.size wz) 1)).mono ?_
    rintro x u1 ⟨a6, n6, c6, rfl, hcv, hB1, _⟩
    have HCV := Lib.hid hcv; have hcvA := hcv u1 (Below.refl _ _); clear hcv
    go_wp2_with fail
    refine hK.out _ _ (HC.out _ (by exact hB1)) (fun hHeld => ?_)
    clear hK K
    try simp only [Act.put, List.setIfInBounds_toArray, List.set_cons_zero, List.set_cons_succ]
    refine wpAnyH_ready (rs := [2, 4]) (by kernel_rfl) (by simp) ?_
    refine AllReadyH.cons (o := { dst := some 23, op := Op.convert 29 9 (Operand.tmp 22), type := 9, pos := _, after := #[{ on := 1, ground := Ground.data }], guard := none }) rfl (fun K hK => ?_) (AllReadyH.cons (o := { dst := some 25, op := Op.call { callee := Callee.value (Operand.func 17), args := #[Operand.tmp 24], argTypes := #[26] }, type := 40, pos := _, after := #[{ on := 3, ground := Ground.data }, { on := 1, ground := Ground.chain }], guard := none }) rfl (fun K hK => ?_) AllReadyH.nil)
    · go_simp
      refine hK.out _ _ (HC.out _ (by exact hB1)) (fun hHeld => ?_)
      clear hK K
      try simp only [Act.put, List.setIfInBounds_toArray, List.set_cons_zero, List.set_cons_succ]
      refine wpAnyH_ready (rs := [4]) (by kernel_rfl) (by simp) ?_
      refine AllReadyH.cons (o := { dst := some 25, op := Op.call { callee := Callee.value (Operand.func 17), args := #[Operand.tmp 24], argTypes := #[26] }, type := 40, pos := _, after := #[{ on := 3, ground := Ground.data }, { on := 1, ground := Ground.chain }], guard := none }) rfl (fun K hK => ?_) AllReadyH.nil
      go_simp
      refine (rp_on (wz := wz) a b c d ao n k0 _ hB1).mono ?_
      rintro x u2 ⟨rfl, hB2, hb2⟩
      have HB12 := Lib.hid hb2; have hcvA2 := HCV.out u2 hb2; clear hb2
      go_wp2_with fail
      refine hK.out _ _ (HC.out _ (by exact hB2)) (fun hHeld => ?_)
      clear hK K
      try simp only [Act.put, List.setIfInBounds_toArray, List.set_cons_zero, List.set_cons_succ]
      refine wpAnyH_ready (rs := [5]) (by kernel_rfl) (by simp) ?_
      refine AllReadyH.cons (o := { dst := some 26, op := Op.call { callee := Callee.value (Operand.func 16), args := #[Operand.tmp 25], argTypes := #[40] }, type := 29, pos := _, after := #[{ on := 4, ground := Ground.data }, { on := 4, ground := Ground.chain }], guard := none }) rfl (fun K hK => ?_) AllReadyH.nil
      go_simp
      refine (HRP.out _ hB2).mono ?_
      rintro x u3 ⟨a5, n5, c5, rfl, hcw, hB3, hb3⟩
      have hcvA3 := HCV.out u3 (HB12.out.trans (hb3.mono HB12.out.size)); have hcvB3 := hcw u3 (Below.refl _ _); clear hcw hb3
      go_wp2_with fail
      refine hK.out _ _ (HC.out _ (by exact hB3)) (fun hHeld => ?_)
      clear hK K
      try simp only [Act.put, List.setIfInBounds_toArray, List.set_cons_zero, List.set_cons_succ]
      refine wpAnyH_ready (rs := [6]) (by kernel_rfl) (by simp) ?_
      refine AllReadyH.cons (o := { dst := some 27, op := Op.convert 29 9 (Operand.tmp 26), type := 9, pos := _, after := #[{ on := 5, ground := Ground.data }], guard := none }) rfl (fun K hK => ?_) AllReadyH.nil
      go_simp
      refine hK.out _ _ (HC.out _ (by exact hB3)) (fun hHeld => ?_)
      clear hK K
      try simp only [Act.put, List.setIfInBounds_toArray, List.set_cons_zero, List.set_cons_succ]
      refine wpAnyH_take (i := 7) (oi := { dst := some 28, op := Op.binOp BinOp.eql 9 (Operand.tmp 23) (Operand.tmp 27) 9, type := 4, pos := _, after := #[{ on := 2, ground := Ground.data }, { on := 6, ground := Ground.data }], guard := none }) (v := ?_) rfl (by kernel_rfl) (by kernel_rfl) (by kernel_rfl) (fun _ _ _ h => h) (Or.inl ⟨by rfl, ?_⟩) (by exact hHeld) ?_
      rotate_left
      · (intro w hSw; (try dsimp only at hSw); go_simp <;> with_reducible rfl)
      try simp only [Act.put, List.setIfInBounds_toArray, List.set_cons_zero, List.set_cons_succ]
      refine wpAnyH_take (i := 8) (oi := { dst := some 29, op := Op.move (Operand.tmp 28), type := 4, pos := _, after := #[{ on := 7, ground := Ground.data }, { on := 5, ground := Ground.chain }], guard := none }) (v := ?_) rfl (by kernel_rfl) (by kernel_rfl) (by kernel_rfl) (fun _ _ _ h => h) (Or.inl ⟨by rfl, ?_⟩) (by exact hHeld) ?_
      rotate_left
      · (intro w hSw; (try dsimp only at hSw); go_simp <;> with_reducible rfl)
      try simp only [Act.put, List.setIfInBounds_toArray, List.set_cons_zero, List.set_cons_succ]
      refine wpAnyH_take (i := 9) (oi := { dst := some 30, op := Op.load 26 (Operand.tmp 5), type := 26, pos := _, after := #[{ on := 8, ground := Ground.guard }], guard := some (8, true) }) (v := ?_) rfl (by kernel_rfl) (by kernel_rfl) (by kernel_rfl) (fun _ _ _ h => h) (Or.inl ⟨by rfl, ?_⟩) (by exact hHeld) ?_
      rotate_left
      · (intro w hSw; (try dsimp only at hSw); go_simp <;> with_reducible rfl)
      try simp only [Act.put, List.setIfInBounds_toArray, List.set_cons_zero, List.set_cons_succ]
      refine wpAnyH_take (i := 10) (oi := { dst := some 31, op := Op.load 26 (Operand.tmp 6), type := 26, pos := _, after := #[{ on := 8, ground := Ground.guard }], guard := some (8, true) }) (v := ?_) rfl (by kernel_rfl) (by kernel_rfl) (by kernel_rfl) (fun _ _ _ h => h) (Or.inl ⟨by rfl, ?_⟩) (by exact hHeld) ?_
      rotate_left
      · (intro w hSw; (try dsimp only at hSw); go_simp <;> with_reducible rfl)
      try simp only [Act.put, List.setIfInBounds_toArray, List.set_cons_zero, List.set_cons_succ]
      refine wpAnyH_take (i := 12) (oi := { dst := some 33, op := Op.load 26 (Operand.tmp 5), type := 26, pos := _, after := #[{ on := 8, ground := Ground.guard }], guard := some (8, true) }) (v := ?_) rfl (by kernel_rfl) (by kernel_rfl) (by kernel_rfl) (fun _ _ _ h => h) (Or.inl ⟨by rfl, ?_⟩) (by exact hHeld) ?_
      rotate_left
      · (intro w hSw; (try dsimp only at hSw); go_simp <;> with_reducible rfl)
      try simp only [Act.put, List.setIfInBounds_toArray, List.set_cons_zero, List.set_cons_succ]
      refine wpAnyH_take (i := 14) (oi := { dst := some 35, op := Op.load 26 (Operand.tmp 6), type := 26, pos := _, after := #[{ on := 8, ground := Ground.guard }], guard := some (8, true) }) (v := ?_) rfl (by kernel_rfl) (by kernel_rfl) (by kernel_rfl) (fun _ _ _ h => h) (Or.inl ⟨by rfl, ?_⟩) (by exact hHeld) ?_
      rotate_left
      · (intro w hSw; (try dsimp only at hSw); go_simp <;> with_reducible rfl)
      try simp only [Act.put, List.setIfInBounds_toArray, List.set_cons_zero, List.set_cons_succ]
      refine wpAnyH_ready (rs := [11]) (by kernel_rfl) (by simp) ?_
      refine AllReadyH.cons (o := { dst := some 32, op := Op.call { callee := Callee.value (Operand.func 18), args := #[Operand.tmp 30, Operand.tmp 31], argTypes := #[26, 26] }, type := 4, pos := _, after := #[{ on := 9, ground := Ground.data }, { on := 10, ground := Ground.data }, { on := 8, ground := Ground.chain }, { on := 8, ground := Ground.guard }], guard := some (8, true) }) rfl (fun K hK => ?_) AllReadyH.nil
      go_simp
      refine (HSA.out _ hB3).mono ?_
      rintro x u4 ⟨rfl, hB4⟩
      go_wp2_with fail
      refine hK.out _ _ (HC.out _ (by exact hB4)) (fun hHeld => ?_)
      clear hK K
      try simp only [Act.put, List.setIfInBounds_toArray, List.set_cons_zero, List.set_cons_succ]
      refine wpAnyH_ready (rs := [13]) (by kernel_rfl) (by simp) ?_
      refine AllReadyH.cons (o := { dst := some 34, op := Op.call { callee := Callee.value (Operand.func 17), args := #[Operand.tmp 33], argTypes := #[26] }, type := 40, pos := _, after := #[{ on := 12, ground := Ground.data }, { on := 11, ground := Ground.chain }, { on := 8, ground := Ground.guard }], guard := some (8, true) }) rfl (fun K hK => ?_) AllReadyH.nil
      go_simp
      refine (rp_on (wz := wz) a b c d ao n k0 _ hB4).mono ?_
      rintro x u5 ⟨rfl, hB5, _⟩
      go_wp2_with fail
      refine hK.out _ _ (HC.out _ (by exact hB5)) (fun hHeld => ?_)
      clear hK K
      try simp only [Act.put, List.setIfInBounds_toArray, List.set_cons_zero, List.set_cons_succ]
      refine wpAnyH_ready (rs := [15]) (by kernel_rfl) (by simp) ?_
      refine AllReadyH.cons (o := { dst := some 36, op := Op.call { callee := Callee.value (Operand.func 17), args := #[Operand.tmp 35], argTypes := #[26] }, type := 40, pos := _, after := #[{ on := 14, ground := Ground.data }, { on := 13, ground := Ground.chain }, { on := 8, ground := Ground.guard }], guard := some (8, true) }) rfl (fun K hK => ?_) AllReadyH.nil
      go_simp
      refine (rp_on (wz := wz) e f g i bo q k2 _ hB5).mono ?_
      rintro x u6 ⟨rfl, hB6, _⟩
      go_wp2_with fail
      refine hK.out _ _ (HC.out _ (by exact hB6)) (fun hHeld => ?_)
      clear hK K
      try simp only [Act.put, List.setIfInBounds_toArray, List.set_cons_zero, List.set_cons_succ]
      refine wpAnyH_ready (rs := [16]) (by kernel_rfl) (by simp) ?_
      refine AllReadyH.cons (o := { dst := some 37, op := Op.call { callee := Callee.value (Operand.func 19), args := #[Operand.tmp 34, Operand.tmp 36], argTypes := #[40, 40] }, type := 4, pos := _, after := #[{ on := 13, ground := Ground.data }, { on := 15, ground := Ground.data }, { on := 15, ground := Ground.chain }, { on := 8, ground := Ground.guard }], guard := some (8, true) }) rfl (fun K hK => ?_) AllReadyH.nil
      go_simp
      refine (HRS.out _ hB6).mono ?_
      rintro x u7 ⟨rfl, hB7⟩
      go_wp2_with fail
      refine hK.out _ _ (HC.out _ (by exact hB7)) (fun hHeld => ?_)
      clear hK K
      try simp only [Act.put, List.setIfInBounds_toArray, List.set_cons_zero, List.set_cons_succ]
      refine wpAnyH_take (i := 17) (oi := { dst := some 38, op := Op.binOp BinOp.eql 4 (Operand.tmp 32) (Operand.tmp 37) 4, type := 4, pos := _, after := #[{ on := 11, ground := Ground.data }, { on := 16, ground := Ground.data }, { on := 8, ground := Ground.guard }], guard := some (8, true) }) (v := ?_) rfl (by kernel_rfl) (by kernel_rfl) (by kernel_rfl) (fun _ _ _ h => h) (Or.inl ⟨by rfl, ?_⟩) (by exact hHeld) ?_
      rotate_left
      · (intro w hSw; (try dsimp only at hSw); go_simp <;> with_reducible rfl)
      try simp only [Act.put, List.setIfInBounds_toArray, List.set_cons_zero, List.set_cons_succ]
      refine wpAnyH_take (i := 18) (oi := { dst := some 39, op := Op.pick (Operand.tmp 29) (Operand.tmp 38) (Operand.const (Value.bool false)), type := 4, pos := _, after := #[{ on := 8, ground := Ground.data }, { on := 17, ground := Ground.data }], guard := none }) (v := ?_) rfl (by kernel_rfl) (by kernel_rfl) (by kernel_rfl) (fun _ _ _ h => h) (Or.inl ⟨by rfl, ?_⟩) (by exact hHeld) ?_
      rotate_left
      · (intro w hSw; (try dsimp only at hSw); go_simp <;> with_reducible rfl)
      try simp only [Act.put, List.setIfInBounds_toArray, List.set_cons_zero, List.set_cons_succ]
      refine wpAnyH_take (i := 19) (oi := { dst := some 40, op := Op.move (Operand.tmp 39), type := 4, pos := _, after := #[{ on := 18, ground := Ground.data }, { on := 16, ground := Ground.chain }], guard := none }) (v := ?_) rfl (by kernel_rfl) (by kernel_rfl) (by kernel_rfl) (fun _ _ _ h => h) (Or.inl ⟨by rfl, ?_⟩) (by exact hHeld) ?_
      rotate_left
      · (intro w hSw; (try dsimp only at hSw); go_simp <;> with_reducible rfl)
      try simp only [Act.put, List.setIfInBounds_toArray, List.set_cons_zero, List.set_cons_succ]
      refine wpAnyH_take (i := 20) (oi := { dst := some 41, op := Op.fieldAddr 26 (Operand.tmp 5) 4, type := 0, pos := _, after := #[{ on := 19, ground := Ground.guard }], guard := some (19, true) }) (v := ?_) rfl (by kernel_rfl) (by kernel_rfl) (by kernel_rfl) (fun _ _ _ h => h) (Or.inl ⟨by rfl, ?_⟩) (by exact hHeld) ?_
      rotate_left
      · (intro w hSw; (try dsimp only at hSw); go_simp <;> with_reducible rfl)
      try simp only [Act.put, List.setIfInBounds_toArray, List.set_cons_zero, List.set_cons_succ]
      refine wpAnyH_take (i := 21) (oi := { dst := some 42, op := Op.load 24 (Operand.tmp 41), type := 24, pos := _, after := #[{ on := 20, ground := Ground.data }, { on := 19, ground := Ground.guard }], guard := some (19, true) }) (v := ?_) rfl (by kernel_rfl) (by kernel_rfl) (by kernel_rfl) (fun _ _ _ h => h) (Or.inl ⟨by rfl, ?_⟩) (by exact hHeld) ?_
      rotate_left
      · (intro w hSw; (try dsimp only at hSw); go_simp <;> with_reducible rfl)
      try simp only [Act.put, List.setIfInBounds_toArray, List.set_cons_zero, List.set_cons_succ]
      refine wpAnyH_take (i := 22) (oi := { dst := some 43, op := Op.fieldAddr 26 (Operand.tmp 6) 4, type := 0, pos := _, after := #[{ on := 19, ground := Ground.guard }], guard := some (19, true) }) (v := ?_) rfl (by kernel_rfl) (by kernel_rfl) (by kernel_rfl) (fun _ _ _ h => h) (Or.inl ⟨by rfl, ?_⟩) (by exact hHeld) ?_
      rotate_left
      · (intro w hSw; (try dsimp only at hSw); go_simp <;> with_reducible rfl)
      try simp only [Act.put, List.setIfInBounds_toArray, List.set_cons_zero, List.set_cons_succ]
      refine wpAnyH_take (i := 23) (oi := { dst := some 44, op := Op.load 24 (Operand.tmp 43), type := 24, pos := _, after := #[{ on := 22, ground := Ground.data }, { on := 19, ground := Ground.guard }], guard := some (19, true) }) (v := ?_) rfl (by kernel_rfl) (by kernel_rfl) (by kernel_rfl) (fun _ _ _ h => h) (Or.inl ⟨by rfl, ?_⟩) (by exact hHeld) ?_
      rotate_left
      · (intro w hSw; (try dsimp only at hSw); go_simp <;> with_reducible rfl)
      try simp only [Act.put, List.setIfInBounds_toArray, List.set_cons_zero, List.set_cons_succ]
      refine wpAnyH_take (i := 25) (oi := { dst := some 46, op := Op.fieldAddr 26 (Operand.tmp 5) 4, type := 0, pos := _, after := #[{ on := 19, ground := Ground.guard }], guard := some (19, true) }) (v := ?_) rfl (by kernel_rfl) (by kernel_rfl) (by kernel_rfl) (fun _ _ _ h => h) (Or.inl ⟨by rfl, ?_⟩) (by exact hHeld) ?_
      rotate_left
      · (intro w hSw; (try dsimp only at hSw); go_simp <;> with_reducible rfl)
      try simp only [Act.put, List.setIfInBounds_toArray, List.set_cons_zero, List.set_cons_succ]
      refine wpAnyH_take (i := 26) (oi := { dst := some 47, op := Op.load 24 (Operand.tmp 46), type := 24, pos := _, after := #[{ on := 25, ground := Ground.data }, { on := 19, ground := Ground.guard }], guard := some (19, true) }) (v := ?_) rfl (by kernel_rfl) (by kernel_rfl) (by kernel_rfl) (fun _ _ _ h => h) (Or.inl ⟨by rfl, ?_⟩) (by exact hHeld) ?_
      rotate_left
      · (intro w hSw; (try dsimp only at hSw); go_simp <;> with_reducible rfl)
      try simp only [Act.put, List.setIfInBounds_toArray, List.set_cons_zero, List.set_cons_succ]
      refine wpAnyH_take (i := 27) (oi := { dst := some 48, op := Op.fieldAddr 26 (Operand.tmp 6) 4, type := 0, pos := _, after := #[{ on := 19, ground := Ground.guard }], guard := some (19, true) }) (v := ?_) rfl (by kernel_rfl) (by kernel_rfl) (by kernel_rfl) (fun _ _ _ h => h) (Or.inl ⟨by rfl, ?_⟩) (by exact hHeld) ?_
      rotate_left
      · (intro w hSw; (try dsimp only at hSw); go_simp <;> with_reducible rfl)
      try simp only [Act.put, List.setIfInBounds_toArray, List.set_cons_zero, List.set_cons_succ]
      refine wpAnyH_take (i := 28) (oi := { dst := some 49, op := Op.load 24 (Operand.tmp 48), type := 24, pos := _, after := #[{ on := 27, ground := Ground.data }, { on := 19, ground := Ground.guard }], guard := some (19, true) }) (v := ?_) rfl (by kernel_rfl) (by kernel_rfl) (by kernel_rfl) (fun _ _ _ h => h) (Or.inl ⟨by rfl, ?_⟩) (by exact hHeld) ?_
      rotate_left
      · (intro w hSw; (try dsimp only at hSw); go_simp <;> with_reducible rfl)
      try simp only [Act.put, List.setIfInBounds_toArray, List.set_cons_zero, List.set_cons_succ]
      refine wpAnyH_ready (rs := [24]) (by kernel_rfl) (by simp) ?_
      refine AllReadyH.cons (o := { dst := some 45, op := Op.call { callee := Callee.value (Operand.func 14), args := #[Operand.tmp 42, Operand.tmp 44], argTypes := #[24, 24] }, type := 4, pos := _, after := #[{ on := 21, ground := Ground.data }, { on := 23, ground := Ground.data }, { on := 19, ground := Ground.chain }, { on := 19, ground := Ground.guard }], guard := some (19, true) }) rfl (fun K hK => ?_) AllReadyH.nil
      go_simp
      refine (HAL.out _ hB7).1.mono ?_
      rintro x u8 ⟨rfl, hB8⟩
      go_wp2_with fail
      refine hK.out _ _ (HC.out _ (by exact hB8)) (fun hHeld => ?_)
      clear hK K
      try simp only [Act.put, List.setIfInBounds_toArray, List.set_cons_zero, List.set_cons_succ]
      refine wpAnyH_ready (rs := [29]) (by kernel_rfl) (by simp) ?_
      refine AllReadyH.cons (o := { dst := some 50, op := Op.call { callee := Callee.value (Operand.func 20), args := #[Operand.tmp 47, Operand.tmp 49], argTypes := #[24, 24] }, type := 4, pos := _, after := #[{ on := 26, ground := Ground.data }, { on := 28, ground := Ground.data }, { on := 24, ground := Ground.chain }, { on := 19, ground := Ground.guard }], guard := some (19, true) }) rfl (fun K hK => ?_) AllReadyH.nil
      go_simp
      refine (HAL.out _ hB8).2.mono ?_
      rintro x u9 ⟨rfl, hB9⟩
      go_wp2_with fail
      refine hK.out _ _ (HC.out _ (by exact hB9)) (fun hHeld => ?_)
      clear hK K
      try simp only [Act.put, List.setIfInBounds_toArray, List.set_cons_zero, List.set_cons_succ]
      refine wpAnyH_take (i := 30) (oi := { dst := some 51, op := Op.binOp BinOp.eql 4 (Operand.tmp 45) (Operand.tmp 50) 4, type := 4, pos := _, after := #[{ on := 24, ground := Ground.data }, { on := 29, ground := Ground.data }, { on := 19, ground := Ground.guard }], guard := some (19, true) }) (v := ?_) rfl (by kernel_rfl) (by kernel_rfl) (by kernel_rfl) (fun _ _ _ h => h) (Or.inl ⟨by rfl, ?_⟩) (by exact hHeld) ?_
      rotate_left
      · (intro w hSw; (try dsimp only at hSw); go_simp <;> with_reducible rfl)
      try simp only [Act.put, List.setIfInBounds_toArray, List.set_cons_zero, List.set_cons_succ]
      refine wpAnyH_take (i := 31) (oi := { dst := some 52, op := Op.pick (Operand.tmp 40) (Operand.tmp 51) (Operand.const (Value.bool false)), type := 4, pos := _, after := #[{ on := 19, ground := Ground.data }, { on := 30, ground := Ground.data }], guard := none }) (v := ?_) rfl (by kernel_rfl) (by kernel_rfl) (by kernel_rfl) (fun _ _ _ h => h) (Or.inl ⟨by rfl, ?_⟩) (by exact hHeld) ?_
      rotate_left
      · (intro w hSw; (try dsimp only at hSw); go_simp <;> with_reducible rfl)
      try simp only [Act.put, List.setIfInBounds_toArray, List.set_cons_zero, List.set_cons_succ]
      refine wpAnyH_take (i := 32) (oi := { dst := some 53, op := Op.move (Operand.tmp 52), type := 4, pos := _, after := #[{ on := 31, ground := Ground.data }, { on := 29, ground := Ground.chain }], guard := none }) (v := ?_) rfl (by kernel_rfl) (by kernel_rfl) (by kernel_rfl) (fun _ _ _ h => h) (Or.inl ⟨by rfl, ?_⟩) (by exact hHeld) ?_
      rotate_left
      · (intro w hSw; (try dsimp only at hSw); go_simp <;> with_reducible rfl)
      try simp only [Act.put, List.setIfInBounds_toArray, List.set_cons_zero, List.set_cons_succ]
      refine wpAnyH_take (i := 33) (oi := { dst := some 54, op := Op.fieldAddr 26 (Operand.tmp 5) 0, type := 0, pos := _, after := #[{ on := 32, ground := Ground.guard }], guard := some (32, true) }) (v := ?_) rfl (by kernel_rfl) (by kernel_rfl) (by kernel_rfl) (fun _ _ _ h => h) (Or.inl ⟨by rfl, ?_⟩) (by exact hHeld) ?_
      rotate_left
      · (intro w hSw; (try dsimp only at hSw); go_simp <;> with_reducible rfl)
      try simp only [Act.put, List.setIfInBounds_toArray, List.set_cons_zero, List.set_cons_succ]
      refine wpAnyH_take (i := 34) (oi := { dst := some 55, op := Op.load 2 (Operand.tmp 54), type := 2, pos := _, after := #[{ on := 33, ground := Ground.data }, { on := 32, ground := Ground.guard }], guard := some (32, true) }) (v := ?_) rfl (by kernel_rfl) (by kernel_rfl) (by kernel_rfl) (fun _ _ _ h => h) (Or.inl ⟨by rfl, ?_⟩) (by exact hHeld) ?_
      rotate_left
      · (intro w hSw; (try dsimp only at hSw); go_simp <;> with_reducible rfl)
      try simp only [Act.put, List.setIfInBounds_toArray, List.set_cons_zero, List.set_cons_succ]
      refine wpAnyH_take (i := 35) (oi := { dst := some 56, op := Op.move (Operand.tmp 2), type := 23, pos := _, after := #[{ on := 32, ground := Ground.guard }], guard := some (32, true) }) (v := ?_) rfl (by kernel_rfl) (by kernel_rfl) (by kernel_rfl) (fun _ _ _ h => h) (Or.inl ⟨by rfl, ?_⟩) (by exact hHeld) ?_
      rotate_left
      · (intro w hSw; (try dsimp only at hSw); go_simp <;> with_reducible rfl)
      try simp only [Act.put, List.setIfInBounds_toArray, List.set_cons_zero, List.set_cons_succ]
      refine wpAnyH_take (i := 36) (oi := { dst := some 57, op := Op.move (Operand.tmp 3), type := 3, pos := _, after := #[{ on := 32, ground := Ground.guard }], guard := some (32, true) }) (v := ?_) rfl (by kernel_rfl) (by kernel_rfl) (by kernel_rfl) (fun _ _ _ h => h) (Or.inl ⟨by rfl, ?_⟩) (by exact hHeld) ?_
      rotate_left
      · (intro w hSw; (try dsimp only at hSw); go_simp <;> with_reducible rfl)
      try simp only [Act.put, List.setIfInBounds_toArray, List.set_cons_zero, List.set_cons_succ]
      refine wpAnyH_take (i := 37) (oi := { dst := some 58, op := Op.move (Operand.tmp 4), type := 3, pos := _, after := #[{ on := 32, ground := Ground.guard }], guard := some (32, true) }) (v := ?_) rfl (by kernel_rfl) (by kernel_rfl) (by kernel_rfl) (fun _ _ _ h => h) (Or.inl ⟨by rfl, ?_⟩) (by exact hHeld) ?_
      rotate_left
      · (intro w hSw; (try dsimp only at hSw); go_simp <;> with_reducible rfl)
      try simp only [Act.put, List.setIfInBounds_toArray, List.set_cons_zero, List.set_cons_succ]
      refine wpAnyH_take (i := 40) (oi := { dst := some 61, op := Op.fieldAddr 26 (Operand.tmp 5) 0, type := 0, pos := _, after := #[{ on := 32, ground := Ground.guard }], guard := some (32, true) }) (v := ?_) rfl (by kernel_rfl) (by kernel_rfl) (by kernel_rfl) (fun _ _ _ h => h) (Or.inl ⟨by rfl, ?_⟩) (by exact hHeld) ?_
      rotate_left
      · (intro w hSw; (try dsimp only at hSw); go_simp <;> with_reducible rfl)
      try simp only [Act.put, List.setIfInBounds_toArray, List.set_cons_zero, List.set_cons_succ]
      refine wpAnyH_take (i := 41) (oi := { dst := some 62, op := Op.load 2 (Operand.tmp 61), type := 2, pos := _, after := #[{ on := 40, ground := Ground.data }, { on := 32, ground := Ground.guard }], guard := some (32, true) }) (v := ?_) rfl (by kernel_rfl) (by kernel_rfl) (by kernel_rfl) (fun _ _ _ h => h) (Or.inl ⟨by rfl, ?_⟩) (by exact hHeld) ?_
      rotate_left
      · (intro w hSw; (try dsimp only at hSw); go_simp <;> with_reducible rfl)
      try simp only [Act.put, List.setIfInBounds_toArray, List.set_cons_zero, List.set_cons_succ]
      refine wpAnyH_take (i := 42) (oi := { dst := some 63, op := Op.move (Operand.tmp 2), type := 23, pos := _, after := #[{ on := 32, ground := Ground.guard }], guard := some (32, true) }) (v := ?_) rfl (by kernel_rfl) (by kernel_rfl) (by kernel_rfl) (fun _ _ _ h => h) (Or.inl ⟨by rfl, ?_⟩) (by exact hHeld) ?_
      rotate_left
      · (intro w hSw; (try dsimp only at hSw); go_simp <;> with_reducible rfl)
      try simp only [Act.put, List.setIfInBounds_toArray, List.set_cons_zero, List.set_cons_succ]
      refine wpAnyH_take (i := 43) (oi := { dst := some 64, op := Op.move (Operand.tmp 3), type := 3, pos := _, after := #[{ on := 32, ground := Ground.guard }], guard := some (32, true) }) (v := ?_) rfl (by kernel_rfl) (by kernel_rfl) (by kernel_rfl) (fun _ _ _ h => h) (Or.inl ⟨by rfl, ?_⟩) (by exact hHeld) ?_
      rotate_left
      · (intro w hSw; (try dsimp only at hSw); go_simp <;> with_reducible rfl)
      try simp only [Act.put, List.setIfInBounds_toArray, List.set_cons_zero, List.set_cons_succ]
      refine wpAnyH_take (i := 44) (oi := { dst := some 65, op := Op.move (Operand.tmp 4), type := 3, pos := _, after := #[{ on := 32, ground := Ground.guard }], guard := some (32, true) }) (v := ?_) rfl (by kernel_rfl) (by kernel_rfl) (by kernel_rfl) (fun _ _ _ h => h) (Or.inl ⟨by rfl, ?_⟩) (by exact hHeld) ?_
      rotate_left
      · (intro w hSw; (try dsimp only at hSw); go_simp <;> with_reducible rfl)
      try simp only [Act.put, List.setIfInBounds_toArray, List.set_cons_zero, List.set_cons_succ]
      refine wpAnyH_ready (rs := [38]) (by kernel_rfl) (by simp) ?_
      refine AllReadyH.cons (o := { dst := some 59, op := Op.call { callee := Callee.value (Operand.func 13), args := #[Operand.tmp 55, Operand.tmp 56, Operand.tmp 57, Operand.tmp 58], argTypes := #[2, 23, 3, 3] }, type := 26, pos := _, after := #[{ on := 34, ground := Ground.data }, { on := 35, ground := Ground.data }, { on := 36, ground := Ground.data }, { on := 37, ground := Ground.data }, { on := 32, ground := Ground.chain }, { on := 32, ground := Ground.guard }], guard := some (32, true) }) rfl (fun K hK => ?_) AllReadyH.nil
      go_simp
      refine (fail_on (wz := wz) a en pl nn hn1 hn2 _ hB9).mono ?_
      rintro x u10 ⟨a7, c7, rs7, rfl, hf7, hB10⟩
      have HF7 := Lib.hid hf7; clear hf7
      go_wp2_with fail
      refine hK.out _ _ (HC.out _ (by exact hB10)) (fun hHeld => ?_)
      clear hK K
      try simp only [Act.put, List.setIfInBounds_toArray, List.set_cons_zero, List.set_cons_succ]
      refine wpAnyH_ready (rs := [39]) (by kernel_rfl) (by simp) ?_
      refine AllReadyH.cons (o := { dst := some 60, op := Op.call { callee := Callee.value (Operand.func 17), args := #[Operand.tmp 59], argTypes := #[26] }, type := 40, pos := _, after := #[{ on := 38, ground := Ground.data }, { on := 38, ground := Ground.chain }, { on := 32, ground := Ground.guard }], guard := some (32, true) }) rfl (fun K hK => ?_) AllReadyH.nil
      go_simp
      refine (rp_on (wz := wz) a 0 en pl a7 (failN nn) c7 _ hB10).mono ?_
      rintro x u11 ⟨rfl, hB11, hb11⟩
      have HF8 := Lib.hid (HF7.out.later hb11); clear hb11
      go_wp2_with fail
      refine hK.out _ _ (HC.out _ (by exact hB11)) (fun hHeld => ?_)
      clear hK K
      try simp only [Act.put, List.setIfInBounds_toArray, List.set_cons_zero, List.set_cons_succ]
      refine wpAnyH_ready (rs := [45]) (by kernel_rfl) (by simp) ?_
      refine AllReadyH.cons (o := { dst := some 66, op := Op.call { callee := Callee.value (Operand.func 21), args := #[Operand.tmp 62, Operand.tmp 63, Operand.tmp 64, Operand.tmp 65], argTypes := #[2, 23, 3, 3] }, type := 40, pos := _, after := #[{ on := 41, ground := Ground.data }, { on := 42, ground := Ground.data }, { on := 43, ground := Ground.data }, { on := 44, ground := Ground.data }, { on := 39, ground := Ground.chain }, { on := 32, ground := Ground.guard }], guard := some (32, true) }) rfl (fun K hK => ?_) AllReadyH.nil
      go_simp
      refine (rfail_on (wz := wz) a en pl nn hn1 hn2 _ hB11).mono ?_
      rintro x u12 ⟨a8, c8, rs8, rfl, hf9, hB12, hb12⟩
      have HF9 := Lib.hid hf9; have HF10 := Lib.hid (HF8.out.later hb12); clear hb12 hf9
      go_wp2_with fail
      refine hK.out _ _ (HC.out _ (by exact hB12)) (fun hHeld => ?_)
      clear hK K
      try simp only [Act.put, List.setIfInBounds_toArray, List.set_cons_zero, List.set_cons_succ]
      refine wpAnyH_ready (rs := [46]) (by kernel_rfl) (by simp) ?_
      refine AllReadyH.cons (o := { dst := some 67, op := Op.call { callee := Callee.value (Operand.func 19), args := #[Operand.tmp 60, Operand.tmp 66], argTypes := #[40, 40] }, type := 4, pos := _, after := #[{ on := 39, ground := Ground.data }, { on := 45, ground := Ground.data }, { on := 45, ground := Ground.chain }, { on := 32, ground := Ground.guard }], guard := some (32, true) }) rfl (fun K hK => ?_) AllReadyH.nil
      go_simp
      refine (twin_on (wz := wz) _ HF10.out HF9.out (failN_le nn) hB12).mono ?_
      rintro x u13 ⟨rfl, hB13⟩
      go_wp2_with fail
      refine hK.out _ _ (HC.out _ (by exact hB13)) (fun hHeld => ?_)
      clear hK K
      try simp only [Act.put, List.setIfInBounds_toArray, List.set_cons_zero, List.set_cons_succ]
      refine wpAnyH_take (i := 47) (oi := { dst := some 68, op := Op.pick (Operand.tmp 53) (Operand.tmp 67) (Operand.const (Value.bool false)), type := 4, pos := _, after := #[{ on := 32, ground := Ground.data }, { on := 46, ground := Ground.data }], guard := none }) (v := ?_) rfl (by kernel_rfl) (by kernel_rfl) (by kernel_rfl) (fun _ _ _ h => h) (Or.inl ⟨by rfl, ?_⟩) (by exact hHeld) ?_
      rotate_left
      · (intro w hSw; (try dsimp only at hSw); go_simp <;> with_reducible rfl)
      try simp only [Act.put, List.setIfInBounds_toArray, List.set_cons_zero, List.set_cons_succ]
      refine wpAnyH_take (i := 48) (oi := { dst := some 10, op := Op.assign (Operand.tmp 68), type := 4, pos := _, after := #[{ on := 47, ground := Ground.data }, { on := 46, ground := Ground.chain }, { on := 0, ground := Ground.phase }, { on := 1, ground := Ground.phase }, { on := 2, ground := Ground.phase }, { on := 3, ground := Ground.phase }, { on := 4, ground := Ground.phase }, { on := 5, ground := Ground.phase }, { on := 6, ground := Ground.phase }, { on := 7, ground := Ground.phase }, { on := 8, ground := Ground.phase }, { on := 9, ground := Ground.phase }, { on := 10, ground := Ground.phase }, { on := 11, ground := Ground.phase }, { on := 12, ground := Ground.phase }, { on := 13, ground := Ground.phase }, { on := 14, ground := Ground.phase }, { on := 15, ground := Ground.phase }, { on := 16, ground := Ground.phase }, { on := 17, ground := Ground.phase }, { on := 18, ground := Ground.phase }, { on := 19, ground := Ground.phase }, { on := 20, ground := Ground.phase }, { on := 21, ground := Ground.phase }, { on := 22, ground := Ground.phase }, { on := 23, ground := Ground.phase }, { on := 24, ground := Ground.phase }, { on := 25, ground := Ground.phase }, { on := 26, ground := Ground.phase }, { on := 27, ground := Ground.phase }, { on := 28, ground := Ground.phase }, { on := 29, ground := Ground.phase }, { on := 30, ground := Ground.phase }, { on := 31, ground := Ground.phase }, { on := 32, ground := Ground.phase }, { on := 33, ground := Ground.phase }, { on := 34, ground := Ground.phase }, { on := 35, ground := Ground.phase }, { on := 36, ground := Ground.phase }, { on := 37, ground := Ground.phase }, { on := 38, ground := Ground.phase }, { on := 39, ground := Ground.phase }, { on := 40, ground := Ground.phase }, { on := 41, ground := Ground.phase }, { on := 42, ground := Ground.phase }, { on := 43, ground := Ground.phase }, { on := 44, ground := Ground.phase }, { on := 45, ground := Ground.phase }, { on := 46, ground := Ground.phase }, { on := 47, ground := Ground.phase }], guard := none }) (v := ?_) rfl (by kernel_rfl) (by kernel_rfl) (by kernel_rfl) (fun _ _ _ h => h) (Or.inl ⟨by rfl, ?_⟩) (by exact hHeld) ?_
      rotate_left
      · (intro w hSw; (try dsimp only at hSw); go_simp <;> with_reducible rfl)
      try simp only [Act.put, List.setIfInBounds_toArray, List.set_cons_zero, List.set_cons_succ]
      refine wpAnyH_done (by kernel_rfl) ?_ _
      go_wp2_with fail
      go_ret
      exact ⟨rfl, HBZ.out.trans (hB13.mono HBZ.out.size)⟩
    · go_simp
      refine (rp_on (wz := wz) a b c d ao n k0 _ hB1).mono ?_
      rintro x u2 ⟨rfl, hB2, hb2⟩
      have HB12 := Lib.hid hb2; have hcvA2 := HCV.out u2 hb2; clear hb2
      go_wp2_with fail
      refine hK.out _ _ (HC.out _ (by exact hB2)) (fun hHeld => ?_)
      clear hK K
      try simp only [Act.put, List.setIfInBounds_toArray, List.set_cons_zero, List.set_cons_succ]
      refine wpAnyH_ready (rs := [2, 5]) (by kernel_rfl) (by simp) ?_
      refine AllReadyH.cons (o := { dst := some 23, op := Op.convert 29 9 (Operand.tmp 22), type := 9, pos := _, after := #[{ on := 1, ground := Ground.data }], guard := none }) rfl (fun K hK => ?_) (AllReadyH.cons (o := { dst := some 26, op := Op.call { callee := Callee.value (Operand.func 16), args := #[Operand.tmp 25], argTypes := #[40] }, type := 29, pos := _, after := #[{ on := 4, ground := Ground.data }, { on := 4, ground := Ground.chain }], guard := none }) rfl (fun K hK => ?_) AllReadyH.nil)
      · go_simp
        refine hK.out _ _ (HC.out _ (by exact hB2)) (fun hHeld => ?_)
        clear hK K
        try simp only [Act.put, List.setIfInBounds_toArray, List.set_cons_zero, List.set_cons_succ]
        refine wpAnyH_ready (rs := [5]) (by kernel_rfl) (by simp) ?_
        refine AllReadyH.cons (o := { dst := some 26, op := Op.call { callee := Callee.value (Operand.func 16), args := #[Operand.tmp 25], argTypes := #[40] }, type := 29, pos := _, after := #[{ on := 4, ground := Ground.data }, { on := 4, ground := Ground.chain }], guard := none }) rfl (fun K hK => ?_) AllReadyH.nil
        go_simp
        refine (HRP.out _ hB2).mono ?_
        rintro x u3 ⟨a5, n5, c5, rfl, hcw, hB3, hb3⟩
        have hcvA3 := HCV.out u3 (HB12.out.trans (hb3.mono HB12.out.size)); have hcvB3 := hcw u3 (Below.refl _ _); clear hcw hb3
        go_wp2_with fail
        refine hK.out _ _ (HC.out _ (by exact hB3)) (fun hHeld => ?_)
        clear hK K
        try simp only [Act.put, List.setIfInBounds_toArray, List.set_cons_zero, List.set_cons_succ]
        refine wpAnyH_ready (rs := [6]) (by kernel_rfl) (by simp) ?_
        refine AllReadyH.cons (o := { dst := some 27, op := Op.convert 29 9 (Operand.tmp 26), type := 9, pos := _, after := #[{ on := 5, ground := Ground.data }], guard := none }) rfl (fun K hK => ?_) AllReadyH.nil
        go_simp
        refine hK.out _ _ (HC.out _ (by exact hB3)) (fun hHeld => ?_)
        clear hK K
        try simp only [Act.put, List.setIfInBounds_toArray, List.set_cons_zero, List.set_cons_succ]
        refine wpAnyH_take (i := 7) (oi := { dst := some 28, op := Op.binOp BinOp.eql 9 (Operand.tmp 23) (Operand.tmp 27) 9, type := 4, pos := _, after := #[{ on := 2, ground := Ground.data }, { on := 6, ground := Ground.data }], guard := none }) (v := ?_) rfl (by kernel_rfl) (by kernel_rfl) (by kernel_rfl) (fun _ _ _ h => h) (Or.inl ⟨by rfl, ?_⟩) (by exact hHeld) ?_
        rotate_left
        · (intro w hSw; (try dsimp only at hSw); go_simp <;> with_reducible rfl)
        try simp only [Act.put, List.setIfInBounds_toArray, List.set_cons_zero, List.set_cons_succ]
        refine wpAnyH_take (i := 8) (oi := { dst := some 29, op := Op.move (Operand.tmp 28), type := 4, pos := _, after := #[{ on := 7, ground := Ground.data }, { on := 5, ground := Ground.chain }], guard := none }) (v := ?_) rfl (by kernel_rfl) (by kernel_rfl) (by kernel_rfl) (fun _ _ _ h => h) (Or.inl ⟨by rfl, ?_⟩) (by exact hHeld) ?_
        rotate_left
        · (intro w hSw; (try dsimp only at hSw); go_simp <;> with_reducible rfl)
        try simp only [Act.put, List.setIfInBounds_toArray, List.set_cons_zero, List.set_cons_succ]
        refine wpAnyH_take (i := 9) (oi := { dst := some 30, op := Op.load 26 (Operand.tmp 5), type := 26, pos := _, after := #[{ on := 8, ground := Ground.guard }], guard := some (8, true) }) (v := ?_) rfl (by kernel_rfl) (by kernel_rfl) (by kernel_rfl) (fun _ _ _ h => h) (Or.inl ⟨by rfl, ?_⟩) (by exact hHeld) ?_
        rotate_left
        · (intro w hSw; (try dsimp only at hSw); go_simp <;> with_reducible rfl)
        try simp only [Act.put, List.setIfInBounds_toArray, List.set_cons_zero, List.set_cons_succ]
        refine wpAnyH_take (i := 10) (oi := { dst := some 31, op := Op.load 26 (Operand.tmp 6), type := 26, pos := _, after := #[{ on := 8, ground := Ground.guard }], guard := some (8, true) }) (v := ?_) rfl (by kernel_rfl) (by kernel_rfl) (by kernel_rfl) (fun _ _ _ h => h) (Or.inl ⟨by rfl, ?_⟩) (by exact hHeld) ?_
        rotate_left
        · (intro w hSw; (try dsimp only at hSw); go_simp <;> with_reducible rfl)
        try simp only [Act.put, List.setIfInBounds_toArray, List.set_cons_zero, List.set_cons_succ]
        refine wpAnyH_take (i := 12) (oi := { dst := some 33, op := Op.load 26 (Operand.tmp 5), type := 26, pos := _, after := #[{ on := 8, ground := Ground.guard }], guard := some (8, true) }) (v := ?_) rfl (by kernel_rfl) (by kernel_rfl) (by kernel_rfl) (fun _ _ _ h => h) (Or.inl ⟨by rfl, ?_⟩) (by exact hHeld) ?_
        rotate_left
        · (intro w hSw; (try dsimp only at hSw); go_simp <;> with_reducible rfl)
        try simp only [Act.put, List.setIfInBounds_toArray, List.set_cons_zero, List.set_cons_succ]
        refine wpAnyH_take (i := 14) (oi := { dst := some 35, op := Op.load 26 (Operand.tmp 6), type := 26, pos := _, after := #[{ on := 8, ground := Ground.guard }], guard := some (8, true) }) (v := ?_) rfl (by kernel_rfl) (by kernel_rfl) (by kernel_rfl) (fun _ _ _ h => h) (Or.inl ⟨by rfl, ?_⟩) (by exact hHeld) ?_
        rotate_left
        · (intro w hSw; (try dsimp only at hSw); go_simp <;> with_reducible rfl)
        try simp only [Act.put, List.setIfInBounds_toArray, List.set_cons_zero, List.set_cons_succ]
        refine wpAnyH_ready (rs := [11]) (by kernel_rfl) (by simp) ?_
        refine AllReadyH.cons (o := { dst := some 32, op := Op.call { callee := Callee.value (Operand.func 18), args := #[Operand.tmp 30, Operand.tmp 31], argTypes := #[26, 26] }, type := 4, pos := _, after := #[{ on := 9, ground := Ground.data }, { on := 10, ground := Ground.data }, { on := 8, ground := Ground.chain }, { on := 8, ground := Ground.guard }], guard := some (8, true) }) rfl (fun K hK => ?_) AllReadyH.nil
        go_simp
        refine (HSA.out _ hB3).mono ?_
        rintro x u4 ⟨rfl, hB4⟩
        go_wp2_with fail
        refine hK.out _ _ (HC.out _ (by exact hB4)) (fun hHeld => ?_)
        clear hK K
        try simp only [Act.put, List.setIfInBounds_toArray, List.set_cons_zero, List.set_cons_succ]
        refine wpAnyH_ready (rs := [13]) (by kernel_rfl) (by simp) ?_
        refine AllReadyH.cons (o := { dst := some 34, op := Op.call { callee := Callee.value (Operand.func 17), args := #[Operand.tmp 33], argTypes := #[26] }, type := 40, pos := _, after := #[{ on := 12, ground := Ground.data }, { on := 11, ground := Ground.chain }, { on := 8, ground := Ground.guard }], guard := some (8, true) }) rfl (fun K hK => ?_) AllReadyH.nil
        go_simp
        refine (rp_on (wz := wz) a b c d ao n k0 _ hB4).mono ?_
        rintro x u5 ⟨rfl, hB5, _⟩
        go_wp2_with fail
        refine hK.out _ _ (HC.out _ (by exact hB5)) (fun hHeld => ?_)
        clear hK K
        try simp only [Act.put, List.setIfInBounds_toArray, List.set_cons_zero, List.set_cons_succ]
        refine wpAnyH_ready (rs := [15]) (by kernel_rfl) (by simp) ?_
        refine AllReadyH.cons (o := { dst := some 36, op := Op.call { callee := Callee.value (Operand.func 17), args := #[Operand.tmp 35], argTypes := #[26] }, type := 40, pos := _, after := #[{ on := 14, ground := Ground.data }, { on := 13, ground := Ground.chain }, { on := 8, ground := Ground.guard }], guard := some (8, true) }) rfl (fun K hK => ?_) AllReadyH.nil
        go_simp
        refine (rp_on (wz := wz) e f g i bo q k2 _ hB5).mono ?_
        rintro x u6 ⟨rfl, hB6, _⟩
        go_wp2_with fail
        refine hK.out _ _ (HC.out _ (by exact hB6)) (fun hHeld => ?_)
        clear hK K
        try simp only [Act.put, List.setIfInBounds_toArray, List.set_cons_zero, List.set_cons_succ]
        refine wpAnyH_ready (rs := [16]) (by kernel_rfl) (by simp) ?_
        refine AllReadyH.cons (o := { dst := some 37, op := Op.call { callee := Callee.value (Operand.func 19), args := #[Operand.tmp 34, Operand.tmp 36], argTypes := #[40, 40] }, type := 4, pos := _, after := #[{ on := 13, ground := Ground.data }, { on := 15, ground := Ground.data }, { on := 15, ground := Ground.chain }, { on := 8, ground := Ground.guard }], guard := some (8, true) }) rfl (fun K hK => ?_) AllReadyH.nil
        go_simp
        refine (HRS.out _ hB6).mono ?_
        rintro x u7 ⟨rfl, hB7⟩
        go_wp2_with fail
        refine hK.out _ _ (HC.out _ (by exact hB7)) (fun hHeld => ?_)
        clear hK K
        try simp only [Act.put, List.setIfInBounds_toArray, List.set_cons_zero, List.set_cons_succ]
        refine wpAnyH_take (i := 17) (oi := { dst := some 38, op := Op.binOp BinOp.eql 4 (Operand.tmp 32) (Operand.tmp 37) 4, type := 4, pos := _, after := #[{ on := 11, ground := Ground.data }, { on := 16, ground := Ground.data }, { on := 8, ground := Ground.guard }], guard := some (8, true) }) (v := ?_) rfl (by kernel_rfl) (by kernel_rfl) (by kernel_rfl) (fun _ _ _ h => h) (Or.inl ⟨by rfl, ?_⟩) (by exact hHeld) ?_
        rotate_left
        · (intro w hSw; (try dsimp only at hSw); go_simp <;> with_reducible rfl)
        try simp only [Act.put, List.setIfInBounds_toArray, List.set_cons_zero, List.set_cons_succ]
        refine wpAnyH_take (i := 18) (oi := { dst := some 39, op := Op.pick (Operand.tmp 29) (Operand.tmp 38) (Operand.const (Value.bool false)), type := 4, pos := _, after := #[{ on := 8, ground := Ground.data }, { on := 17, ground := Ground.data }], guard := none }) (v := ?_) rfl (by kernel_rfl) (by kernel_rfl) (by kernel_rfl) (fun _ _ _ h => h) (Or.inl ⟨by rfl, ?_⟩) (by exact hHeld) ?_
        rotate_left
        · (intro w hSw; (try dsimp only at hSw); go_simp <;> with_reducible rfl)
        try simp only [Act.put, List.setIfInBounds_toArray, List.set_cons_zero, List.set_cons_succ]
        refine wpAnyH_take (i := 19) (oi := { dst := some 40, op := Op.move (Operand.tmp 39), type := 4, pos := _, after := #[{ on := 18, ground := Ground.data }, { on := 16, ground := Ground.chain }], guard := none }) (v := ?_) rfl (by kernel_rfl) (by kernel_rfl) (by kernel_rfl) (fun _ _ _ h => h) (Or.inl ⟨by rfl, ?_⟩) (by exact hHeld) ?_
        rotate_left
        · (intro w hSw; (try dsimp only at hSw); go_simp <;> with_reducible rfl)
        try simp only [Act.put, List.setIfInBounds_toArray, List.set_cons_zero, List.set_cons_succ]
        refine wpAnyH_take (i := 20) (oi := { dst := some 41, op := Op.fieldAddr 26 (Operand.tmp 5) 4, type := 0, pos := _, after := #[{ on := 19, ground := Ground.guard }], guard := some (19, true) }) (v := ?_) rfl (by kernel_rfl) (by kernel_rfl) (by kernel_rfl) (fun _ _ _ h => h) (Or.inl ⟨by rfl, ?_⟩) (by exact hHeld) ?_
        rotate_left
        · (intro w hSw; (try dsimp only at hSw); go_simp <;> with_reducible rfl)
        try simp only [Act.put, List.setIfInBounds_toArray, List.set_cons_zero, List.set_cons_succ]
        refine wpAnyH_take (i := 21) (oi := { dst := some 42, op := Op.load 24 (Operand.tmp 41), type := 24, pos := _, after := #[{ on := 20, ground := Ground.data }, { on := 19, ground := Ground.guard }], guard := some (19, true) }) (v := ?_) rfl (by kernel_rfl) (by kernel_rfl) (by kernel_rfl) (fun _ _ _ h => h) (Or.inl ⟨by rfl, ?_⟩) (by exact hHeld) ?_
        rotate_left
        · (intro w hSw; (try dsimp only at hSw); go_simp <;> with_reducible rfl)
        try simp only [Act.put, List.setIfInBounds_toArray, List.set_cons_zero, List.set_cons_succ]
        refine wpAnyH_take (i := 22) (oi := { dst := some 43, op := Op.fieldAddr 26 (Operand.tmp 6) 4, type := 0, pos := _, after := #[{ on := 19, ground := Ground.guard }], guard := some (19, true) }) (v := ?_) rfl (by kernel_rfl) (by kernel_rfl) (by kernel_rfl) (fun _ _ _ h => h) (Or.inl ⟨by rfl, ?_⟩) (by exact hHeld) ?_
        rotate_left
        · (intro w hSw; (try dsimp only at hSw); go_simp <;> with_reducible rfl)
        try simp only [Act.put, List.setIfInBounds_toArray, List.set_cons_zero, List.set_cons_succ]
        refine wpAnyH_take (i := 23) (oi := { dst := some 44, op := Op.load 24 (Operand.tmp 43), type := 24, pos := _, after := #[{ on := 22, ground := Ground.data }, { on := 19, ground := Ground.guard }], guard := some (19, true) }) (v := ?_) rfl (by kernel_rfl) (by kernel_rfl) (by kernel_rfl) (fun _ _ _ h => h) (Or.inl ⟨by rfl, ?_⟩) (by exact hHeld) ?_
        rotate_left
        · (intro w hSw; (try dsimp only at hSw); go_simp <;> with_reducible rfl)
        try simp only [Act.put, List.setIfInBounds_toArray, List.set_cons_zero, List.set_cons_succ]
        refine wpAnyH_take (i := 25) (oi := { dst := some 46, op := Op.fieldAddr 26 (Operand.tmp 5) 4, type := 0, pos := _, after := #[{ on := 19, ground := Ground.guard }], guard := some (19, true) }) (v := ?_) rfl (by kernel_rfl) (by kernel_rfl) (by kernel_rfl) (fun _ _ _ h => h) (Or.inl ⟨by rfl, ?_⟩) (by exact hHeld) ?_
        rotate_left
        · (intro w hSw; (try dsimp only at hSw); go_simp <;> with_reducible rfl)
        try simp only [Act.put, List.setIfInBounds_toArray, List.set_cons_zero, List.set_cons_succ]
        refine wpAnyH_take (i := 26) (oi := { dst := some 47, op := Op.load 24 (Operand.tmp 46), type := 24, pos := _, after := #[{ on := 25, ground := Ground.data }, { on := 19, ground := Ground.guard }], guard := some (19, true) }) (v := ?_) rfl (by kernel_rfl) (by kernel_rfl) (by kernel_rfl) (fun _ _ _ h => h) (Or.inl ⟨by rfl, ?_⟩) (by exact hHeld) ?_
        rotate_left
        · (intro w hSw; (try dsimp only at hSw); go_simp <;> with_reducible rfl)
        try simp only [Act.put, List.setIfInBounds_toArray, List.set_cons_zero, List.set_cons_succ]
        refine wpAnyH_take (i := 27) (oi := { dst := some 48, op := Op.fieldAddr 26 (Operand.tmp 6) 4, type := 0, pos := _, after := #[{ on := 19, ground := Ground.guard }], guard := some (19, true) }) (v := ?_) rfl (by kernel_rfl) (by kernel_rfl) (by kernel_rfl) (fun _ _ _ h => h) (Or.inl ⟨by rfl, ?_⟩) (by exact hHeld) ?_
        rotate_left
        · (intro w hSw; (try dsimp only at hSw); go_simp <;> with_reducible rfl)
        try simp only [Act.put, List.setIfInBounds_toArray, List.set_cons_zero, List.set_cons_succ]
        refine wpAnyH_take (i := 28) (oi := { dst := some 49, op := Op.load 24 (Operand.tmp 48), type := 24, pos := _, after := #[{ on := 27, ground := Ground.data }, { on := 19, ground := Ground.guard }], guard := some (19, true) }) (v := ?_) rfl (by kernel_rfl) (by kernel_rfl) (by kernel_rfl) (fun _ _ _ h => h) (Or.inl ⟨by rfl, ?_⟩) (by exact hHeld) ?_
        rotate_left
        · (intro w hSw; (try dsimp only at hSw); go_simp <;> with_reducible rfl)
        try simp only [Act.put, List.setIfInBounds_toArray, List.set_cons_zero, List.set_cons_succ]
        refine wpAnyH_ready (rs := [24]) (by kernel_rfl) (by simp) ?_
        refine AllReadyH.cons (o := { dst := some 45, op := Op.call { callee := Callee.value (Operand.func 14), args := #[Operand.tmp 42, Operand.tmp 44], argTypes := #[24, 24] }, type := 4, pos := _, after := #[{ on := 21, ground := Ground.data }, { on := 23, ground := Ground.data }, { on := 19, ground := Ground.chain }, { on := 19, ground := Ground.guard }], guard := some (19, true) }) rfl (fun K hK => ?_) AllReadyH.nil
        go_simp
        refine (HAL.out _ hB7).1.mono ?_
        rintro x u8 ⟨rfl, hB8⟩
        go_wp2_with fail
        refine hK.out _ _ (HC.out _ (by exact hB8)) (fun hHeld => ?_)
        clear hK K
        try simp only [Act.put, List.setIfInBounds_toArray, List.set_cons_zero, List.set_cons_succ]
        refine wpAnyH_ready (rs := [29]) (by kernel_rfl) (by simp) ?_
        refine AllReadyH.cons (o := { dst := some 50, op := Op.call { callee := Callee.value (Operand.func 20), args := #[Operand.tmp 47, Operand.tmp 49], argTypes := #[24, 24] }, type := 4, pos := _, after := #[{ on := 26, ground := Ground.data }, { on := 28, ground := Ground.data }, { on := 24, ground := Ground.chain }, { on := 19, ground := Ground.guard }], guard := some (19, true) }) rfl (fun K hK => ?_) AllReadyH.nil
        go_simp
        refine (HAL.out _ hB8).2.mono ?_
        rintro x u9 ⟨rfl, hB9⟩
        go_wp2_with fail
        refine hK.out _ _ (HC.out _ (by exact hB9)) (fun hHeld => ?_)
        clear hK K
        try simp only [Act.put, List.setIfInBounds_toArray, List.set_cons_zero, List.set_cons_succ]
        refine wpAnyH_take (i := 30) (oi := { dst := some 51, op := Op.binOp BinOp.eql 4 (Operand.tmp 45) (Operand.tmp 50) 4, type := 4, pos := _, after := #[{ on := 24, ground := Ground.data }, { on := 29, ground := Ground.data }, { on := 19, ground := Ground.guard }], guard := some (19, true) }) (v := ?_) rfl (by kernel_rfl) (by kernel_rfl) (by kernel_rfl) (fun _ _ _ h => h) (Or.inl ⟨by rfl, ?_⟩) (by exact hHeld) ?_
        rotate_left
        · (intro w hSw; (try dsimp only at hSw); go_simp <;> with_reducible rfl)
        try simp only [Act.put, List.setIfInBounds_toArray, List.set_cons_zero, List.set_cons_succ]
        refine wpAnyH_take (i := 31) (oi := { dst := some 52, op := Op.pick (Operand.tmp 40) (Operand.tmp 51) (Operand.const (Value.bool false)), type := 4, pos := _, after := #[{ on := 19, ground := Ground.data }, { on := 30, ground := Ground.data }], guard := none }) (v := ?_) rfl (by kernel_rfl) (by kernel_rfl) (by kernel_rfl) (fun _ _ _ h => h) (Or.inl ⟨by rfl, ?_⟩) (by exact hHeld) ?_
        rotate_left
        · (intro w hSw; (try dsimp only at hSw); go_simp <;> with_reducible rfl)
        try simp only [Act.put, List.setIfInBounds_toArray, List.set_cons_zero, List.set_cons_succ]
        refine wpAnyH_take (i := 32) (oi := { dst := some 53, op := Op.move (Operand.tmp 52), type := 4, pos := _, after := #[{ on := 31, ground := Ground.data }, { on := 29, ground := Ground.chain }], guard := none }) (v := ?_) rfl (by kernel_rfl) (by kernel_rfl) (by kernel_rfl) (fun _ _ _ h => h) (Or.inl ⟨by rfl, ?_⟩) (by exact hHeld) ?_
        rotate_left
        · (intro w hSw; (try dsimp only at hSw); go_simp <;> with_reducible rfl)
        try simp only [Act.put, List.setIfInBounds_toArray, List.set_cons_zero, List.set_cons_succ]
        refine wpAnyH_take (i := 33) (oi := { dst := some 54, op := Op.fieldAddr 26 (Operand.tmp 5) 0, type := 0, pos := _, after := #[{ on := 32, ground := Ground.guard }], guard := some (32, true) }) (v := ?_) rfl (by kernel_rfl) (by kernel_rfl) (by kernel_rfl) (fun _ _ _ h => h) (Or.inl ⟨by rfl, ?_⟩) (by exact hHeld) ?_
        rotate_left
        · (intro w hSw; (try dsimp only at hSw); go_simp <;> with_reducible rfl)
        try simp only [Act.put, List.setIfInBounds_toArray, List.set_cons_zero, List.set_cons_succ]
        refine wpAnyH_take (i := 34) (oi := { dst := some 55, op := Op.load 2 (Operand.tmp 54), type := 2, pos := _, after := #[{ on := 33, ground := Ground.data }, { on := 32, ground := Ground.guard }], guard := some (32, true) }) (v := ?_) rfl (by kernel_rfl) (by kernel_rfl) (by kernel_rfl) (fun _ _ _ h => h) (Or.inl ⟨by rfl, ?_⟩) (by exact hHeld) ?_
        rotate_left
        · (intro w hSw; (try dsimp only at hSw); go_simp <;> with_reducible rfl)
        try simp only [Act.put, List.setIfInBounds_toArray, List.set_cons_zero, List.set_cons_succ]
        refine wpAnyH_take (i := 35) (oi := { dst := some 56, op := Op.move (Operand.tmp 2), type := 23, pos := _, after := #[{ on := 32, ground := Ground.guard }], guard := some (32, true) }) (v := ?_) rfl (by kernel_rfl) (by kernel_rfl) (by kernel_rfl) (fun _ _ _ h => h) (Or.inl ⟨by rfl, ?_⟩) (by exact hHeld) ?_
        rotate_left
        · (intro w hSw; (try dsimp only at hSw); go_simp <;> with_reducible rfl)
        try simp only [Act.put, List.setIfInBounds_toArray, List.set_cons_zero, List.set_cons_succ]
        refine wpAnyH_take (i := 36) (oi := { dst := some 57, op := Op.move (Operand.tmp 3), type := 3, pos := _, after := #[{ on := 32, ground := Ground.guard }], guard := some (32, true) }) (v := ?_) rfl (by kernel_rfl) (by kernel_rfl) (by kernel_rfl) (fun _ _ _ h => h) (Or.inl ⟨by rfl, ?_⟩) (by exact hHeld) ?_
        rotate_left
        · (intro w hSw; (try dsimp only at hSw); go_simp <;> with_reducible rfl)
        try simp only [Act.put, List.setIfInBounds_toArray, List.set_cons_zero, List.set_cons_succ]
        refine wpAnyH_take (i := 37) (oi := { dst := some 58, op := Op.move (Operand.tmp 4), type := 3, pos := _, after := #[{ on := 32, ground := Ground.guard }], guard := some (32, true) }) (v := ?_) rfl (by kernel_rfl) (by kernel_rfl) (by kernel_rfl) (fun _ _ _ h => h) (Or.inl ⟨by rfl, ?_⟩) (by exact hHeld) ?_
        rotate_left
        · (intro w hSw; (try dsimp only at hSw); go_simp <;> with_reducible rfl)
        try simp only [Act.put, List.setIfInBounds_toArray, List.set_cons_zero, List.set_cons_succ]
        refine wpAnyH_take (i := 40) (oi := { dst := some 61, op := Op.fieldAddr 26 (Operand.tmp 5) 0, type := 0, pos := _, after := #[{ on := 32, ground := Ground.guard }], guard := some (32, true) }) (v := ?_) rfl (by kernel_rfl) (by kernel_rfl) (by kernel_rfl) (fun _ _ _ h => h) (Or.inl ⟨by rfl, ?_⟩) (by exact hHeld) ?_
        rotate_left
        · (intro w hSw; (try dsimp only at hSw); go_simp <;> with_reducible rfl)
        try simp only [Act.put, List.setIfInBounds_toArray, List.set_cons_zero, List.set_cons_succ]
        refine wpAnyH_take (i := 41) (oi := { dst := some 62, op := Op.load 2 (Operand.tmp 61), type := 2, pos := _, after := #[{ on := 40, ground := Ground.data }, { on := 32, ground := Ground.guard }], guard := some (32, true) }) (v := ?_) rfl (by kernel_rfl) (by kernel_rfl) (by kernel_rfl) (fun _ _ _ h => h) (Or.inl ⟨by rfl, ?_⟩) (by exact hHeld) ?_
        rotate_left
        · (intro w hSw; (try dsimp only at hSw); go_simp <;> with_reducible rfl)
        try simp only [Act.put, List.setIfInBounds_toArray, List.set_cons_zero, List.set_cons_succ]
        refine wpAnyH_take (i := 42) (oi := { dst := some 63, op := Op.move (Operand.tmp 2), type := 23, pos := _, after := #[{ on := 32, ground := Ground.guard }], guard := some (32, true) }) (v := ?_) rfl (by kernel_rfl) (by kernel_rfl) (by kernel_rfl) (fun _ _ _ h => h) (Or.inl ⟨by rfl, ?_⟩) (by exact hHeld) ?_
        rotate_left
        · (intro w hSw; (try dsimp only at hSw); go_simp <;> with_reducible rfl)
        try simp only [Act.put, List.setIfInBounds_toArray, List.set_cons_zero, List.set_cons_succ]
        refine wpAnyH_take (i := 43) (oi := { dst := some 64, op := Op.move (Operand.tmp 3), type := 3, pos := _, after := #[{ on := 32, ground := Ground.guard }], guard := some (32, true) }) (v := ?_) rfl (by kernel_rfl) (by kernel_rfl) (by kernel_rfl) (fun _ _ _ h => h) (Or.inl ⟨by rfl, ?_⟩) (by exact hHeld) ?_
        rotate_left
        · (intro w hSw; (try dsimp only at hSw); go_simp <;> with_reducible rfl)
        try simp only [Act.put, List.setIfInBounds_toArray, List.set_cons_zero, List.set_cons_succ]
        refine wpAnyH_take (i := 44) (oi := { dst := some 65, op := Op.move (Operand.tmp 4), type := 3, pos := _, after := #[{ on := 32, ground := Ground.guard }], guard := some (32, true) }) (v := ?_) rfl (by kernel_rfl) (by kernel_rfl) (by kernel_rfl) (fun _ _ _ h => h) (Or.inl ⟨by rfl, ?_⟩) (by exact hHeld) ?_
        rotate_left
        · (intro w hSw; (try dsimp only at hSw); go_simp <;> with_reducible rfl)
        try simp only [Act.put, List.setIfInBounds_toArray, List.set_cons_zero, List.set_cons_succ]
        refine wpAnyH_ready (rs := [38]) (by kernel_rfl) (by simp) ?_
        refine AllReadyH.cons (o := { dst := some 59, op := Op.call { callee := Callee.value (Operand.func 13), args := #[Operand.tmp 55, Operand.tmp 56, Operand.tmp 57, Operand.tmp 58], argTypes := #[2, 23, 3, 3] }, type := 26, pos := _, after := #[{ on := 34, ground := Ground.data }, { on := 35, ground := Ground.data }, { on := 36, ground := Ground.data }, { on := 37, ground := Ground.data }, { on := 32, ground := Ground.chain }, { on := 32, ground := Ground.guard }], guard := some (32, true) }) rfl (fun K hK => ?_) AllReadyH.nil
        go_simp
        refine (fail_on (wz := wz) a en pl nn hn1 hn2 _ hB9).mono ?_
        rintro x u10 ⟨a7, c7, rs7, rfl, hf7, hB10⟩
        have HF7 := Lib.hid hf7; clear hf7
        go_wp2_with fail
        refine hK.out _ _ (HC.out _ (by exact hB10)) (fun hHeld => ?_)
        clear hK K
        try simp only [Act.put, List.setIfInBounds_toArray, List.set_cons_zero, List.set_cons_succ]
        refine wpAnyH_ready (rs := [39]) (by kernel_rfl) (by simp) ?_
        refine AllReadyH.cons (o := { dst := some 60, op := Op.call { callee := Callee.value (Operand.func 17), args := #[Operand.tmp 59], argTypes := #[26] }, type := 40, pos := _, after := #[{ on := 38, ground := Ground.data }, { on := 38, ground := Ground.chain }, { on := 32, ground := Ground.guard }], guard := some (32, true) }) rfl (fun K hK => ?_) AllReadyH.nil
        go_simp
        refine (rp_on (wz := wz) a 0 en pl a7 (failN nn) c7 _ hB10).mono ?_
        rintro x u11 ⟨rfl, hB11, hb11⟩
        have HF8 := Lib.hid (HF7.out.later hb11); clear hb11
        go_wp2_with fail
        refine hK.out _ _ (HC.out _ (by exact hB11)) (fun hHeld => ?_)
        clear hK K
        try simp only [Act.put, List.setIfInBounds_toArray, List.set_cons_zero, List.set_cons_succ]
        refine wpAnyH_ready (rs := [45]) (by kernel_rfl) (by simp) ?_
        refine AllReadyH.cons (o := { dst := some 66, op := Op.call { callee := Callee.value (Operand.func 21), args := #[Operand.tmp 62, Operand.tmp 63, Operand.tmp 64, Operand.tmp 65], argTypes := #[2, 23, 3, 3] }, type := 40, pos := _, after := #[{ on := 41, ground := Ground.data }, { on := 42, ground := Ground.data }, { on := 43, ground := Ground.data }, { on := 44, ground := Ground.data }, { on := 39, ground := Ground.chain }, { on := 32, ground := Ground.guard }], guard := some (32, true) }) rfl (fun K hK => ?_) AllReadyH.nil
        go_simp
        refine (rfail_on (wz := wz) a en pl nn hn1 hn2 _ hB11).mono ?_
        rintro x u12 ⟨a8, c8, rs8, rfl, hf9, hB12, hb12⟩
        have HF9 := Lib.hid hf9; have HF10 := Lib.hid (HF8.out.later hb12); clear hb12 hf9
        go_wp2_with fail
        refine hK.out _ _ (HC.out _ (by exact hB12)) (fun hHeld => ?_)
        clear hK K
        try simp only [Act.put, List.setIfInBounds_toArray, List.set_cons_zero, List.set_cons_succ]
        refine wpAnyH_ready (rs := [46]) (by kernel_rfl) (by simp) ?_
        refine AllReadyH.cons (o := { dst := some 67, op := Op.call { callee := Callee.value (Operand.func 19), args := #[Operand.tmp 60, Operand.tmp 66], argTypes := #[40, 40] }, type := 4, pos := _, after := #[{ on := 39, ground := Ground.data }, { on := 45, ground := Ground.data }, { on := 45, ground := Ground.chain }, { on := 32, ground := Ground.guard }], guard := some (32, true) }) rfl (fun K hK => ?_) AllReadyH.nil
        go_simp
        refine (twin_on (wz := wz) _ HF10.out HF9.out (failN_le nn) hB12).mono ?_
        rintro x u13 ⟨rfl, hB13⟩
        go_wp2_with fail
        refine hK.out _ _ (HC.out _ (by exact hB13)) (fun hHeld => ?_)
        clear hK K
        try simp only [Act.put, List.setIfInBounds_toArray, List.set_cons_zero, List.set_cons_succ]
        refine wpAnyH_take (i := 47) (oi := { dst := some 68, op := Op.pick (Operand.tmp 53) (Operand.tmp 67) (Operand.const (Value.bool false)), type := 4, pos := _, after := #[{ on := 32, ground := Ground.data }, { on := 46, ground := Ground.data }], guard := none }) (v := ?_) rfl (by kernel_rfl) (by kernel_rfl) (by kernel_rfl) (fun _ _ _ h => h) (Or.inl ⟨by rfl, ?_⟩) (by exact hHeld) ?_
        rotate_left
        · (intro w hSw; (try dsimp only at hSw); go_simp <;> with_reducible rfl)
        try simp only [Act.put, List.setIfInBounds_toArray, List.set_cons_zero, List.set_cons_succ]
        refine wpAnyH_take (i := 48) (oi := { dst := some 10, op := Op.assign (Operand.tmp 68), type := 4, pos := _, after := #[{ on := 47, ground := Ground.data }, { on := 46, ground := Ground.chain }, { on := 0, ground := Ground.phase }, { on := 1, ground := Ground.phase }, { on := 2, ground := Ground.phase }, { on := 3, ground := Ground.phase }, { on := 4, ground := Ground.phase }, { on := 5, ground := Ground.phase }, { on := 6, ground := Ground.phase }, { on := 7, ground := Ground.phase }, { on := 8, ground := Ground.phase }, { on := 9, ground := Ground.phase }, { on := 10, ground := Ground.phase }, { on := 11, ground := Ground.phase }, { on := 12, ground := Ground.phase }, { on := 13, ground := Ground.phase }, { on := 14, ground := Ground.phase }, { on := 15, ground := Ground.phase }, { on := 16, ground := Ground.phase }, { on := 17, ground := Ground.phase }, { on := 18, ground := Ground.phase }, { on := 19, ground := Ground.phase }, { on := 20, ground := Ground.phase }, { on := 21, ground := Ground.phase }, { on := 22, ground := Ground.phase }, { on := 23, ground := Ground.phase }, { on := 24, ground := Ground.phase }, { on := 25, ground := Ground.phase }, { on := 26, ground := Ground.phase }, { on := 27, ground := Ground.phase }, { on := 28, ground := Ground.phase }, { on := 29, ground := Ground.phase }, { on := 30, ground := Ground.phase }, { on := 31, ground := Ground.phase }, { on := 32, ground := Ground.phase }, { on := 33, ground := Ground.phase }, { on := 34, ground := Ground.phase }, { on := 35, ground := Ground.phase }, { on := 36, ground := Ground.phase }, { on := 37, ground := Ground.phase }, { on := 38, ground := Ground.phase }, { on := 39, ground := Ground.phase }, { on := 40, ground := Ground.phase }, { on := 41, ground := Ground.phase }, { on := 42, ground := Ground.phase }, { on := 43, ground := Ground.phase }, { on := 44, ground := Ground.phase }, { on := 45, ground := Ground.phase }, { on := 46, ground := Ground.phase }, { on := 47, ground := Ground.phase }], guard := none }) (v := ?_) rfl (by kernel_rfl) (by kernel_rfl) (by kernel_rfl) (fun _ _ _ h => h) (Or.inl ⟨by rfl, ?_⟩) (by exact hHeld) ?_
        rotate_left
        · (intro w hSw; (try dsimp only at hSw); go_simp <;> with_reducible rfl)
        try simp only [Act.put, List.setIfInBounds_toArray, List.set_cons_zero, List.set_cons_succ]
        refine wpAnyH_done (by kernel_rfl) ?_ _
        go_wp2_with fail
        go_ret
        exact ⟨rfl, HBZ.out.trans (hB13.mono HBZ.out.size)⟩
      · go_simp
        refine (HRP.out _ hB2).mono ?_
        rintro x u3 ⟨a5, n5, c5, rfl, hcw, hB3, hb3⟩
        have hcvA3 := HCV.out u3 (HB12.out.trans (hb3.mono HB12.out.size)); have hcvB3 := hcw u3 (Below.refl _ _); clear hcw hb3
        go_wp2_with fail
        refine hK.out _ _ (HC.out _ (by exact hB3)) (fun hHeld => ?_)
        clear hK K
        try simp only [Act.put, List.setIfInBounds_toArray, List.set_cons_zero, List.set_cons_succ]
        refine wpAnyH_ready (rs := [2, 6]) (by kernel_rfl) (by simp) ?_
        refine AllReadyH.cons (o := { dst := some 23, op := Op.convert 29 9 (Operand.tmp 22), type := 9, pos := _, after := #[{ on := 1, ground := Ground.data }], guard := none }) rfl (fun K hK => ?_) (AllReadyH.cons (o := { dst := some 27, op := Op.convert 29 9 (Operand.tmp 26), type := 9, pos := _, after := #[{ on := 5, ground := Ground.data }], guard := none }) rfl (fun K hK => ?_) AllReadyH.nil)
        · go_simp
          refine hK.out _ _ (HC.out _ (by exact hB3)) (fun hHeld => ?_)
          clear hK K
          try simp only [Act.put, List.setIfInBounds_toArray, List.set_cons_zero, List.set_cons_succ]
          refine wpAnyH_ready (rs := [6]) (by kernel_rfl) (by simp) ?_
          refine AllReadyH.cons (o := { dst := some 27, op := Op.convert 29 9 (Operand.tmp 26), type := 9, pos := _, after := #[{ on := 5, ground := Ground.data }], guard := none }) rfl (fun K hK => ?_) AllReadyH.nil
          go_simp
          refine hK.out _ _ (HC.out _ (by exact hB3)) (fun hHeld => ?_)
          clear hK K
          try simp only [Act.put, List.setIfInBounds_toArray, List.set_cons_zero, List.set_cons_succ]
          refine wpAnyH_take (i := 7) (oi := { dst := some 28, op := Op.binOp BinOp.eql 9 (Operand.tmp 23) (Operand.tmp 27) 9, type := 4, pos := _, after := #[{ on := 2, ground := Ground.data }, { on := 6, ground := Ground.data }], guard := none }) (v := ?_) rfl (by kernel_rfl) (by kernel_rfl) (by kernel_rfl) (fun _ _ _ h => h) (Or.inl ⟨by rfl, ?_⟩) (by exact hHeld) ?_
          rotate_left
          · (intro w hSw; (try dsimp only at hSw); go_simp <;> with_reducible rfl)
          try simp only [Act.put, List.setIfInBounds_toArray, List.set_cons_zero, List.set_cons_succ]
          refine wpAnyH_take (i := 8) (oi := { dst := some 29, op := Op.move (Operand.tmp 28), type := 4, pos := _, after := #[{ on := 7, ground := Ground.data }, { on := 5, ground := Ground.chain }], guard := none }) (v := ?_) rfl (by kernel_rfl) (by kernel_rfl) (by kernel_rfl) (fun _ _ _ h => h) (Or.inl ⟨by rfl, ?_⟩) (by exact hHeld) ?_
          rotate_left
          · (intro w hSw; (try dsimp only at hSw); go_simp <;> with_reducible rfl)
          try simp only [Act.put, List.setIfInBounds_toArray, List.set_cons_zero, List.set_cons_succ]
          refine wpAnyH_take (i := 9) (oi := { dst := some 30, op := Op.load 26 (Operand.tmp 5), type := 26, pos := _, after := #[{ on := 8, ground := Ground.guard }], guard := some (8, true) }) (v := ?_) rfl (by kernel_rfl) (by kernel_rfl) (by kernel_rfl) (fun _ _ _ h => h) (Or.inl ⟨by rfl, ?_⟩) (by exact hHeld) ?_
          rotate_left
          · (intro w hSw; (try dsimp only at hSw); go_simp <;> with_reducible rfl)
          try simp only [Act.put, List.setIfInBounds_toArray, List.set_cons_zero, List.set_cons_succ]
          refine wpAnyH_take (i := 10) (oi := { dst := some 31, op := Op.load 26 (Operand.tmp 6), type := 26, pos := _, after := #[{ on := 8, ground := Ground.guard }], guard := some (8, true) }) (v := ?_) rfl (by kernel_rfl) (by kernel_rfl) (by kernel_rfl) (fun _ _ _ h => h) (Or.inl ⟨by rfl, ?_⟩) (by exact hHeld) ?_
          rotate_left
          · (intro w hSw; (try dsimp only at hSw); go_simp <;> with_reducible rfl)
          try simp only [Act.put, List.setIfInBounds_toArray, List.set_cons_zero, List.set_cons_succ]
          refine wpAnyH_take (i := 12) (oi := { dst := some 33, op := Op.load 26 (Operand.tmp 5), type := 26, pos := _, after := #[{ on := 8, ground := Ground.guard }], guard := some (8, true) }) (v := ?_) rfl (by kernel_rfl) (by kernel_rfl) (by kernel_rfl) (fun _ _ _ h => h) (Or.inl ⟨by rfl, ?_⟩) (by exact hHeld) ?_
          rotate_left
          · (intro w hSw; (try dsimp only at hSw); go_simp <;> with_reducible rfl)
          try simp only [Act.put, List.setIfInBounds_toArray, List.set_cons_zero, List.set_cons_succ]
          refine wpAnyH_take (i := 14) (oi := { dst := some 35, op := Op.load 26 (Operand.tmp 6), type := 26, pos := _, after := #[{ on := 8, ground := Ground.guard }], guard := some (8, true) }) (v := ?_) rfl (by kernel_rfl) (by kernel_rfl) (by kernel_rfl) (fun _ _ _ h => h) (Or.inl ⟨by rfl, ?_⟩) (by exact hHeld) ?_
          rotate_left
          · (intro w hSw; (try dsimp only at hSw); go_simp <;> with_reducible rfl)
          try simp only [Act.put, List.setIfInBounds_toArray, List.set_cons_zero, List.set_cons_succ]
          refine wpAnyH_ready (rs := [11]) (by kernel_rfl) (by simp) ?_
          refine AllReadyH.cons (o := { dst := some 32, op := Op.call { callee := Callee.value (Operand.func 18), args := #[Operand.tmp 30, Operand.tmp 31], argTypes := #[26, 26] }, type := 4, pos := _, after := #[{ on := 9, ground := Ground.data }, { on := 10, ground := Ground.data }, { on := 8, ground := Ground.chain }, { on := 8, ground := Ground.guard }], guard := some (8, true) }) rfl (fun K hK => ?_) AllReadyH.nil
          go_simp
          refine (HSA.out _ hB3).mono ?_
          rintro x u4 ⟨rfl, hB4⟩
          go_wp2_with fail
          refine hK.out _ _ (HC.out _ (by exact hB4)) (fun hHeld => ?_)
          clear hK K
          try simp only [Act.put, List.setIfInBounds_toArray, List.set_cons_zero, List.set_cons_succ]
          refine wpAnyH_ready (rs := [13]) (by kernel_rfl) (by simp) ?_
          refine AllReadyH.cons (o := { dst := some 34, op := Op.call { callee := Callee.value (Operand.func 17), args := #[Operand.tmp 33], argTypes := #[26] }, type := 40, pos := _, after := #[{ on := 12, ground := Ground.data }, { on := 11, ground := Ground.chain }, { on := 8, ground := Ground.guard }], guard := some (8, true) }) rfl (fun K hK => ?_) AllReadyH.nil
          go_simp
          refine (rp_on (wz := wz) a b c d ao n k0 _ hB4).mono ?_
          rintro x u5 ⟨rfl, hB5, _⟩
          go_wp2_with fail
          refine hK.out _ _ (HC.out _ (by exact hB5)) (fun hHeld => ?_)
          clear hK K
          try simp only [Act.put, List.setIfInBounds_toArray, List.set_cons_zero, List.set_cons_succ]
          refine wpAnyH_ready (rs := [15]) (by kernel_rfl) (by simp) ?_
          refine AllReadyH.cons (o := { dst := some 36, op := Op.call { callee := Callee.value (Operand.func 17), args := #[Operand.tmp 35], argTypes := #[26] }, type := 40, pos := _, after := #[{ on := 14, ground := Ground.data }, { on := 13, ground := Ground.chain }, { on := 8, ground := Ground.guard }], guard := some (8, true) }) rfl (fun K hK => ?_) AllReadyH.nil
          go_simp
          refine (rp_on (wz := wz) e f g i bo q k2 _ hB5).mono ?_
          rintro x u6 ⟨rfl, hB6, _⟩
          go_wp2_with fail
          refine hK.out _ _ (HC.out _ (by exact hB6)) (fun hHeld => ?_)
          clear hK K
          try simp only [Act.put, List.setIfInBounds_toArray, List.set_cons_zero, List.set_cons_succ]
          refine wpAnyH_ready (rs := [16]) (by kernel_rfl) (by simp) ?_
          refine AllReadyH.cons (o := { dst := some 37, op := Op.call { callee := Callee.value (Operand.func 19), args := #[Operand.tmp 34, Operand.tmp 36], argTypes := #[40, 40] }, type := 4, pos := _, after := #[{ on := 13, ground := Ground.data }, { on := 15, ground := Ground.data }, { on := 15, ground := Ground.chain }, { on := 8, ground := Ground.guard }], guard := some (8, true) }) rfl (fun K hK => ?_) AllReadyH.nil
          go_simp
          refine (HRS.out _ hB6).mono ?_
          rintro x u7 ⟨rfl, hB7⟩
          go_wp2_with fail
          refine hK.out _ _ (HC.out _ (by exact hB7)) (fun hHeld => ?_)
          clear hK K
          try simp only [Act.put, List.setIfInBounds_toArray, List.set_cons_zero, List.set_cons_succ]
          refine wpAnyH_take (i := 17) (oi := { dst := some 38, op := Op.binOp BinOp.eql 4 (Operand.tmp 32) (Operand.tmp 37) 4, type := 4, pos := _, after := #[{ on := 11, ground := Ground.data }, { on := 16, ground := Ground.data }, { on := 8, ground := Ground.guard }], guard := some (8, true) }) (v := ?_) rfl (by kernel_rfl) (by kernel_rfl) (by kernel_rfl) (fun _ _ _ h => h) (Or.inl ⟨by rfl, ?_⟩) (by exact hHeld) ?_
          rotate_left
          · (intro w hSw; (try dsimp only at hSw); go_simp <;> with_reducible rfl)
          try simp only [Act.put, List.setIfInBounds_toArray, List.set_cons_zero, List.set_cons_succ]
          refine wpAnyH_take (i := 18) (oi := { dst := some 39, op := Op.pick (Operand.tmp 29) (Operand.tmp 38) (Operand.const (Value.bool false)), type := 4, pos := _, after := #[{ on := 8, ground := Ground.data }, { on := 17, ground := Ground.data }], guard := none }) (v := ?_) rfl (by kernel_rfl) (by kernel_rfl) (by kernel_rfl) (fun _ _ _ h => h) (Or.inl ⟨by rfl, ?_⟩) (by exact hHeld) ?_
          rotate_left
          · (intro w hSw; (try dsimp only at hSw); go_simp <;> with_reducible rfl)
          try simp only [Act.put, List.setIfInBounds_toArray, List.set_cons_zero, List.set_cons_succ]
          refine wpAnyH_take (i := 19) (oi := { dst := some 40, op := Op.move (Operand.tmp 39), type := 4, pos := _, after := #[{ on := 18, ground := Ground.data }, { on := 16, ground := Ground.chain }], guard := none }) (v := ?_) rfl (by kernel_rfl) (by kernel_rfl) (by kernel_rfl) (fun _ _ _ h => h) (Or.inl ⟨by rfl, ?_⟩) (by exact hHeld) ?_
          rotate_left
          · (intro w hSw; (try dsimp only at hSw); go_simp <;> with_reducible rfl)
          try simp only [Act.put, List.setIfInBounds_toArray, List.set_cons_zero, List.set_cons_succ]
          refine wpAnyH_take (i := 20) (oi := { dst := some 41, op := Op.fieldAddr 26 (Operand.tmp 5) 4, type := 0, pos := _, after := #[{ on := 19, ground := Ground.guard }], guard := some (19, true) }) (v := ?_) rfl (by kernel_rfl) (by kernel_rfl) (by kernel_rfl) (fun _ _ _ h => h) (Or.inl ⟨by rfl, ?_⟩) (by exact hHeld) ?_
          rotate_left
          · (intro w hSw; (try dsimp only at hSw); go_simp <;> with_reducible rfl)
          try simp only [Act.put, List.setIfInBounds_toArray, List.set_cons_zero, List.set_cons_succ]
          refine wpAnyH_take (i := 21) (oi := { dst := some 42, op := Op.load 24 (Operand.tmp 41), type := 24, pos := _, after := #[{ on := 20, ground := Ground.data }, { on := 19, ground := Ground.guard }], guard := some (19, true) }) (v := ?_) rfl (by kernel_rfl) (by kernel_rfl) (by kernel_rfl) (fun _ _ _ h => h) (Or.inl ⟨by rfl, ?_⟩) (by exact hHeld) ?_
          rotate_left
          · (intro w hSw; (try dsimp only at hSw); go_simp <;> with_reducible rfl)
          try simp only [Act.put, List.setIfInBounds_toArray, List.set_cons_zero, List.set_cons_succ]
          refine wpAnyH_take (i := 22) (oi := { dst := some 43, op := Op.fieldAddr 26 (Operand.tmp 6) 4, type := 0, pos := _, after := #[{ on := 19, ground := Ground.guard }], guard := some (19, true) }) (v := ?_) rfl (by kernel_rfl) (by kernel_rfl) (by kernel_rfl) (fun _ _ _ h => h) (Or.inl ⟨by rfl, ?_⟩) (by exact hHeld) ?_
          rotate_left
          · (intro w hSw; (try dsimp only at hSw); go_simp <;> with_reducible rfl)
          try simp only [Act.put, List.setIfInBounds_toArray, List.set_cons_zero, List.set_cons_succ]
          refine wpAnyH_take (i := 23) (oi := { dst := some 44, op := Op.load 24 (Operand.tmp 43), type := 24, pos := _, after := #[{ on := 22, ground := Ground.data }, { on := 19, ground := Ground.guard }], guard := some (19, true) }) (v := ?_) rfl (by kernel_rfl) (by kernel_rfl) (by kernel_rfl) (fun _ _ _ h => h) (Or.inl ⟨by rfl, ?_⟩) (by exact hHeld) ?_
          rotate_left
          · (intro w hSw; (try dsimp only at hSw); go_simp <;> with_reducible rfl)
          try simp only [Act.put, List.setIfInBounds_toArray, List.set_cons_zero, List.set_cons_succ]
          refine wpAnyH_take (i := 25) (oi := { dst := some 46, op := Op.fieldAddr 26 (Operand.tmp 5) 4, type := 0, pos := _, after := #[{ on := 19, ground := Ground.guard }], guard := some (19, true) }) (v := ?_) rfl (by kernel_rfl) (by kernel_rfl) (by kernel_rfl) (fun _ _ _ h => h) (Or.inl ⟨by rfl, ?_⟩) (by exact hHeld) ?_
          rotate_left
          · (intro w hSw; (try dsimp only at hSw); go_simp <;> with_reducible rfl)
          try simp only [Act.put, List.setIfInBounds_toArray, List.set_cons_zero, List.set_cons_succ]
          refine wpAnyH_take (i := 26) (oi := { dst := some 47, op := Op.load 24 (Operand.tmp 46), type := 24, pos := _, after := #[{ on := 25, ground := Ground.data }, { on := 19, ground := Ground.guard }], guard := some (19, true) }) (v := ?_) rfl (by kernel_rfl) (by kernel_rfl) (by kernel_rfl) (fun _ _ _ h => h) (Or.inl ⟨by rfl, ?_⟩) (by exact hHeld) ?_
          rotate_left
          · (intro w hSw; (try dsimp only at hSw); go_simp <;> with_reducible rfl)
          try simp only [Act.put, List.setIfInBounds_toArray, List.set_cons_zero, List.set_cons_succ]
          refine wpAnyH_take (i := 27) (oi := { dst := some 48, op := Op.fieldAddr 26 (Operand.tmp 6) 4, type := 0, pos := _, after := #[{ on := 19, ground := Ground.guard }], guard := some (19, true) }) (v := ?_) rfl (by kernel_rfl) (by kernel_rfl) (by kernel_rfl) (fun _ _ _ h => h) (Or.inl ⟨by rfl, ?_⟩) (by exact hHeld) ?_
          rotate_left
          · (intro w hSw; (try dsimp only at hSw); go_simp <;> with_reducible rfl)
          try simp only [Act.put, List.setIfInBounds_toArray, List.set_cons_zero, List.set_cons_succ]
          refine wpAnyH_take (i := 28) (oi := { dst := some 49, op := Op.load 24 (Operand.tmp 48), type := 24, pos := _, after := #[{ on := 27, ground := Ground.data }, { on := 19, ground := Ground.guard }], guard := some (19, true) }) (v := ?_) rfl (by kernel_rfl) (by kernel_rfl) (by kernel_rfl) (fun _ _ _ h => h) (Or.inl ⟨by rfl, ?_⟩) (by exact hHeld) ?_
          rotate_left
          · (intro w hSw; (try dsimp only at hSw); go_simp <;> with_reducible rfl)
          try simp only [Act.put, List.setIfInBounds_toArray, List.set_cons_zero, List.set_cons_succ]
          refine wpAnyH_ready (rs := [24]) (by kernel_rfl) (by simp) ?_
          refine AllReadyH.cons (o := { dst := some 45, op := Op.call { callee := Callee.value (Operand.func 14), args := #[Operand.tmp 42, Operand.tmp 44], argTypes := #[24, 24] }, type := 4, pos := _, after := #[{ on := 21, ground := Ground.data }, { on := 23, ground := Ground.data }, { on := 19, ground := Ground.chain }, { on := 19, ground := Ground.guard }], guard := some (19, true) }) rfl (fun K hK => ?_) AllReadyH.nil
          go_simp
          refine (HAL.out _ hB7).1.mono ?_
          rintro x u8 ⟨rfl, hB8⟩
          go_wp2_with fail
          refine hK.out _ _ (HC.out _ (by exact hB8)) (fun hHeld => ?_)
          clear hK K
          try simp only [Act.put, List.setIfInBounds_toArray, List.set_cons_zero, List.set_cons_succ]
          refine wpAnyH_ready (rs := [29]) (by kernel_rfl) (by simp) ?_
          refine AllReadyH.cons (o := { dst := some 50, op := Op.call { callee := Callee.value (Operand.func 20), args := #[Operand.tmp 47, Operand.tmp 49], argTypes := #[24, 24] }, type := 4, pos := _, after := #[{ on := 26, ground := Ground.data }, { on := 28, ground := Ground.data }, { on := 24, ground := Ground.chain }, { on := 19, ground := Ground.guard }], guard := some (19, true) }) rfl (fun K hK => ?_) AllReadyH.nil
          go_simp
          refine (HAL.out _ hB8).2.mono ?_
          rintro x u9 ⟨rfl, hB9⟩
          go_wp2_with fail
          refine hK.out _ _ (HC.out _ (by exact hB9)) (fun hHeld => ?_)
          clear hK K
          try simp only [Act.put, List.setIfInBounds_toArray, List.set_cons_zero, List.set_cons_succ]
          refine wpAnyH_take (i := 30) (oi := { dst := some 51, op := Op.binOp BinOp.eql 4 (Operand.tmp 45) (Operand.tmp 50) 4, type := 4, pos := _, after := #[{ on := 24, ground := Ground.data }, { on := 29, ground := Ground.data }, { on := 19, ground := Ground.guard }], guard := some (19, true) }) (v := ?_) rfl (by kernel_rfl) (by kernel_rfl) (by kernel_rfl) (fun _ _ _ h => h) (Or.inl ⟨by rfl, ?_⟩) (by exact hHeld) ?_
          rotate_left
          · (intro w hSw; (try dsimp only at hSw); go_simp <;> with_reducible rfl)
          try simp only [Act.put, List.setIfInBounds_toArray, List.set_cons_zero, List.set_cons_succ]
          refine wpAnyH_take (i := 31) (oi := { dst := some 52, op := Op.pick (Operand.tmp 40) (Operand.tmp 51) (Operand.const (Value.bool false)), type := 4, pos := _, after := #[{ on := 19, ground := Ground.data }, { on := 30, ground := Ground.data }], guard := none }) (v := ?_) rfl (by kernel_rfl) (by kernel_rfl) (by kernel_rfl) (fun _ _ _ h => h) (Or.inl ⟨by rfl, ?_⟩) (by exact hHeld) ?_
          rotate_left
          · (intro w hSw; (try dsimp only at hSw); go_simp <;> with_reducible rfl)
          try simp only [Act.put, List.setIfInBounds_toArray, List.set_cons_zero, List.set_cons_succ]
          refine wpAnyH_take (i := 32) (oi := { dst := some 53, op := Op.move (Operand.tmp 52), type := 4, pos := _, after := #[{ on := 31, ground := Ground.data }, { on := 29, ground := Ground.chain }], guard := none }) (v := ?_) rfl (by kernel_rfl) (by kernel_rfl) (by kernel_rfl) (fun _ _ _ h => h) (Or.inl ⟨by rfl, ?_⟩) (by exact hHeld) ?_
          rotate_left
          · (intro w hSw; (try dsimp only at hSw); go_simp <;> with_reducible rfl)
          try simp only [Act.put, List.setIfInBounds_toArray, List.set_cons_zero, List.set_cons_succ]
          refine wpAnyH_take (i := 33) (oi := { dst := some 54, op := Op.fieldAddr 26 (Operand.tmp 5) 0, type := 0, pos := _, after := #[{ on := 32, ground := Ground.guard }], guard := some (32, true) }) (v := ?_) rfl (by kernel_rfl) (by kernel_rfl) (by kernel_rfl) (fun _ _ _ h => h) (Or.inl ⟨by rfl, ?_⟩) (by exact hHeld) ?_
          rotate_left
          · (intro w hSw; (try dsimp only at hSw); go_simp <;> with_reducible rfl)
          try simp only [Act.put, List.setIfInBounds_toArray, List.set_cons_zero, List.set_cons_succ]
          refine wpAnyH_take (i := 34) (oi := { dst := some 55, op := Op.load 2 (Operand.tmp 54), type := 2, pos := _, after := #[{ on := 33, ground := Ground.data }, { on := 32, ground := Ground.guard }], guard := some (32, true) }) (v := ?_) rfl (by kernel_rfl) (by kernel_rfl) (by kernel_rfl) (fun _ _ _ h => h) (Or.inl ⟨by rfl, ?_⟩) (by exact hHeld) ?_
          rotate_left
          · (intro w hSw; (try dsimp only at hSw); go_simp <;> with_reducible rfl)
          try simp only [Act.put, List.setIfInBounds_toArray, List.set_cons_zero, List.set_cons_succ]
          refine wpAnyH_take (i := 35) (oi := { dst := some 56, op := Op.move (Operand.tmp 2), type := 23, pos := _, after := #[{ on := 32, ground := Ground.guard }], guard := some (32, true) }) (v := ?_) rfl (by kernel_rfl) (by kernel_rfl) (by kernel_rfl) (fun _ _ _ h => h) (Or.inl ⟨by rfl, ?_⟩) (by exact hHeld) ?_
          rotate_left
          · (intro w hSw; (try dsimp only at hSw); go_simp <;> with_reducible rfl)
          try simp only [Act.put, List.setIfInBounds_toArray, List.set_cons_zero, List.set_cons_succ]
          refine wpAnyH_take (i := 36) (oi := { dst := some 57, op := Op.move (Operand.tmp 3), type := 3, pos := _, after := #[{ on := 32, ground := Ground.guard }], guard := some (32, true) }) (v := ?_) rfl (by kernel_rfl) (by kernel_rfl) (by kernel_rfl) (fun _ _ _ h => h) (Or.inl ⟨by rfl, ?_⟩) (by exact hHeld) ?_
          rotate_left
          · (intro w hSw; (try dsimp only at hSw); go_simp <;> with_reducible rfl)
          try simp only [Act.put, List.setIfInBounds_toArray, List.set_cons_zero, List.set_cons_succ]
          refine wpAnyH_take (i := 37) (oi := { dst := some 58, op := Op.move (Operand.tmp 4), type := 3, pos := _, after := #[{ on := 32, ground := Ground.guard }], guard := some (32, true) }) (v := ?_) rfl (by kernel_rfl) (by kernel_rfl) (by kernel_rfl) (fun _ _ _ h => h) (Or.inl ⟨by rfl, ?_⟩) (by exact hHeld) ?_
          rotate_left
          · (intro w hSw; (try dsimp only at hSw); go_simp <;> with_reducible rfl)
          try simp only [Act.put, List.setIfInBounds_toArray, List.set_cons_zero, List.set_cons_succ]
          refine wpAnyH_take (i := 40) (oi := { dst := some 61, op := Op.fieldAddr 26 (Operand.tmp 5) 0, type := 0, pos := _, after := #[{ on := 32, ground := Ground.guard }], guard := some (32, true) }) (v := ?_) rfl (by kernel_rfl) (by kernel_rfl) (by kernel_rfl) (fun _ _ _ h => h) (Or.inl ⟨by rfl, ?_⟩) (by exact hHeld) ?_
          rotate_left
          · (intro w hSw; (try dsimp only at hSw); go_simp <;> with_reducible rfl)
          try simp only [Act.put, List.setIfInBounds_toArray, List.set_cons_zero, List.set_cons_succ]
          refine wpAnyH_take (i := 41) (oi := { dst := some 62, op := Op.load 2 (Operand.tmp 61), type := 2, pos := _, after := #[{ on := 40, ground := Ground.data }, { on := 32, ground := Ground.guard }], guard := some (32, true) }) (v := ?_) rfl (by kernel_rfl) (by kernel_rfl) (by kernel_rfl) (fun _ _ _ h => h) (Or.inl ⟨by rfl, ?_⟩) (by exact hHeld) ?_
          rotate_left
          · (intro w hSw; (try dsimp only at hSw); go_simp <;> with_reducible rfl)
          try simp only [Act.put, List.setIfInBounds_toArray, List.set_cons_zero, List.set_cons_succ]
          refine wpAnyH_take (i := 42) (oi := { dst := some 63, op := Op.move (Operand.tmp 2), type := 23, pos := _, after := #[{ on := 32, ground := Ground.guard }], guard := some (32, true) }) (v := ?_) rfl (by kernel_rfl) (by kernel_rfl) (by kernel_rfl) (fun _ _ _ h => h) (Or.inl ⟨by rfl, ?_⟩) (by exact hHeld) ?_
          rotate_left
          · (intro w hSw; (try dsimp only at hSw); go_simp <;> with_reducible rfl)
          try simp only [Act.put, List.setIfInBounds_toArray, List.set_cons_zero, List.set_cons_succ]
          refine wpAnyH_take (i := 43) (oi := { dst := some 64, op := Op.move (Operand.tmp 3), type := 3, pos := _, after := #[{ on := 32, ground := Ground.guard }], guard := some (32, true) }) (v := ?_) rfl (by kernel_rfl) (by kernel_rfl) (by kernel_rfl) (fun _ _ _ h => h) (Or.inl ⟨by rfl, ?_⟩) (by exact hHeld) ?_
          rotate_left
          · (intro w hSw; (try dsimp only at hSw); go_simp <;> with_reducible rfl)
          try simp only [Act.put, List.setIfInBounds_toArray, List.set_cons_zero, List.set_cons_succ]
          refine wpAnyH_take (i := 44) (oi := { dst := some 65, op := Op.move (Operand.tmp 4), type := 3, pos := _, after := #[{ on := 32, ground := Ground.guard }], guard := some (32, true) }) (v := ?_) rfl (by kernel_rfl) (by kernel_rfl) (by kernel_rfl) (fun _ _ _ h => h) (Or.inl ⟨by rfl, ?_⟩) (by exact hHeld) ?_
          rotate_left
          · (intro w hSw; (try dsimp only at hSw); go_simp <;> with_reducible rfl)
          try simp only [Act.put, List.setIfInBounds_toArray, List.set_cons_zero, List.set_cons_succ]
          refine wpAnyH_ready (rs := [38]) (by kernel_rfl) (by simp) ?_
          refine AllReadyH.cons (o := { dst := some 59, op := Op.call { callee := Callee.value (Operand.func 13), args := #[Operand.tmp 55, Operand.tmp 56, Operand.tmp 57, Operand.tmp 58], argTypes := #[2, 23, 3, 3] }, type := 26, pos := _, after := #[{ on := 34, ground := Ground.data }, { on := 35, ground := Ground.data }, { on := 36, ground := Ground.data }, { on := 37, ground := Ground.data }, { on := 32, ground := Ground.chain }, { on := 32, ground := Ground.guard }], guard := some (32, true) }) rfl (fun K hK => ?_) AllReadyH.nil
          go_simp
          refine (fail_on (wz := wz) a en pl nn hn1 hn2 _ hB9).mono ?_
          rintro x u10 ⟨a7, c7, rs7, rfl, hf7, hB10⟩
          have HF7 := Lib.hid hf7; clear hf7
          go_wp2_with fail
          refine hK.out _ _ (HC.out _ (by exact hB10)) (fun hHeld => ?_)
          clear hK K
          try simp only [Act.put, List.setIfInBounds_toArray, List.set_cons_zero, List.set_cons_succ]
          refine wpAnyH_ready (rs := [39]) (by kernel_rfl) (by simp) ?_
          refine AllReadyH.cons (o := { dst := some 60, op := Op.call { callee := Callee.value (Operand.func 17), args := #[Operand.tmp 59], argTypes := #[26] }, type := 40, pos := _, after := #[{ on := 38, ground := Ground.data }, { on := 38, ground := Ground.chain }, { on := 32, ground := Ground.guard }], guard := some (32, true) }) rfl (fun K hK => ?_) AllReadyH.nil
          go_simp
          refine (rp_on (wz := wz) a 0 en pl a7 (failN nn) c7 _ hB10).mono ?_
          rintro x u11 ⟨rfl, hB11, hb11⟩
          have HF8 := Lib.hid (HF7.out.later hb11); clear hb11
          go_wp2_with fail
          refine hK.out _ _ (HC.out _ (by exact hB11)) (fun hHeld => ?_)
          clear hK K
          try simp only [Act.put, List.setIfInBounds_toArray, List.set_cons_zero, List.set_cons_succ]
          refine wpAnyH_ready (rs := [45]) (by kernel_rfl) (by simp) ?_
          refine AllReadyH.cons (o := { dst := some 66, op := Op.call { callee := Callee.value (Operand.func 21), args := #[Operand.tmp 62, Operand.tmp 63, Operand.tmp 64, Operand.tmp 65], argTypes := #[2, 23, 3, 3] }, type := 40, pos := _, after := #[{ on := 41, ground := Ground.data }, { on := 42, ground := Ground.data }, { on := 43, ground := Ground.data }, { on := 44, ground := Ground.data }, { on := 39, ground := Ground.chain }, { on := 32, ground := Ground.guard }], guard := some (32, true) }) rfl (fun K hK => ?_) AllReadyH.nil
          go_simp
          refine (rfail_on (wz := wz) a en pl nn hn1 hn2 _ hB11).mono ?_
          rintro x u12 ⟨a8, c8, rs8, rfl, hf9, hB12, hb12⟩
          have HF9 := Lib.hid hf9; have HF10 := Lib.hid (HF8.out.later hb12); clear hb12 hf9
          go_wp2_with fail
          refine hK.out _ _ (HC.out _ (by exact hB12)) (fun hHeld => ?_)
          clear hK K
          try simp only [Act.put, List.setIfInBounds_toArray, List.set_cons_zero, List.set_cons_succ]
          refine wpAnyH_ready (rs := [46]) (by kernel_rfl) (by simp) ?_
          refine AllReadyH.cons (o := { dst := some 67, op := Op.call { callee := Callee.value (Operand.func 19), args := #[Operand.tmp 60, Operand.tmp 66], argTypes := #[40, 40] }, type := 4, pos := _, after := #[{ on := 39, ground := Ground.data }, { on := 45, ground := Ground.data }, { on := 45, ground := Ground.chain }, { on := 32, ground := Ground.guard }], guard := some (32, true) }) rfl (fun K hK => ?_) AllReadyH.nil
          go_simp
          refine (twin_on (wz := wz) _ HF10.out HF9.out (failN_le nn) hB12).mono ?_
          rintro x u13 ⟨rfl, hB13⟩
          go_wp2_with fail
          refine hK.out _ _ (HC.out _ (by exact hB13)) (fun hHeld => ?_)
          clear hK K
          try simp only [Act.put, List.setIfInBounds_toArray, List.set_cons_zero, List.set_cons_succ]
          refine wpAnyH_take (i := 47) (oi := { dst := some 68, op := Op.pick (Operand.tmp 53) (Operand.tmp 67) (Operand.const (Value.bool false)), type := 4, pos := _, after := #[{ on := 32, ground := Ground.data }, { on := 46, ground := Ground.data }], guard := none }) (v := ?_) rfl (by kernel_rfl) (by kernel_rfl) (by kernel_rfl) (fun _ _ _ h => h) (Or.inl ⟨by rfl, ?_⟩) (by exact hHeld) ?_
          rotate_left
          · (intro w hSw; (try dsimp only at hSw); go_simp <;> with_reducible rfl)
          try simp only [Act.put, List.setIfInBounds_toArray, List.set_cons_zero, List.set_cons_succ]
          refine wpAnyH_take (i := 48) (oi := { dst := some 10, op := Op.assign (Operand.tmp 68), type := 4, pos := _, after := #[{ on := 47, ground := Ground.data }, { on := 46, ground := Ground.chain }, { on := 0, ground := Ground.phase }, { on := 1, ground := Ground.phase }, { on := 2, ground := Ground.phase }, { on := 3, ground := Ground.phase }, { on := 4, ground := Ground.phase }, { on := 5, ground := Ground.phase }, { on := 6, ground := Ground.phase }, { on := 7, ground := Ground.phase }, { on := 8, ground := Ground.phase }, { on := 9, ground := Ground.phase }, { on := 10, ground := Ground.phase }, { on := 11, ground := Ground.phase }, { on := 12, ground := Ground.phase }, { on := 13, ground := Ground.phase }, { on := 14, ground := Ground.phase }, { on := 15, ground := Ground.phase }, { on := 16, ground := Ground.phase }, { on := 17, ground := Ground.phase }, { on := 18, ground := Ground.phase }, { on := 19, ground := Ground.phase }, { on := 20, ground := Ground.phase }, { on := 21, ground := Ground.phase }, { on := 22, ground := Ground.phase }, { on := 23, ground := Ground.phase }, { on := 24, ground := Ground.phase }, { on := 25, ground := Ground.phase }, { on := 26, ground := Ground.phase }, { on := 27, ground := Ground.phase }, { on := 28, ground := Ground.phase }, { on := 29, ground := Ground.phase }, { on := 30, ground := Ground.phase }, { on := 31, ground := Ground.phase }, { on := 32, ground := Ground.phase }, { on := 33, ground := Ground.phase }, { on := 34, ground := Ground.phase }, { on := 35, ground := Ground.phase }, { on := 36, ground := Ground.phase }, { on := 37, ground := Ground.phase }, { on := 38, ground := Ground.phase }, { on := 39, ground := Ground.phase }, { on := 40, ground := Ground.phase }, { on := 41, ground := Ground.phase }, { on := 42, ground := Ground.phase }, { on := 43, ground := Ground.phase }, { on := 44, ground := Ground.phase }, { on := 45, ground := Ground.phase }, { on := 46, ground := Ground.phase }, { on := 47, ground := Ground.phase }], guard := none }) (v := ?_) rfl (by kernel_rfl) (by kernel_rfl) (by kernel_rfl) (fun _ _ _ h => h) (Or.inl ⟨by rfl, ?_⟩) (by exact hHeld) ?_
          rotate_left
          · (intro w hSw; (try dsimp only at hSw); go_simp <;> with_reducible rfl)
          try simp only [Act.put, List.setIfInBounds_toArray, List.set_cons_zero, List.set_cons_succ]
          refine wpAnyH_done (by kernel_rfl) ?_ _
          go_wp2_with fail
          go_ret
          exact ⟨rfl, HBZ.out.trans (hB13.mono HBZ.out.size)⟩
        · go_simp
          refine hK.out _ _ (HC.out _ (by exact hB3)) (fun hHeld => ?_)
          clear hK K
          try simp only [Act.put, List.setIfInBounds_toArray, List.set_cons_zero, List.set_cons_succ]
          refine wpAnyH_ready (rs := [2]) (by kernel_rfl) (by simp) ?_
          refine AllReadyH.cons (o := { dst := some 23, op := Op.convert 29 9 (Operand.tmp 22), type := 9, pos := _, after := #[{ on := 1, ground := Ground.data }], guard := none }) rfl (fun K hK => ?_) AllReadyH.nil
          go_simp
          refine hK.out _ _ (HC.out _ (by exact hB3)) (fun hHeld => ?_)
          clear hK K
          try simp only [Act.put, List.setIfInBounds_toArray, List.set_cons_zero, List.set_cons_succ]
          refine wpAnyH_take (i := 7) (oi := { dst := some 28, op := Op.binOp BinOp.eql 9 (Operand.tmp 23) (Operand.tmp 27) 9, type := 4, pos := _, after := #[{ on := 2, ground := Ground.data }, { on := 6, ground := Ground.data }], guard := none }) (v := ?_) rfl (by kernel_rfl) (by kernel_rfl) (by kernel_rfl) (fun _ _ _ h => h) (Or.inl ⟨by rfl, ?_⟩) (by exact hHeld) ?_
          rotate_left
          · (intro w hSw; (try dsimp only at hSw); go_simp <;> with_reducible rfl)
          try simp only [Act.put, List.setIfInBounds_toArray, List.set_cons_zero, List.set_cons_succ]
          refine wpAnyH_take (i := 8) (oi := { dst := some 29, op := Op.move (Operand.tmp 28), type := 4, pos := _, after := #[{ on := 7, ground := Ground.data }, { on := 5, ground := Ground.chain }], guard := none }) (v := ?_) rfl (by kernel_rfl) (by kernel_rfl) (by kernel_rfl) (fun _ _ _ h => h) (Or.inl ⟨by rfl, ?_⟩) (by exact hHeld) ?_
          rotate_left
          · (intro w hSw; (try dsimp only at hSw); go_simp <;> with_reducible rfl)
          try simp only [Act.put, List.setIfInBounds_toArray, List.set_cons_zero, List.set_cons_succ]
          refine wpAnyH_take (i := 9) (oi := { dst := some 30, op := Op.load 26 (Operand.tmp 5), type := 26, pos := _, after := #[{ on := 8, ground := Ground.guard }], guard := some (8, true) }) (v := ?_) rfl (by kernel_rfl) (by kernel_rfl) (by kernel_rfl) (fun _ _ _ h => h) (Or.inl ⟨by rfl, ?_⟩) (by exact hHeld) ?_
          rotate_left
          · (intro w hSw; (try dsimp only at hSw); go_simp <;> with_reducible rfl)
          try simp only [Act.put, List.setIfInBounds_toArray, List.set_cons_zero, List.set_cons_succ]
          refine wpAnyH_take (i := 10) (oi := { dst := some 31, op := Op.load 26 (Operand.tmp 6), type := 26, pos := _, after := #[{ on := 8, ground := Ground.guard }], guard := some (8, true) }) (v := ?_) rfl (by kernel_rfl) (by kernel_rfl) (by kernel_rfl) (fun _ _ _ h => h) (Or.inl ⟨by rfl, ?_⟩) (by exact hHeld) ?_
          rotate_left
          · (intro w hSw; (try dsimp only at hSw); go_simp <;> with_reducible rfl)
          try simp only [Act.put, List.setIfInBounds_toArray, List.set_cons_zero, List.set_cons_succ]
          refine wpAnyH_take (i := 12) (oi := { dst := some 33, op := Op.load 26 (Operand.tmp 5), type := 26, pos := _, after := #[{ on := 8, ground := Ground.guard }], guard := some (8, true) }) (v := ?_) rfl (by kernel_rfl) (by kernel_rfl) (by kernel_rfl) (fun _ _ _ h => h) (Or.inl ⟨by rfl, ?_⟩) (by exact hHeld) ?_
          rotate_left
          · (intro w hSw; (try dsimp only at hSw); go_simp <;> with_reducible rfl)
          try simp only [Act.put, List.setIfInBounds_toArray, List.set_cons_zero, List.set_cons_succ]
          refine wpAnyH_take (i := 14) (oi := { dst := some 35, op := Op.load 26 (Operand.tmp 6), type := 26, pos := _, after := #[{ on := 8, ground := Ground.guard }], guard := some (8, true) }) (v := ?_) rfl (by kernel_rfl) (by kernel_rfl) (by kernel_rfl) (fun _ _ _ h => h) (Or.inl ⟨by rfl, ?_⟩) (by exact hHeld) ?_
          rotate_left
          · (intro w hSw; (try dsimp only at hSw); go_simp <;> with_reducible rfl)
          try simp only [Act.put, List.setIfInBounds_toArray, List.set_cons_zero, List.set_cons_succ]
          refine wpAnyH_ready (rs := [11]) (by kernel_rfl) (by simp) ?_
          refine AllReadyH.cons (o := { dst := some 32, op := Op.call { callee := Callee.value (Operand.func 18), args := #[Operand.tmp 30, Operand.tmp 31], argTypes := #[26, 26] }, type := 4, pos := _, after := #[{ on := 9, ground := Ground.data }, { on := 10, ground := Ground.data }, { on := 8, ground := Ground.chain }, { on := 8, ground := Ground.guard }], guard := some (8, true) }) rfl (fun K hK => ?_) AllReadyH.nil
          go_simp
          refine (HSA.out _ hB3).mono ?_
          rintro x u4 ⟨rfl, hB4⟩
          go_wp2_with fail
          refine hK.out _ _ (HC.out _ (by exact hB4)) (fun hHeld => ?_)
          clear hK K
          try simp only [Act.put, List.setIfInBounds_toArray, List.set_cons_zero, List.set_cons_succ]
          refine wpAnyH_ready (rs := [13]) (by kernel_rfl) (by simp) ?_
          refine AllReadyH.cons (o := { dst := some 34, op := Op.call { callee := Callee.value (Operand.func 17), args := #[Operand.tmp 33], argTypes := #[26] }, type := 40, pos := _, after := #[{ on := 12, ground := Ground.data }, { on := 11, ground := Ground.chain }, { on := 8, ground := Ground.guard }], guard := some (8, true) }) rfl (fun K hK => ?_) AllReadyH.nil
          go_simp
          refine (rp_on (wz := wz) a b c d ao n k0 _ hB4).mono ?_
          rintro x u5 ⟨rfl, hB5, _⟩
          go_wp2_with fail
          refine hK.out _ _ (HC.out _ (by exact hB5)) (fun hHeld => ?_)
          clear hK K
          try simp only [Act.put, List.setIfInBounds_toArray, List.set_cons_zero, List.set_cons_succ]
          refine wpAnyH_ready (rs := [15]) (by kernel_rfl) (by simp) ?_
          refine AllReadyH.cons (o := { dst := some 36, op := Op.call { callee := Callee.value (Operand.func 17), args := #[Operand.tmp 35], argTypes := #[26] }, type := 40, pos := _, after := #[{ on := 14, ground := Ground.data }, { on := 13, ground := Ground.chain }, { on := 8, ground := Ground.guard }], guard := some (8, true) }) rfl (fun K hK => ?_) AllReadyH.nil
          go_simp
          refine (rp_on (wz := wz) e f g i bo q k2 _ hB5).mono ?_
          rintro x u6 ⟨rfl, hB6, _⟩
          go_wp2_with fail
          refine hK.out _ _ (HC.out _ (by exact hB6)) (fun hHeld => ?_)
          clear hK K
          try simp only [Act.put, List.setIfInBounds_toArray, List.set_cons_zero, List.set_cons_succ]
          refine wpAnyH_ready (rs := [16]) (by kernel_rfl) (by simp) ?_
          refine AllReadyH.cons (o := { dst := some 37, op := Op.call { callee := Callee.value (Operand.func 19), args := #[Operand.tmp 34, Operand.tmp 36], argTypes := #[40, 40] }, type := 4, pos := _, after := #[{ on := 13, ground := Ground.data }, { on := 15, ground := Ground.data }, { on := 15, ground := Ground.chain }, { on := 8, ground := Ground.guard }], guard := some (8, true) }) rfl (fun K hK => ?_) AllReadyH.nil
          go_simp
          refine (HRS.out _ hB6).mono ?_
          rintro x u7 ⟨rfl, hB7⟩
          go_wp2_with fail
          refine hK.out _ _ (HC.out _ (by exact hB7)) (fun hHeld => ?_)
          clear hK K
          try simp only [Act.put, List.setIfInBounds_toArray, List.set_cons_zero, List.set_cons_succ]
          refine wpAnyH_take (i := 17) (oi := { dst := some 38, op := Op.binOp BinOp.eql 4 (Operand.tmp 32) (Operand.tmp 37) 4, type := 4, pos := _, after := #[{ on := 11, ground := Ground.data }, { on := 16, ground := Ground.data }, { on := 8, ground := Ground.guard }], guard := some (8, true) }) (v := ?_) rfl (by kernel_rfl) (by kernel_rfl) (by kernel_rfl) (fun _ _ _ h => h) (Or.inl ⟨by rfl, ?_⟩) (by exact hHeld) ?_
          rotate_left
          · (intro w hSw; (try dsimp only at hSw); go_simp <;> with_reducible rfl)
          try simp only [Act.put, List.setIfInBounds_toArray, List.set_cons_zero, List.set_cons_succ]
          refine wpAnyH_take (i := 18) (oi := { dst := some 39, op := Op.pick (Operand.tmp 29) (Operand.tmp 38) (Operand.const (Value.bool false)), type := 4, pos := _, after := #[{ on := 8, ground := Ground.data }, { on := 17, ground := Ground.data }], guard := none }) (v := ?_) rfl (by kernel_rfl) (by kernel_rfl) (by kernel_rfl) (fun _ _ _ h => h) (Or.inl ⟨by rfl, ?_⟩) (by exact hHeld) ?_
          rotate_left
          · (intro w hSw; (try dsimp only at hSw); go_simp <;> with_reducible rfl)
          try simp only [Act.put, List.setIfInBounds_toArray, List.set_cons_zero, List.set_cons_succ]
          refine wpAnyH_take (i := 19) (oi := { dst := some 40, op := Op.move (Operand.tmp 39), type := 4, pos := _, after := #[{ on := 18, ground := Ground.data }, { on := 16, ground := Ground.chain }], guard := none }) (v := ?_) rfl (by kernel_rfl) (by kernel_rfl) (by kernel_rfl) (fun _ _ _ h => h) (Or.inl ⟨by rfl, ?_⟩) (by exact hHeld) ?_
          rotate_left
          · (intro w hSw; (try dsimp only at hSw); go_simp <;> with_reducible rfl)
          try simp only [Act.put, List.setIfInBounds_toArray, List.set_cons_zero, List.set_cons_succ]
          refine wpAnyH_take (i := 20) (oi := { dst := some 41, op := Op.fieldAddr 26 (Operand.tmp 5) 4, type := 0, pos := _, after := #[{ on := 19, ground := Ground.guard }], guard := some (19, true) }) (v := ?_) rfl (by kernel_rfl) (by kernel_rfl) (by kernel_rfl) (fun _ _ _ h => h) (Or.inl ⟨by rfl, ?_⟩) (by exact hHeld) ?_
          rotate_left
          · (intro w hSw; (try dsimp only at hSw); go_simp <;> with_reducible rfl)
          try simp only [Act.put, List.setIfInBounds_toArray, List.set_cons_zero, List.set_cons_succ]
          refine wpAnyH_take (i := 21) (oi := { dst := some 42, op := Op.load 24 (Operand.tmp 41), type := 24, pos := _, after := #[{ on := 20, ground := Ground.data }, { on := 19, ground := Ground.guard }], guard := some (19, true) }) (v := ?_) rfl (by kernel_rfl) (by kernel_rfl) (by kernel_rfl) (fun _ _ _ h => h) (Or.inl ⟨by rfl, ?_⟩) (by exact hHeld) ?_
          rotate_left
          · (intro w hSw; (try dsimp only at hSw); go_simp <;> with_reducible rfl)
          try simp only [Act.put, List.setIfInBounds_toArray, List.set_cons_zero, List.set_cons_succ]
          refine wpAnyH_take (i := 22) (oi := { dst := some 43, op := Op.fieldAddr 26 (Operand.tmp 6) 4, type := 0, pos := _, after := #[{ on := 19, ground := Ground.guard }], guard := some (19, true) }) (v := ?_) rfl (by kernel_rfl) (by kernel_rfl) (by kernel_rfl) (fun _ _ _ h => h) (Or.inl ⟨by rfl, ?_⟩) (by exact hHeld) ?_
          rotate_left
          · (intro w hSw; (try dsimp only at hSw); go_simp <;> with_reducible rfl)
          try simp only [Act.put, List.setIfInBounds_toArray, List.set_cons_zero, List.set_cons_succ]
          refine wpAnyH_take (i := 23) (oi := { dst := some 44, op := Op.load 24 (Operand.tmp 43), type := 24, pos := _, after := #[{ on := 22, ground := Ground.data }, { on := 19, ground := Ground.guard }], guard := some (19, true) }) (v := ?_) rfl (by kernel_rfl) (by kernel_rfl) (by kernel_rfl) (fun _ _ _ h => h) (Or.inl ⟨by rfl, ?_⟩) (by exact hHeld) ?_
          rotate_left
          · (intro w hSw; (try dsimp only at hSw); go_simp <;> with_reducible rfl)
          try simp only [Act.put, List.setIfInBounds_toArray, List.set_cons_zero, List.set_cons_succ]
          refine wpAnyH_take (i := 25) (oi := { dst := some 46, op := Op.fieldAddr 26 (Operand.tmp 5) 4, type := 0, pos := _, after := #[{ on := 19, ground := Ground.guard }], guard := some (19, true) }) (v := ?_) rfl (by kernel_rfl) (by kernel_rfl) (by kernel_rfl) (fun _ _ _ h => h) (Or.inl ⟨by rfl, ?_⟩) (by exact hHeld) ?_
          rotate_left
          · (intro w hSw; (try dsimp only at hSw); go_simp <;> with_reducible rfl)
          try simp only [Act.put, List.setIfInBounds_toArray, List.set_cons_zero, List.set_cons_succ]
          refine wpAnyH_take (i := 26) (oi := { dst := some 47, op := Op.load 24 (Operand.tmp 46), type := 24, pos := _, after := #[{ on := 25, ground := Ground.data }, { on := 19, ground := Ground.guard }], guard := some (19, true) }) (v := ?_) rfl (by kernel_rfl) (by kernel_rfl) (by kernel_rfl) (fun _ _ _ h => h) (Or.inl ⟨by rfl, ?_⟩) (by exact hHeld) ?_
          rotate_left
          · (intro w hSw; (try dsimp only at hSw); go_simp <;> with_reducible rfl)
          try simp only [Act.put, List.setIfInBounds_toArray, List.set_cons_zero, List.set_cons_succ]
          refine wpAnyH_take (i := 27) (oi := { dst := some 48, op := Op.fieldAddr 26 (Operand.tmp 6) 4, type := 0, pos := _, after := #[{ on := 19, ground := Ground.guard }], guard := some (19, true) }) (v := ?_) rfl (by kernel_rfl) (by kernel_rfl) (by kernel_rfl) (fun _ _ _ h => h) (Or.inl ⟨by rfl, ?_⟩) (by exact hHeld) ?_
          rotate_left
          · (intro w hSw; (try dsimp only at hSw); go_simp <;> with_reducible rfl)
          try simp only [Act.put, List.setIfInBounds_toArray, List.set_cons_zero, List.set_cons_succ]
          refine wpAnyH_take (i := 28) (oi := { dst := some 49, op := Op.load 24 (Operand.tmp 48), type := 24, pos := _, after := #[{ on := 27, ground := Ground.data }, { on := 19, ground := Ground.guard }], guard := some (19, true) }) (v := ?_) rfl (by kernel_rfl) (by kernel_rfl) (by kernel_rfl) (fun _ _ _ h => h) (Or.inl ⟨by rfl, ?_⟩) (by exact hHeld) ?_
          rotate_left
          · (intro w hSw; (try dsimp only at hSw); go_simp <;> with_reducible rfl)
          try simp only [Act.put, List.setIfInBounds_toArray, List.set_cons_zero, List.set_cons_succ]
          refine wpAnyH_ready (rs := [24]) (by kernel_rfl) (by simp) ?_
          refine AllReadyH.cons (o := { dst := some 45, op := Op.call { callee := Callee.value (Operand.func 14), args := #[Operand.tmp 42, Operand.tmp 44], argTypes := #[24, 24] }, type := 4, pos := _, after := #[{ on := 21, ground := Ground.data }, { on := 23, ground := Ground.data }, { on := 19, ground := Ground.chain }, { on := 19, ground := Ground.guard }], guard := some (19, true) }) rfl (fun K hK => ?_) AllReadyH.nil
          go_simp
          refine (HAL.out _ hB7).1.mono ?_
          rintro x u8 ⟨rfl, hB8⟩
          go_wp2_with fail
          refine hK.out _ _ (HC.out _ (by exact hB8)) (fun hHeld => ?_)
          clear hK K
          try simp only [Act.put, List.setIfInBounds_toArray, List.set_cons_zero, List.set_cons_succ]
          refine wpAnyH_ready (rs := [29]) (by kernel_rfl) (by simp) ?_
          refine AllReadyH.cons (o := { dst := some 50, op := Op.call { callee := Callee.value (Operand.func 20), args := #[Operand.tmp 47, Operand.tmp 49], argTypes := #[24, 24] }, type := 4, pos := _, after := #[{ on := 26, ground := Ground.data }, { on := 28, ground := Ground.data }, { on := 24, ground := Ground.chain }, { on := 19, ground := Ground.guard }], guard := some (19, true) }) rfl (fun K hK => ?_) AllReadyH.nil
          go_simp
          refine (HAL.out _ hB8).2.mono ?_
          rintro x u9 ⟨rfl, hB9⟩
          go_wp2_with fail
          refine hK.out _ _ (HC.out _ (by exact hB9)) (fun hHeld => ?_)
          clear hK K
          try simp only [Act.put, List.setIfInBounds_toArray, List.set_cons_zero, List.set_cons_succ]
          refine wpAnyH_take (i := 30) (oi := { dst := some 51, op := Op.binOp BinOp.eql 4 (Operand.tmp 45) (Operand.tmp 50) 4, type := 4, pos := _, after := #[{ on := 24, ground := Ground.data }, { on := 29, ground := Ground.data }, { on := 19, ground := Ground.guard }], guard := some (19, true) }) (v := ?_) rfl (by kernel_rfl) (by kernel_rfl) (by kernel_rfl) (fun _ _ _ h => h) (Or.inl ⟨by rfl, ?_⟩) (by exact hHeld) ?_
          rotate_left
          · (intro w hSw; (try dsimp only at hSw); go_simp <;> with_reducible rfl)
          try simp only [Act.put, List.setIfInBounds_toArray, List.set_cons_zero, List.set_cons_succ]
          refine wpAnyH_take (i := 31) (oi := { dst := some 52, op := Op.pick (Operand.tmp 40) (Operand.tmp 51) (Operand.const (Value.bool false)), type := 4, pos := _, after := #[{ on := 19, ground := Ground.data }, { on := 30, ground := Ground.data }], guard := none }) (v := ?_) rfl (by kernel_rfl) (by kernel_rfl) (by kernel_rfl) (fun _ _ _ h => h) (Or.inl ⟨by rfl, ?_⟩) (by exact hHeld) ?_
          rotate_left
          · (intro w hSw; (try dsimp only at hSw); go_simp <;> with_reducible rfl)
          try simp only [Act.put, List.setIfInBounds_toArray, List.set_cons_zero, List.set_cons_succ]
          refine wpAnyH_take (i := 32) (oi := { dst := some 53, op := Op.move (Operand.tmp 52), type := 4, pos := _, after := #[{ on := 31, ground := Ground.data }, { on := 29, ground := Ground.chain }], guard := none }) (v := ?_) rfl (by kernel_rfl) (by kernel_rfl) (by kernel_rfl) (fun _ _ _ h => h) (Or.inl ⟨by rfl, ?_⟩) (by exact hHeld) ?_
          rotate_left
          · (intro w hSw; (try dsimp only at hSw); go_simp <;> with_reducible rfl)
          try simp only [Act.put, List.setIfInBounds_toArray, List.set_cons_zero, List.set_cons_succ]
          refine wpAnyH_take (i := 33) (oi := { dst := some 54, op := Op.fieldAddr 26 (Operand.tmp 5) 0, type := 0, pos := _, after := #[{ on := 32, ground := Ground.guard }], guard := some (32, true) }) (v := ?_) rfl (by kernel_rfl) (by kernel_rfl) (by kernel_rfl) (fun _ _ _ h => h) (Or.inl ⟨by rfl, ?_⟩) (by exact hHeld) ?_
          rotate_left
          · (intro w hSw; (try dsimp only at hSw); go_simp <;> with_reducible rfl)
          try simp only [Act.put, List.setIfInBounds_toArray, List.set_cons_zero, List.set_cons_succ]
          refine wpAnyH_take (i := 34) (oi := { dst := some 55, op := Op.load 2 (Operand.tmp 54), type := 2, pos := _, after := #[{ on := 33, ground := Ground.data }, { on := 32, ground := Ground.guard }], guard := some (32, true) }) (v := ?_) rfl (by kernel_rfl) (by kernel_rfl) (by kernel_rfl) (fun _ _ _ h => h) (Or.inl ⟨by rfl, ?_⟩) (by exact hHeld) ?_
          rotate_left
          · (intro w hSw; (try dsimp only at hSw); go_simp <;> with_reducible rfl)
          try simp only [Act.put, List.setIfInBounds_toArray, List.set_cons_zero, List.set_cons_succ]
          refine wpAnyH_take (i := 35) (oi := { dst := some 56, op := Op.move (Operand.tmp 2), type := 23, pos := _, after := #[{ on := 32, ground := Ground.guard }], guard := some (32, true) }) (v := ?_) rfl (by kernel_rfl) (by kernel_rfl) (by kernel_rfl) (fun _ _ _ h => h) (Or.inl ⟨by rfl, ?_⟩) (by exact hHeld) ?_
          rotate_left
          · (intro w hSw; (try dsimp only at hSw); go_simp <;> with_reducible rfl)
          try simp only [Act.put, List.setIfInBounds_toArray, List.set_cons_zero, List.set_cons_succ]
          refine wpAnyH_take (i := 36) (oi := { dst := some 57, op := Op.move (Operand.tmp 3), type := 3, pos := _, after := #[{ on := 32, ground := Ground.guard }], guard := some (32, true) }) (v := ?_) rfl (by kernel_rfl) (by kernel_rfl) (by kernel_rfl) (fun _ _ _ h => h) (Or.inl ⟨by rfl, ?_⟩) (by exact hHeld) ?_
          rotate_left
          · (intro w hSw; (try dsimp only at hSw); go_simp <;> with_reducible rfl)
          try simp only [Act.put, List.setIfInBounds_toArray, List.set_cons_zero, List.set_cons_succ]
          refine wpAnyH_take (i := 37) (oi := { dst := some 58, op := Op.move (Operand.tmp 4), type := 3, pos := _, after := #[{ on := 32, ground := Ground.guard }], guard := some (32, true) }) (v := ?_) rfl (by kernel_rfl) (by kernel_rfl) (by kernel_rfl) (fun _ _ _ h => h) (Or.inl ⟨by rfl, ?_⟩) (by exact hHeld) ?_
          rotate_left
          · (intro w hSw; (try dsimp only at hSw); go_simp <;> with_reducible rfl)
          try simp only [Act.put, List.setIfInBounds_toArray, List.set_cons_zero, List.set_cons_succ]
          refine wpAnyH_take (i := 40) (oi := { dst := some 61, op := Op.fieldAddr 26 (Operand.tmp 5) 0, type := 0, pos := _, after := #[{ on := 32, ground := Ground.guard }], guard := some (32, true) }) (v := ?_) rfl (by kernel_rfl) (by kernel_rfl) (by kernel_rfl) (fun _ _ _ h => h) (Or.inl ⟨by rfl, ?_⟩) (by exact hHeld) ?_
          rotate_left
          · (intro w hSw; (try dsimp only at hSw); go_simp <;> with_reducible rfl)
          try simp only [Act.put, List.setIfInBounds_toArray, List.set_cons_zero, List.set_cons_succ]
          refine wpAnyH_take (i := 41) (oi := { dst := some 62, op := Op.load 2 (Operand.tmp 61), type := 2, pos := _, after := #[{ on := 40, ground := Ground.data }, { on := 32, ground := Ground.guard }], guard := some (32, true) }) (v := ?_) rfl (by kernel_rfl) (by kernel_rfl) (by kernel_rfl) (fun _ _ _ h => h) (Or.inl ⟨by rfl, ?_⟩) (by exact hHeld) ?_
          rotate_left
          · (intro w hSw; (try dsimp only at hSw); go_simp <;> with_reducible rfl)
          try simp only [Act.put, List.setIfInBounds_toArray, List.set_cons_zero, List.set_cons_succ]
          refine wpAnyH_take (i := 42) (oi := { dst := some 63, op := Op.move (Operand.tmp 2), type := 23, pos := _, after := #[{ on := 32, ground := Ground.guard }], guard := some (32, true) }) (v := ?_) rfl (by kernel_rfl) (by kernel_rfl) (by kernel_rfl) (fun _ _ _ h => h) (Or.inl ⟨by rfl, ?_⟩) (by exact hHeld) ?_
          rotate_left
          · (intro w hSw; (try dsimp only at hSw); go_simp <;> with_reducible rfl)
          try simp only [Act.put, List.setIfInBounds_toArray, List.set_cons_zero, List.set_cons_succ]
          refine wpAnyH_take (i := 43) (oi := { dst := some 64, op := Op.move (Operand.tmp 3), type := 3, pos := _, after := #[{ on := 32, ground := Ground.guard }], guard := some (32, true) }) (v := ?_) rfl (by kernel_rfl) (by kernel_rfl) (by kernel_rfl) (fun _ _ _ h => h) (Or.inl ⟨by rfl, ?_⟩) (by exact hHeld) ?_
          rotate_left
          · (intro w hSw; (try dsimp only at hSw); go_simp <;> with_reducible rfl)
          try simp only [Act.put, List.setIfInBounds_toArray, List.set_cons_zero, List.set_cons_succ]
          refine wpAnyH_take (i := 44) (oi := { dst := some 65, op := Op.move (Operand.tmp 4), type := 3, pos := _, after := #[{ on := 32, ground := Ground.guard }], guard := some (32, true) }) (v := ?_) rfl (by kernel_rfl) (by kernel_rfl) (by kernel_rfl) (fun _ _ _ h => h) (Or.inl ⟨by rfl, ?_⟩) (by exact hHeld) ?_
          rotate_left
          · (intro w hSw; (try dsimp only at hSw); go_simp <;> with_reducible rfl)
          try simp only [Act.put, List.setIfInBounds_toArray, List.set_cons_zero, List.set_cons_succ]
          refine wpAnyH_ready (rs := [38]) (by kernel_rfl) (by simp) ?_
          refine AllReadyH.cons (o := { dst := some 59, op := Op.call { callee := Callee.value (Operand.func 13), args := #[Operand.tmp 55, Operand.tmp 56, Operand.tmp 57, Operand.tmp 58], argTypes := #[2, 23, 3, 3] }, type := 26, pos := _, after := #[{ on := 34, ground := Ground.data }, { on := 35, ground := Ground.data }, { on := 36, ground := Ground.data }, { on := 37, ground := Ground.data }, { on := 32, ground := Ground.chain }, { on := 32, ground := Ground.guard }], guard := some (32, true) }) rfl (fun K hK => ?_) AllReadyH.nil
          go_simp
          refine (fail_on (wz := wz) a en pl nn hn1 hn2 _ hB9).mono ?_
          rintro x u10 ⟨a7, c7, rs7, rfl, hf7, hB10⟩
          have HF7 := Lib.hid hf7; clear hf7
          go_wp2_with fail
          refine hK.out _ _ (HC.out _ (by exact hB10)) (fun hHeld => ?_)
          clear hK K
          try simp only [Act.put, List.setIfInBounds_toArray, List.set_cons_zero, List.set_cons_succ]
          refine wpAnyH_ready (rs := [39]) (by kernel_rfl) (by simp) ?_
          refine AllReadyH.cons (o := { dst := some 60, op := Op.call { callee := Callee.value (Operand.func 17), args := #[Operand.tmp 59], argTypes := #[26] }, type := 40, pos := _, after := #[{ on := 38, ground := Ground.data }, { on := 38, ground := Ground.chain }, { on := 32, ground := Ground.guard }], guard := some (32, true) }) rfl (fun K hK => ?_) AllReadyH.nil
          go_simp
          refine (rp_on (wz := wz) a 0 en pl a7 (failN nn) c7 _ hB10).mono ?_
          rintro x u11 ⟨rfl, hB11, hb11⟩
          have HF8 := Lib.hid (HF7.out.later hb11); clear hb11
          go_wp2_with fail
          refine hK.out _ _ (HC.out _ (by exact hB11)) (fun hHeld => ?_)
          clear hK K
          try simp only [Act.put, List.setIfInBounds_toArray, List.set_cons_zero, List.set_cons_succ]
          refine wpAnyH_ready (rs := [45]) (by kernel_rfl) (by simp) ?_
          refine AllReadyH.cons (o := { dst := some 66, op := Op.call { callee := Callee.value (Operand.func 21), args := #[Operand.tmp 62, Operand.tmp 63, Operand.tmp 64, Operand.tmp 65], argTypes := #[2, 23, 3, 3] }, type := 40, pos := _, after := #[{ on := 41, ground := Ground.data }, { on := 42, ground := Ground.data }, { on := 43, ground := Ground.data }, { on := 44, ground := Ground.data }, { on := 39, ground := Ground.chain }, { on := 32, ground := Ground.guard }], guard := some (32, true) }) rfl (fun K hK => ?_) AllReadyH.nil
          go_simp
          refine (rfail_on (wz := wz) a en pl nn hn1 hn2 _ hB11).mono ?_
          rintro x u12 ⟨a8, c8, rs8, rfl, hf9, hB12, hb12⟩
          have HF9 := Lib.hid hf9; have HF10 := Lib.hid (HF8.out.later hb12); clear hb12 hf9
          go_wp2_with fail
          refine hK.out _ _ (HC.out _ (by exact hB12)) (fun hHeld => ?_)
          clear hK K
          try simp only [Act.put, List.setIfInBounds_toArray, List.set_cons_zero, List.set_cons_succ]
          refine wpAnyH_ready (rs := [46]) (by kernel_rfl) (by simp) ?_
          refine AllReadyH.cons (o := { dst := some 67, op := Op.call { callee := Callee.value (Operand.func 19), args := #[Operand.tmp 60, Operand.tmp 66], argTypes := #[40, 40] }, type := 4, pos := _, after := #[{ on := 39, ground := Ground.data }, { on := 45, ground := Ground.data }, { on := 45, ground := Ground.chain }, { on := 32, ground := Ground.guard }], guard := some (32, true) }) rfl (fun K hK => ?_) AllReadyH.nil
          go_simp
          refine (twin_on (wz := wz) _ HF10.out HF9.out (failN_le nn) hB12).mono ?_
          rintro x u13 ⟨rfl, hB13⟩
          go_wp2_with fail
          refine hK.out _ _ (HC.out _ (by exact hB13)) (fun hHeld => ?_)
          clear hK K
          try simp only [Act.put, List.setIfInBounds_toArray, List.set_cons_zero, List.set_cons_succ]
          refine wpAnyH_take (i := 47) (oi := { dst := some 68, op := Op.pick (Operand.tmp 53) (Operand.tmp 67) (Operand.const (Value.bool false)), type := 4, pos := _, after := #[{ on := 32, ground := Ground.data }, { on := 46, ground := Ground.data }], guard := none }) (v := ?_) rfl (by kernel_rfl) (by kernel_rfl) (by kernel_rfl) (fun _ _ _ h => h) (Or.inl ⟨by rfl, ?_⟩) (by exact hHeld) ?_
          rotate_left
          · (intro w hSw; (try dsimp only at hSw); go_simp <;> with_reducible rfl)
          try simp only [Act.put, List.setIfInBounds_toArray, List.set_cons_zero, List.set_cons_succ]
          refine wpAnyH_take (i := 48) (oi := { dst := some 10, op := Op.assign (Operand.tmp 68), type := 4, pos := _, after := #[{ on := 47, ground := Ground.data }, { on := 46, ground := Ground.chain }, { on := 0, ground := Ground.phase }, { on := 1, ground := Ground.phase }, { on := 2, ground := Ground.phase }, { on := 3, ground := Ground.phase }, { on := 4, ground := Ground.phase }, { on := 5, ground := Ground.phase }, { on := 6, ground := Ground.phase }, { on := 7, ground := Ground.phase }, { on := 8, ground := Ground.phase }, { on := 9, ground := Ground.phase }, { on := 10, ground := Ground.phase }, { on := 11, ground := Ground.phase }, { on := 12, ground := Ground.phase }, { on := 13, ground := Ground.phase }, { on := 14, ground := Ground.phase }, { on := 15, ground := Ground.phase }, { on := 16, ground := Ground.phase }, { on := 17, ground := Ground.phase }, { on := 18, ground := Ground.phase }, { on := 19, ground := Ground.phase }, { on := 20, ground := Ground.phase }, { on := 21, ground := Ground.phase }, { on := 22, ground := Ground.phase }, { on := 23, ground := Ground.phase }, { on := 24, ground := Ground.phase }, { on := 25, ground := Ground.phase }, { on := 26, ground := Ground.phase }, { on := 27, ground := Ground.phase }, { on := 28, ground := Ground.phase }, { on := 29, ground := Ground.phase }, { on := 30, ground := Ground.phase }, { on := 31, ground := Ground.phase }, { on := 32, ground := Ground.phase }, { on := 33, ground := Ground.phase }, { on := 34, ground := Ground.phase }, { on := 35, ground := Ground.phase }, { on := 36, ground := Ground.phase }, { on := 37, ground := Ground.phase }, { on := 38, ground := Ground.phase }, { on := 39, ground := Ground.phase }, { on := 40, ground := Ground.phase }, { on := 41, ground := Ground.phase }, { on := 42, ground := Ground.phase }, { on := 43, ground := Ground.phase }, { on := 44, ground := Ground.phase }, { on := 45, ground := Ground.phase }, { on := 46, ground := Ground.phase }, { on := 47, ground := Ground.phase }], guard := none }) (v := ?_) rfl (by kernel_rfl) (by kernel_rfl) (by kernel_rfl) (fun _ _ _ h => h) (Or.inl ⟨by rfl, ?_⟩) (by exact hHeld) ?_
          rotate_left
          · (intro w hSw; (try dsimp only at hSw); go_simp <;> with_reducible rfl)
          try simp only [Act.put, List.setIfInBounds_toArray, List.set_cons_zero, List.set_cons_succ]
          refine wpAnyH_done (by kernel_rfl) ?_ _
          go_wp2_with fail
          go_ret
          exact ⟨rfl, HBZ.out.trans (hB13.mono HBZ.out.size)⟩
theorem says_said (a b c d : Int) (ao : Option Addr) (n k0 : Nat) (l : List (Re × Value)) (e f g i : Int) (bo : Option Addr) (q k2 : Nat) (m : List (Re × Value)) (en pl nn : Int) (w : World) (h : IsRes w ao n l) (hn : n ≤ 140737488355328) (_ : ∀ x ∈ resL l, IntR x)
    (_ : In64 a) (_ : In64 b) (_ : In64 c) (_ : In64 d) (h2 : IsRes w bo q m) (hq : q ≤ 140737488355328) (_ : ∀ x ∈ resL m, IntR x) (_ : In64 e) (_ : In64 f) (_ : In64 g) (_ : In64 i)
    (_ : (Lit.int .i64 en).wf = true) (_ : (Lit.int .i64 pl).wf = true) (hnn : (Lit.int .i64 nn).wf = true) :
    Calls Try.prog 4 #[aggP a b c d (.slice ao n k0), aggP e f g i (.slice bo q k2), .int .i64 en, .int .i64 pl, .int .i64 nn] w fun x w' => x = .returned (.bool true) ∧ Below w.heap.size w w' :=
  says_walk a b c d ao n k0 l e f g i bo q k2 m en pl nn w h hn h2 hq (lit_i64' hnn)
end Go.Proofs.Ytpikdeikcmdcmaa
