/-
  Results are alike just if there are as many, and each is: the walk. No condition.
-/
import Derived.Test.YtpikdeikcmdcmaaRowA
import Derived.Deep.RegionHeld3
namespace Go.Proofs.Ytpikdeikcmdcmaa
open Go.RowKit
theorem xor_one_ne (v : Int) (h : In64 v) : bits .xor .i64 v 1 ≠ v := by
  intro e
  have h1 : bits .xor .i64 v 1 = IntKind.i64.wrap ((BitVec.ofInt 64 v ^^^ BitVec.ofInt 64 1).toNat : Int) := rfl
  rw [h1] at e
  have h2 := toNat_ofInt64 v
  have h3 := (BitVec.ofInt 64 v ^^^ BitVec.ofInt 64 1).isLt
  have h4 : (BitVec.ofInt 64 v).toNat = (BitVec.ofInt 64 v ^^^ BitVec.ofInt 64 1).toNat := by
    generalize (BitVec.ofInt 64 v ^^^ BitVec.ofInt 64 1).toNat = n at *
    generalize (BitVec.ofInt 64 v).toNat = q at *
    simp only [IntKind.wrap, IntKind.bits, IntKind.signed] at e
    simp at e
    split at e <;> omega
  have h5 : BitVec.ofInt 64 v = BitVec.ofInt 64 v ^^^ BitVec.ofInt 64 1 := BitVec.eq_of_toNat_eq h4
  have h6 : BitVec.ofInt 64 v ^^^ BitVec.ofInt 64 v = BitVec.ofInt 64 v ^^^ (BitVec.ofInt 64 v ^^^ BitVec.ofInt 64 1) := by rw [← h5]
  rw [← BitVec.xor_assoc, BitVec.xor_self, BitVec.zero_xor] at h6
  exact absurd h6 (by decide)
theorem row_some {w : World} {base : Nat} {a : Option Addr} {n c : Nat} {xs : List Value} (h : w.ownsRow base 35 11 (.slice a n c) n xs) (hn : 0 < n) : ∃ g, a = some ⟨g, 0, none⟩ := by
  rcases h.2 with ⟨e, h0⟩ | ⟨g, cap, cur, e, _⟩
  · omega
  · simp only [Value.slice.injEq] at e
    exact ⟨g, e.1⟩
theorem more_ne (l : List (Re × Value)) (p : Re × Value) : decide (resL l = resL (l ++ [p])) = false := by
  refine decide_eq_false fun e => ?_
  have := congrArg List.length e
  simp [resL] at this
theorem more_ne' (l : List (Re × Value)) (p : Re × Value) : decide (resL (l ++ [p]) = resL l) = false := by
  refine decide_eq_false fun e => ?_
  have := congrArg List.length e
  simp [resL] at this
theorem set_ne (l : List (Re × Value)) (i : Nat) (x : Re) (v : Value) (hx : l[i]? = some (x, v)) (z : Int) (hz : z ≠ x.version) : decide (resL l = resL (l.set i (setV x z, v))) = false := by
  obtain ⟨hi, _⟩ := List.getElem?_eq_some_iff.1 hx
  refine decide_eq_false fun e => ?_
  have h1 := congrArg (fun q => q[i]?) e
  simp only [resL, List.getElem?_map, hx, List.getElem?_set_self hi, Option.map_some, Option.some.injEq] at h1
  have h2 := congrArg Re.version h1
  exact hz (by simpa [setV] using h2.symm)
theorem alike_on {wz : World} {ao bo : Option Addr} {n k q k2 : Nat} {l m : List (Re × Value)} (W : World) (h1 : IsRes W ao n l) (h2 : IsRes W bo q m) (hn : n ≤ 1000000) (hq : q ≤ 1000000) (z : Bool) (hz : decide (resL l = resL m) = z) (hb : Below wz.heap.size wz W) :
    Calls Try.prog 14 #[.slice ao n k, .slice bo q k2] W fun x w' => x = .returned (.bool z) ∧ Below wz.heap.size wz w' ∧ Below W.heap.size W w' := by
  refine (alikeL_any ao n k l bo q k2 m W h1 h2 hn hq).mono ?_
  rintro x w' ⟨rfl, h⟩
  exact ⟨by rw [hz], hb.trans (h.mono hb.size), h⟩

set_option maxHeartbeats 16000000 in
set_option maxRecDepth 100000 in
theorem alikew_walk (ao : Option Addr) (n c : Nat) (l : List (Re × Value)) (place : Int) (x : Re) (u : Value) (w : World) (h : IsRes w ao n l) (hn : n ≤ 140737488355328) (hnc : ao = none → c = 0) (hint : ∀ y ∈ resL l, IntR y)
    (hp : In64 place) (hu : NamesAt w u x.names) :
    Calls Try.prog 9 #[.slice ao n c, .int .i64 place, aggR x u] w fun e w' => e = .returned (.bool true) ∧ Below w.heap.size w w' := by
  have HU := Lib.hid hu
  obtain ⟨va, vn, vc, rfl, _, _⟩ := hu
  obtain ⟨hp1, hp2⟩ := hp
  have HNC := Lib.hid hnc; have HINT := Lib.hid hint
  clear hnc hint
  obtain ⟨xe, xp, xd, xn, xa, xb, xc, xg, xh, xi, xj⟩ := x
  simp only [aggR]
  go_enter Try.func9, Try.ntmps9
  go_wp2_with fail
  have hb0 : Below w.heap.size w (w.alloc (.cells #[.int .i64 xe, .string xp, .string xd, .slice va vn vc, .int .i64 xa, .int .i64 xb, .int .i64 xc, .int .i64 xg, .int .i64 xh, .int .i64 xi, .int .i64 xj] 35)) := (Below.refl _ _).alloc (Nat.le_refl _) _
  have hx0 : (w.alloc (.cells #[.int .i64 xe, .string xp, .string xd, .slice va vn vc, .int .i64 xa, .int .i64 xb, .int .i64 xc, .int .i64 xg, .int .i64 xh, .int .i64 xi, .int .i64 xj] 35)).heap[w.heap.size]? = some (.cells #[.int .i64 xe, .string xp, .string xd, .slice va vn vc, .int .i64 xa, .int .i64 xb, .int .i64 xc, .int .i64 xg, .int .i64 xh, .int .i64 xi, .int .i64 xj] 35 (0, 0)) := heap_new _ _
  have h0 := h.below hb0
  have hv0 := HU.out.below hb0
  generalize (w.alloc (.cells #[.int .i64 xe, .string xp, .string xd, .slice va vn vc, .int .i64 xa, .int .i64 xb, .int .i64 xc, .int .i64 xg, .int .i64 xh, .int .i64 xi, .int .i64 xj] 35)) = w0 at *
  refine (awake_any w0).mono ?_
  rintro e w1 ⟨rfl, hb1⟩
  have HX1 := Lib.hid (heap_below hb1 (lt_of_heap hx0) hx0)
  have HB1 := Lib.hid (hb0.trans (hb1.mono hb0.size))
  have H1 := Lib.hid (h0.below hb1)
  have HV1 := Lib.hid (hv0.below hb1)
  clear hb0 hx0 h0 h hb1 hv0
  go_wp2_with fail
  refine (heavy_any ao n c l w1 H1.out hn).mono ?_
  rintro e w2 ⟨hv, rfl, hlight, hb2⟩
  have HX2 := Lib.hid (heap_below hb2 (lt_of_heap HX1.out) HX1.out)
  have HB2 := Lib.hid (HB1.out.trans (hb2.mono HB1.out.size))
  have H2 := Lib.hid (H1.out.below hb2)
  have HV2 := Lib.hid (HV1.out.below hb2)
  clear hb2
  cases hv with
  | true =>
    clear hlight
    go_wp2_with fail
    go_ret
    exact ⟨rfl, HB2.out⟩
  | false =>
  obtain ⟨hn20, hlt⟩ := hlight rfl
  clear hlight hlt
  have q0 : w2.cell? ⟨w.heap.size, 0, none⟩ = some (.int .i64 xe) := by rw [cell_heap HX2.out]; rfl
  have q1 : w2.cell? ⟨w.heap.size, 1, none⟩ = some (.string xp) := by rw [cell_heap HX2.out]; rfl
  have q2 : w2.cell? ⟨w.heap.size, 2, none⟩ = some (.string xd) := by rw [cell_heap HX2.out]; rfl
  have q3 : w2.cell? ⟨w.heap.size, 3, none⟩ = some (.slice va vn vc) := by rw [cell_heap HX2.out]; rfl
  have q4 : w2.cell? ⟨w.heap.size, 4, none⟩ = some (.int .i64 xa) := by rw [cell_heap HX2.out]; rfl
  have q5 : w2.cell? ⟨w.heap.size, 5, none⟩ = some (.int .i64 xb) := by rw [cell_heap HX2.out]; rfl
  have q6 : w2.cell? ⟨w.heap.size, 6, none⟩ = some (.int .i64 xc) := by rw [cell_heap HX2.out]; rfl
  have q7 : w2.cell? ⟨w.heap.size, 7, none⟩ = some (.int .i64 xg) := by rw [cell_heap HX2.out]; rfl
  have q8 : w2.cell? ⟨w.heap.size, 8, none⟩ = some (.int .i64 xh) := by rw [cell_heap HX2.out]; rfl
  have q9 : w2.cell? ⟨w.heap.size, 9, none⟩ = some (.int .i64 xi) := by rw [cell_heap HX2.out]; rfl
  have q10 : w2.cell? ⟨w.heap.size, 10, none⟩ = some (.int .i64 xj) := by rw [cell_heap HX2.out]; rfl
  go_wp2_with fail
  have HB3 := Lib.hid (HB2.out.alloc HB2.out.size (.cells #[.int .i64 xe, .string xp, .string xd, .slice va vn vc, .int .i64 xa, .int .i64 xb, .int .i64 xc, .int .i64 xg, .int .i64 xh, .int .i64 xi, .int .i64 xj] 35))
  have i3 := isRes_one w2 ⟨xe, xp, xd, xn, xa, xb, xc, xg, xh, xi, xj⟩ (.slice va vn vc) w2.heap.size rfl HV2.out
  have HX3 := Lib.hid (heap_old HX2.out (.cells #[.int .i64 xe, .string xp, .string xd, .slice va vn vc, .int .i64 xa, .int .i64 xb, .int .i64 xc, .int .i64 xg, .int .i64 xh, .int .i64 xi, .int .i64 xj] 35))
  have H3 := Lib.hid (H2.out.below (w' := w2.alloc (.cells #[.int .i64 xe, .string xp, .string xd, .slice va vn vc, .int .i64 xa, .int .i64 xb, .int .i64 xc, .int .i64 xg, .int .i64 xh, .int .i64 xi, .int .i64 xj] 35)) ((Below.refl _ _).alloc (Nat.le_refl _) _))
  have HV3 := Lib.hid (HV2.out.below (w' := w2.alloc (.cells #[.int .i64 xe, .string xp, .string xd, .slice va vn vc, .int .i64 xa, .int .i64 xb, .int .i64 xc, .int .i64 xg, .int .i64 xh, .int .i64 xi, .int .i64 xj] 35)) ((Below.refl _ _).alloc (Nat.le_refl _) _))
  have I3 : IsRes (w2.alloc (.cells #[.int .i64 xe, .string xp, .string xd, .slice va vn vc, .int .i64 xa, .int .i64 xb, .int .i64 xc, .int .i64 xg, .int .i64 xh, .int .i64 xi, .int .i64 xj] 35)) (some ⟨w2.heap.size, 0, none⟩) 1 _ := i3
  generalize (w2.alloc (.cells #[.int .i64 xe, .string xp, .string xd, .slice va vn vc, .int .i64 xa, .int .i64 xb, .int .i64 xc, .int .i64 xg, .int .i64 xh, .int .i64 xi, .int .i64 xj] 35)) = w3 at *
  clear i3
  refine (heavy_any (some ⟨w2.heap.size, 0, none⟩) 1 1 _ w3 I3 (by omega)).mono ?_
  rintro e wz ⟨hv, rfl, hlight, hb4⟩
  have HXZ := Lib.hid (heap_below hb4 (lt_of_heap HX3.out) HX3.out)
  have HBZ := Lib.hid (HB3.out.trans (hb4.mono HB3.out.size))
  have HL := Lib.hid (H3.out.below hb4)
  have HV := Lib.hid (HV3.out.below hb4)
  clear hb4 hlight I3
  clear q0 q1 q2 q3 q4 q5 q6 q7 q8 q9 q10
  cases hv with
  | true =>
    go_wp2_with fail
    go_ret
    exact ⟨rfl, HBZ.out⟩
  | false =>
  by_cases h15 : 15 < n
  · have g1 : decide ((15 : Int) < (n : Int)) = true := by simp; omega
    go_wp2_with fail
    go_ret
    exact ⟨rfl, HBZ.out⟩
  · have g1 : decide ((15 : Int) < (n : Int)) = false := by simp; omega
    go_wp2_with fail
    have HC := Lib.hid (show ∀ W, Below wz.heap.size wz W → (fun w' => w'.cell? ⟨w.heap.size, 0, none⟩ = some (.int .i64 xe) ∧ w'.cell? ⟨w.heap.size, 1, none⟩ = some (.string xp) ∧ w'.cell? ⟨w.heap.size, 2, none⟩ = some (.string xd) ∧ w'.cell? ⟨w.heap.size, 3, none⟩ = some (.slice va vn vc) ∧ w'.cell? ⟨w.heap.size, 4, none⟩ = some (.int .i64 xa) ∧ w'.cell? ⟨w.heap.size, 5, none⟩ = some (.int .i64 xb) ∧ w'.cell? ⟨w.heap.size, 6, none⟩ = some (.int .i64 xc) ∧ w'.cell? ⟨w.heap.size, 7, none⟩ = some (.int .i64 xg) ∧ w'.cell? ⟨w.heap.size, 8, none⟩ = some (.int .i64 xh) ∧ w'.cell? ⟨w.heap.size, 9, none⟩ = some (.int .i64 xi) ∧ w'.cell? ⟨w.heap.size, 10, none⟩ = some (.int .i64 xj)) W from fun W hbW => by
      have k2 := heap_below hbW (lt_of_heap HXZ.out) HXZ.out
      refine ⟨?_, ?_, ?_, ?_, ?_, ?_, ?_, ?_, ?_, ?_, ?_⟩ <;> (rw [cell_heap k2]; rfl))
    refine wp_region_held_drew (S := fun w' => w'.cell? ⟨w.heap.size, 0, none⟩ = some (.int .i64 xe) ∧ w'.cell? ⟨w.heap.size, 1, none⟩ = some (.string xp) ∧ w'.cell? ⟨w.heap.size, 2, none⟩ = some (.string xd) ∧ w'.cell? ⟨w.heap.size, 3, none⟩ = some (.slice va vn vc) ∧ w'.cell? ⟨w.heap.size, 4, none⟩ = some (.int .i64 xa) ∧ w'.cell? ⟨w.heap.size, 5, none⟩ = some (.int .i64 xb) ∧ w'.cell? ⟨w.heap.size, 6, none⟩ = some (.int .i64 xc) ∧ w'.cell? ⟨w.heap.size, 7, none⟩ = some (.int .i64 xg) ∧ w'.cell? ⟨w.heap.size, 8, none⟩ = some (.int .i64 xh) ∧ w'.cell? ⟨w.heap.size, 9, none⟩ = some (.int .i64 xi) ∧ w'.cell? ⟨w.heap.size, 10, none⟩ = some (.int .i64 xj)) (by kernel_rfl) (HC.out _ (below_drew (Below.refl wz.heap.size wz) 1)) (fun hHeld => ?_)
    refine wpAnyH_take (i := 1) (oi := { dst := some 24, op := Op.move (Operand.tmp 0), type := 24, pos := _, after := #[], guard := none }) (v := ?_) rfl (by kernel_rfl) (by kernel_rfl) (by kernel_rfl) (fun _ _ _ h => h) (Or.inl ⟨by rfl, ?_⟩) (by exact hHeld) ?_
    rotate_left
    · (intro w hSw; (try dsimp only at hSw); go_simp <;> with_reducible rfl)
    try simp only [Act.put, List.setIfInBounds_toArray, List.set_cons_zero, List.set_cons_succ]
    refine wpAnyH_take (i := 3) (oi := { dst := some 26, op := Op.load 35 (Operand.tmp 5), type := 35, pos := _, after := #[], guard := none }) (v := ?_) rfl (by kernel_rfl) (by kernel_rfl) (by kernel_rfl) (fun _ _ _ h => h) (Or.inl ⟨by rfl, ?_⟩) (by exact hHeld) ?_
    rotate_left
    · (intro w hSw; (try dsimp only at hSw); go_simp <;> with_reducible rfl)
    try simp only [Act.put, List.setIfInBounds_toArray, List.set_cons_zero, List.set_cons_succ]
    refine wpAnyH_ready (rs := [0, 4]) (by kernel_rfl) (by simp) ?_
    refine AllReadyH.cons (o := { dst := some 23, op := Op.buildSlice 24 0 #[], type := 24, pos := _, after := #[], guard := none }) rfl (fun K hK => ?_) (AllReadyH.cons (o := { dst := some 27, op := Op.buildSlice 24 1 #[(0, Operand.tmp 26)], type := 24, pos := _, after := #[{ on := 3, ground := Ground.data }], guard := none }) rfl (fun K hK => ?_) AllReadyH.nil)
    · go_simp
      refine hK.out _ _ (HC.out _ (by exact (below_drew (Below.refl wz.heap.size wz) 1).alloc (by exact Nat.le_refl _) (.cells #[] 35))) (fun hHeld => ?_)
      clear hK K
      try simp only [Act.put, List.setIfInBounds_toArray, List.set_cons_zero, List.set_cons_succ]
      refine wpAnyH_ready (rs := [2, 4]) (by kernel_rfl) (by simp) ?_
      refine AllReadyH.cons (o := { dst := some 25, op := Op.call { callee := Callee.builtin Builtin.append, args := #[Operand.tmp 23, Operand.tmp 24], argTypes := #[24, 24] }, type := 24, pos := _, after := #[{ on := 0, ground := Ground.data }, { on := 1, ground := Ground.data }], guard := none }) rfl (fun K hK => ?_) (AllReadyH.cons (o := { dst := some 27, op := Op.buildSlice 24 1 #[(0, Operand.tmp 26)], type := 24, pos := _, after := #[{ on := 3, ground := Ground.data }], guard := none }) rfl (fun K hK => ?_) AllReadyH.nil)
      · refine wanted_step rfl (wp_append_rowR (.tmp 23) (.tmp 24) rfl wz.heap.size (.slice (some ⟨wz.heap.size, 0, none⟩) 0 0) [] 0 rfl (by rfl) (by exact row_made wz.drew wz.heap.size wz.heap.size rfl (Nat.le_refl _)) ao n c l (by rfl) HNC.out (by exact HL.out.below ((below_drew (Below.refl wz.heap.size wz) 1).alloc (by exact Nat.le_refl _) (.cells #[] 35))) (by omega) (by first | (simp; done) | (simp; omega)) ?_)
        intro a6 c6 u6 ho6 hb6 hg6
        simp only [Nat.zero_add, List.nil_append] at ho6 ⊢
        have HO6 := Lib.hid ho6; have HB6 := Lib.hid hb6; have HG6 := Lib.hid hg6
        have hB6 : Below wz.heap.size wz u6 := ((below_drew (Below.refl wz.heap.size wz) 1).alloc (by exact Nat.le_refl _) (.cells #[] 35)).trans (hb6.mono (by omega))
        have HBB6 := Lib.hid hB6
        clear ho6 hb6 hg6
        refine hK.out _ _ (HC.out _ (by exact HBB6.out)) (fun hHeld => ?_)
        clear hK K
        try simp only [Act.put, List.setIfInBounds_toArray, List.set_cons_zero, List.set_cons_succ]
        refine wpAnyH_ready (rs := [4]) (by kernel_rfl) (by simp) ?_
        refine AllReadyH.cons (o := { dst := some 27, op := Op.buildSlice 24 1 #[(0, Operand.tmp 26)], type := 24, pos := _, after := #[{ on := 3, ground := Ground.data }], guard := none }) rfl (fun K hK => ?_) AllReadyH.nil
        go_simp
        refine hK.out _ _ (HC.out _ (by exact HBB6.out.alloc HBB6.out.size (.cells #[.int .i64 xe, .string xp, .string xd, .slice va vn vc, .int .i64 xa, .int .i64 xb, .int .i64 xc, .int .i64 xg, .int .i64 xh, .int .i64 xi, .int .i64 xj] 35))) (fun hHeld => ?_)
        clear hK K
        try simp only [Act.put, List.setIfInBounds_toArray, List.set_cons_zero, List.set_cons_succ]
        refine wpAnyH_ready (rs := [5]) (by kernel_rfl) (by simp) ?_
        refine AllReadyH.cons (o := { dst := some 28, op := Op.call { callee := Callee.builtin Builtin.append, args := #[Operand.tmp 25, Operand.tmp 27], argTypes := #[24, 24] }, type := 24, pos := _, after := #[{ on := 2, ground := Ground.data }, { on := 4, ground := Ground.data }, { on := 2, ground := Ground.chain }], guard := none }) rfl (fun K hK => ?_) AllReadyH.nil
        refine wanted_step rfl (wp_append_rowR (.tmp 25) (.tmp 27) rfl wz.heap.size _ l n HL.out.len (by rfl) (by exact rows_below HO6.out ((Below.refl _ _).alloc (Nat.le_refl _) _)) _ 1 1 [(⟨xe, xp, xd, xn, xa, xb, xc, xg, xh, xi, xj⟩, .slice va vn vc)] (by rfl) (fun h => by cases h) (by exact isRes_one u6 ⟨xe, xp, xd, xn, xa, xb, xc, xg, xh, xi, xj⟩ _ u6.heap.size rfl (HV.out.below HBB6.out)) (by omega) (by simp; have := HBB6.out.size; omega) ?_)
        intro a7 c7 u7 ho7 hb7 _
        have hB7 : Below wz.heap.size wz u7 := (HBB6.out.alloc HBB6.out.size (.cells #[.int .i64 xe, .string xp, .string xd, .slice va vn vc, .int .i64 xa, .int .i64 xb, .int .i64 xc, .int .i64 xg, .int .i64 xh, .int .i64 xi, .int .i64 xj] 35)).trans (hb7.mono (by omega))
        obtain ⟨a8, c8, e8, hi8⟩ := isRes_of_row (l := l ++ [(⟨xe, xp, xd, xn, xa, xb, xc, xg, xh, xi, xj⟩, .slice va vn vc)]) (by simp only [List.length_append, List.length_cons, List.length_nil, Nat.zero_add, HL.out.len]; exact ho7) (by intro p hp; rcases List.mem_append.1 hp with hp | hp; exact ((HL.out.names p hp).below hB7); obtain rfl := List.mem_singleton.1 hp; exact HV.out.below hB7)
        simp only [List.length_append, List.length_cons, List.length_nil, Nat.zero_add, HL.out.len] at e8 hi8
        simp only [Value.slice.injEq] at e8
        obtain ⟨rfl, -, rfl⟩ := e8
        have HMU := Lib.hid hi8; have HBU := Lib.hid hB7
        clear ho7 hb7 hi8
        refine hK.out _ _ (HC.out _ (by exact HBU.out)) (fun hHeld => ?_)
        clear hK K
        try simp only [Act.put, List.setIfInBounds_toArray, List.set_cons_zero, List.set_cons_succ]
        refine wpAnyH_take (i := 6) (oi := { dst := some 7, op := Op.assign (Operand.tmp 28), type := 24, pos := _, after := #[{ on := 5, ground := Ground.data }, { on := 5, ground := Ground.chain }, { on := 0, ground := Ground.phase }, { on := 1, ground := Ground.phase }, { on := 2, ground := Ground.phase }, { on := 3, ground := Ground.phase }, { on := 4, ground := Ground.phase }, { on := 5, ground := Ground.phase }], guard := none }) (v := ?_) rfl (by kernel_rfl) (by kernel_rfl) (by kernel_rfl) (fun _ _ _ h => h) (Or.inl ⟨by rfl, ?_⟩) (by exact hHeld) ?_
        rotate_left
        · (intro w hSw; (try dsimp only at hSw); go_simp <;> with_reducible rfl)
        try simp only [Act.put, List.setIfInBounds_toArray, List.set_cons_zero, List.set_cons_succ]
        refine wpAnyH_done (by kernel_rfl) ?_ _
        go_wp2_with fail
        refine (alike_on (wz := wz) u7 (HL.out.below HBU.out) (HL.out.below HBU.out) (by omega) (by omega) true (by simp) HBU.out).mono ?_
        rintro y v1 ⟨rfl, hv1, hw1⟩
        have HV1 := Lib.hid hv1; have HM1 := Lib.hid (HMU.out.below hw1)
        clear hv1 hw1
        go_wp2_with fail
        refine (alike_on (wz := wz) v1 (HL.out.below HV1.out) HM1.out (by omega) (by omega) false (more_ne _ _) HV1.out).mono ?_
        rintro y v2 ⟨rfl, hv2, hw2⟩
        have HV2 := Lib.hid hv2; have HM2 := Lib.hid (HM1.out.below hw2)
        clear hv2 hw2
        go_wp2_with fail
        refine (alike_on (wz := wz) v2 HM2.out (HL.out.below HV2.out) (by omega) (by omega) false (more_ne' _ _) HV2.out).mono ?_
        rintro y v3 ⟨rfl, hv3, hw3⟩
        have HV3 := Lib.hid hv3
        clear hv3 hw3
        by_cases hp0 : place < 0
        · have g2 : decide (place < 0) = true := by simpa using hp0
          go_wp2_with fail
          go_ret
          exact ⟨rfl, HBZ.out.trans (HV3.out.mono HBZ.out.size)⟩
        · have g2 : decide (place < 0) = false := by simpa using hp0
          obtain ⟨k, rfl⟩ := Int.eq_ofNat_of_zero_le (show 0 ≤ place by omega)
          by_cases hkn : n ≤ k
          · have g3 : decide ((n : Int) ≤ (k : Int)) = true := by simp; omega
            go_wp2_with fail
            go_ret
            exact ⟨rfl, HBZ.out.trans (HV3.out.mono HBZ.out.size)⟩
          · have g3 : decide ((n : Int) ≤ (k : Int)) = false := by simp; omega
            have hlk : ∃ y v, l[k]? = some (y, v) := by
              have := HL.out.len
              exact ⟨_, _, List.getElem?_eq_getElem (by omega)⟩
            obtain ⟨y, yv, hyk⟩ := hlk
            have HYK := Lib.hid hyk
            have hver : (rowR l)[k * 11 + 6]? = some (.int .i64 y.version) := by
              have hkl := (List.getElem?_eq_some_iff.1 hyk).1
              rw [rowR_at l k 6 hkl (by omega)]
              rw [List.getD_eq_getElem?_getD, hyk]; rfl
            have HVER := Lib.hid hver
            have hyi : In64 y.version := (HINT.out y (by rw [resL]; exact List.mem_map.2 ⟨_, List.mem_of_getElem? hyk, rfl⟩)).version
            have HXO := Lib.hid (xor_one_ne y.version hyi)
            clear hyk hver hyi
            have HR0 := Lib.hid (row_made v3 v3.heap.size v3.heap.size rfl (Nat.le_refl _))
            have HL3 := Lib.hid ((HL.out.below HV3.out).below (w' := v3.alloc (.cells #[] 35)) ((Below.refl _ _).alloc (Nat.le_refl _) _))
            go_wp2_with (at_builtin; refine wpList_plain rfl fun _ hK => wp_append_rowR (.tmp 51) (.tmp 52) rfl v3.heap.size _ [] 0 rfl (by rfl) HR0.out ao n c l (by rfl) HNC.out HL3.out (by omega) (by simp) (fun a9 c9 u9 ho9 hb9 hg9 => hK _ _ ?_); simp only [Nat.zero_add, List.nil_append] at ho9 ⊢; obtain ⟨g9, rfl⟩ := row_some ho9 (by omega); have hc96 := (World.ownsRow.cellAt ho9 (k * 11 + 6) (by omega)).trans HVER.out; have hf96 := World.ownsRow.frozenAt ho9 (k * 11 + 6); have HO9 := Lib.hid ho9; have HB9 := Lib.hid hb9; have HG9 := Lib.hid hg9; clear ho9 hb9 hg9)
            have hst := World.ownsRow.stored HO9.out (k * 11 + 6) (.int .i64 (bits .xor .i64 y.version 1))
            have hB9 : Below wz.heap.size wz u9 := (HV3.out.alloc HV3.out.size (.cells #[] 35)).trans (HB9.out.mono HV3.out.size)
            have hg9 := (rows_block HO9.out (j := g9) rfl).1
            have hB10 : Below wz.heap.size wz (u9.setCell ⟨g9, k * 11 + 6, none⟩ (.int .i64 (bits .xor .i64 y.version 1))) := hB9.grown hst.2 hB9.size (fun j hj => by cases hj; exact Nat.le_trans HV3.out.size hg9)
            have hkl := (List.getElem?_eq_some_iff.1 HYK.out).1
            obtain ⟨hst1, _⟩ := hst
            rw [← rowR_set l k hkl y yv HYK.out] at hst1
            obtain ⟨a10, c10, e10, hi10⟩ := isRes_of_row (l := l.set k (setV y (bits .xor .i64 y.version 1), yv)) (by rw [List.length_set, HL.out.len]; exact hst1) (by
              intro p hp
              rcases List.mem_or_eq_of_mem_set hp with hp | rfl
              · exact (HL.out.names p hp).below hB10
              · exact (HL.out.names (y, yv) (List.mem_of_getElem? HYK.out)).below hB10)
            rw [List.length_set, HL.out.len] at e10 hi10
            simp only [Value.slice.injEq] at e10
            obtain ⟨rfl, -, rfl⟩ := e10
            have HSN := Lib.hid (set_ne l k y yv HYK.out _ HXO.out)
            rw [show k * 11 + 4 + 2 = k * 11 + 6 from rfl]
            generalize (u9.setCell ⟨g9, k * 11 + 6, none⟩ (.int .i64 (bits .xor .i64 y.version 1))) = v9 at *
            clear hst1
            refine (alike_on (wz := wz) v9 (HL.out.below hB10) hi10 (by omega) (by omega) false HSN.out hB10).mono ?_
            rintro y' v4 ⟨rfl, hv4, _⟩
            have HV4 := Lib.hid hv4
            clear hv4 hB10 hi10 hB9
            go_wp2_with fail
            go_ret
            exact ⟨rfl, HBZ.out.trans (HV4.out.mono HBZ.out.size)⟩
      · go_simp
        refine hK.out _ _ (HC.out _ (by exact ((below_drew (Below.refl wz.heap.size wz) 1).alloc (by exact Nat.le_refl _) (.cells #[] 35)).alloc (by simp) (.cells #[.int .i64 xe, .string xp, .string xd, .slice va vn vc, .int .i64 xa, .int .i64 xb, .int .i64 xc, .int .i64 xg, .int .i64 xh, .int .i64 xi, .int .i64 xj] 35))) (fun hHeld => ?_)
        clear hK K
        try simp only [Act.put, List.setIfInBounds_toArray, List.set_cons_zero, List.set_cons_succ]
        refine wpAnyH_ready (rs := [2]) (by kernel_rfl) (by simp) ?_
        refine AllReadyH.cons (o := { dst := some 25, op := Op.call { callee := Callee.builtin Builtin.append, args := #[Operand.tmp 23, Operand.tmp 24], argTypes := #[24, 24] }, type := 24, pos := _, after := #[{ on := 0, ground := Ground.data }, { on := 1, ground := Ground.data }], guard := none }) rfl (fun K hK => ?_) AllReadyH.nil
        refine wanted_step rfl (wp_append_rowR (.tmp 23) (.tmp 24) rfl wz.heap.size (.slice (some ⟨wz.heap.size, 0, none⟩) 0 0) [] 0 rfl (by rfl) (by exact rows_below (row_made wz.drew wz.heap.size wz.heap.size rfl (Nat.le_refl _)) ((Below.refl _ _).alloc (Nat.le_refl _) _)) ao n c l (by rfl) HNC.out (by exact HL.out.below (((below_drew (Below.refl wz.heap.size wz) 1).alloc (by exact Nat.le_refl _) (.cells #[] 35)).alloc (by simp) (.cells #[.int .i64 xe, .string xp, .string xd, .slice va vn vc, .int .i64 xa, .int .i64 xb, .int .i64 xc, .int .i64 xg, .int .i64 xh, .int .i64 xi, .int .i64 xj] 35))) (by omega) (by first | (simp; done) | (simp; omega)) ?_)
        intro a6 c6 u6 ho6 hb6 hg6
        simp only [Nat.zero_add, List.nil_append] at ho6 ⊢
        have HO6 := Lib.hid ho6; have HB6 := Lib.hid hb6; have HG6 := Lib.hid hg6
        have hB6 : Below wz.heap.size wz u6 := (((below_drew (Below.refl wz.heap.size wz) 1).alloc (by exact Nat.le_refl _) (.cells #[] 35)).alloc (by simp) (.cells #[.int .i64 xe, .string xp, .string xd, .slice va vn vc, .int .i64 xa, .int .i64 xb, .int .i64 xc, .int .i64 xg, .int .i64 xh, .int .i64 xi, .int .i64 xj] 35)).trans (hb6.mono (by omega))
        have HBB6 := Lib.hid hB6
        clear ho6 hb6 hg6
        have hz6 : u6.heap[wz.heap.size + 1]? = some (.cells (cellsR ⟨xe, xp, xd, xn, xa, xb, xc, xg, xh, xi, xj⟩ (.slice va vn vc)).toArray 35 (0, 0)) := (HG6.out.block _ (by simp) (by simp [Value.ownBlock])).trans (heap_alloc2_new wz.drew _ _)
        have HZ6 := Lib.hid hz6; clear hz6
        refine hK.out _ _ (HC.out _ (by exact HBB6.out)) (fun hHeld => ?_)
        clear hK K
        try simp only [Act.put, List.setIfInBounds_toArray, List.set_cons_zero, List.set_cons_succ]
        refine wpAnyH_ready (rs := [5]) (by kernel_rfl) (by simp) ?_
        refine AllReadyH.cons (o := { dst := some 28, op := Op.call { callee := Callee.builtin Builtin.append, args := #[Operand.tmp 25, Operand.tmp 27], argTypes := #[24, 24] }, type := 24, pos := _, after := #[{ on := 2, ground := Ground.data }, { on := 4, ground := Ground.data }, { on := 2, ground := Ground.chain }], guard := none }) rfl (fun K hK => ?_) AllReadyH.nil
        refine wanted_step rfl (wp_append_rowR (.tmp 25) (.tmp 27) rfl wz.heap.size _ l n HL.out.len (by rfl) (by exact HO6.out) _ 1 1 [(⟨xe, xp, xd, xn, xa, xb, xc, xg, xh, xi, xj⟩, .slice va vn vc)] (by rfl) (fun h => by cases h) (by exact isRes_at HZ6.out (HV.out.below HBB6.out)) (by omega) (HBB6.out.size) ?_)
        intro a7 c7 u7 ho7 hb7 _
        have hB7 : Below wz.heap.size wz u7 := (HBB6.out).trans (hb7.mono (by omega))
        obtain ⟨a8, c8, e8, hi8⟩ := isRes_of_row (l := l ++ [(⟨xe, xp, xd, xn, xa, xb, xc, xg, xh, xi, xj⟩, .slice va vn vc)]) (by simp only [List.length_append, List.length_cons, List.length_nil, Nat.zero_add, HL.out.len]; exact ho7) (by intro p hp; rcases List.mem_append.1 hp with hp | hp; exact ((HL.out.names p hp).below hB7); obtain rfl := List.mem_singleton.1 hp; exact HV.out.below hB7)
        simp only [List.length_append, List.length_cons, List.length_nil, Nat.zero_add, HL.out.len] at e8 hi8
        simp only [Value.slice.injEq] at e8
        obtain ⟨rfl, -, rfl⟩ := e8
        have HMU := Lib.hid hi8; have HBU := Lib.hid hB7
        clear ho7 hb7 hi8
        refine hK.out _ _ (HC.out _ (by exact HBU.out)) (fun hHeld => ?_)
        clear hK K
        try simp only [Act.put, List.setIfInBounds_toArray, List.set_cons_zero, List.set_cons_succ]
        refine wpAnyH_take (i := 6) (oi := { dst := some 7, op := Op.assign (Operand.tmp 28), type := 24, pos := _, after := #[{ on := 5, ground := Ground.data }, { on := 5, ground := Ground.chain }, { on := 0, ground := Ground.phase }, { on := 1, ground := Ground.phase }, { on := 2, ground := Ground.phase }, { on := 3, ground := Ground.phase }, { on := 4, ground := Ground.phase }, { on := 5, ground := Ground.phase }], guard := none }) (v := ?_) rfl (by kernel_rfl) (by kernel_rfl) (by kernel_rfl) (fun _ _ _ h => h) (Or.inl ⟨by rfl, ?_⟩) (by exact hHeld) ?_
        rotate_left
        · (intro w hSw; (try dsimp only at hSw); go_simp <;> with_reducible rfl)
        try simp only [Act.put, List.setIfInBounds_toArray, List.set_cons_zero, List.set_cons_succ]
        refine wpAnyH_done (by kernel_rfl) ?_ _
        go_wp2_with fail
        refine (alike_on (wz := wz) u7 (HL.out.below HBU.out) (HL.out.below HBU.out) (by omega) (by omega) true (by simp) HBU.out).mono ?_
        rintro y v1 ⟨rfl, hv1, hw1⟩
        have HV1 := Lib.hid hv1; have HM1 := Lib.hid (HMU.out.below hw1)
        clear hv1 hw1
        go_wp2_with fail
        refine (alike_on (wz := wz) v1 (HL.out.below HV1.out) HM1.out (by omega) (by omega) false (more_ne _ _) HV1.out).mono ?_
        rintro y v2 ⟨rfl, hv2, hw2⟩
        have HV2 := Lib.hid hv2; have HM2 := Lib.hid (HM1.out.below hw2)
        clear hv2 hw2
        go_wp2_with fail
        refine (alike_on (wz := wz) v2 HM2.out (HL.out.below HV2.out) (by omega) (by omega) false (more_ne' _ _) HV2.out).mono ?_
        rintro y v3 ⟨rfl, hv3, hw3⟩
        have HV3 := Lib.hid hv3
        clear hv3 hw3
        by_cases hp0 : place < 0
        · have g2 : decide (place < 0) = true := by simpa using hp0
          go_wp2_with fail
          go_ret
          exact ⟨rfl, HBZ.out.trans (HV3.out.mono HBZ.out.size)⟩
        · have g2 : decide (place < 0) = false := by simpa using hp0
          obtain ⟨k, rfl⟩ := Int.eq_ofNat_of_zero_le (show 0 ≤ place by omega)
          by_cases hkn : n ≤ k
          · have g3 : decide ((n : Int) ≤ (k : Int)) = true := by simp; omega
            go_wp2_with fail
            go_ret
            exact ⟨rfl, HBZ.out.trans (HV3.out.mono HBZ.out.size)⟩
          · have g3 : decide ((n : Int) ≤ (k : Int)) = false := by simp; omega
            have hlk : ∃ y v, l[k]? = some (y, v) := by
              have := HL.out.len
              exact ⟨_, _, List.getElem?_eq_getElem (by omega)⟩
            obtain ⟨y, yv, hyk⟩ := hlk
            have HYK := Lib.hid hyk
            have hver : (rowR l)[k * 11 + 6]? = some (.int .i64 y.version) := by
              have hkl := (List.getElem?_eq_some_iff.1 hyk).1
              rw [rowR_at l k 6 hkl (by omega)]
              rw [List.getD_eq_getElem?_getD, hyk]; rfl
            have HVER := Lib.hid hver
            have hyi : In64 y.version := (HINT.out y (by rw [resL]; exact List.mem_map.2 ⟨_, List.mem_of_getElem? hyk, rfl⟩)).version
            have HXO := Lib.hid (xor_one_ne y.version hyi)
            clear hyk hver hyi
            have HR0 := Lib.hid (row_made v3 v3.heap.size v3.heap.size rfl (Nat.le_refl _))
            have HL3 := Lib.hid ((HL.out.below HV3.out).below (w' := v3.alloc (.cells #[] 35)) ((Below.refl _ _).alloc (Nat.le_refl _) _))
            go_wp2_with (at_builtin; refine wpList_plain rfl fun _ hK => wp_append_rowR (.tmp 51) (.tmp 52) rfl v3.heap.size _ [] 0 rfl (by rfl) HR0.out ao n c l (by rfl) HNC.out HL3.out (by omega) (by simp) (fun a9 c9 u9 ho9 hb9 hg9 => hK _ _ ?_); simp only [Nat.zero_add, List.nil_append] at ho9 ⊢; obtain ⟨g9, rfl⟩ := row_some ho9 (by omega); have hc96 := (World.ownsRow.cellAt ho9 (k * 11 + 6) (by omega)).trans HVER.out; have hf96 := World.ownsRow.frozenAt ho9 (k * 11 + 6); have HO9 := Lib.hid ho9; have HB9 := Lib.hid hb9; have HG9 := Lib.hid hg9; clear ho9 hb9 hg9)
            have hst := World.ownsRow.stored HO9.out (k * 11 + 6) (.int .i64 (bits .xor .i64 y.version 1))
            have hB9 : Below wz.heap.size wz u9 := (HV3.out.alloc HV3.out.size (.cells #[] 35)).trans (HB9.out.mono HV3.out.size)
            have hg9 := (rows_block HO9.out (j := g9) rfl).1
            have hB10 : Below wz.heap.size wz (u9.setCell ⟨g9, k * 11 + 6, none⟩ (.int .i64 (bits .xor .i64 y.version 1))) := hB9.grown hst.2 hB9.size (fun j hj => by cases hj; exact Nat.le_trans HV3.out.size hg9)
            have hkl := (List.getElem?_eq_some_iff.1 HYK.out).1
            obtain ⟨hst1, _⟩ := hst
            rw [← rowR_set l k hkl y yv HYK.out] at hst1
            obtain ⟨a10, c10, e10, hi10⟩ := isRes_of_row (l := l.set k (setV y (bits .xor .i64 y.version 1), yv)) (by rw [List.length_set, HL.out.len]; exact hst1) (by
              intro p hp
              rcases List.mem_or_eq_of_mem_set hp with hp | rfl
              · exact (HL.out.names p hp).below hB10
              · exact (HL.out.names (y, yv) (List.mem_of_getElem? HYK.out)).below hB10)
            rw [List.length_set, HL.out.len] at e10 hi10
            simp only [Value.slice.injEq] at e10
            obtain ⟨rfl, -, rfl⟩ := e10
            have HSN := Lib.hid (set_ne l k y yv HYK.out _ HXO.out)
            rw [show k * 11 + 4 + 2 = k * 11 + 6 from rfl]
            generalize (u9.setCell ⟨g9, k * 11 + 6, none⟩ (.int .i64 (bits .xor .i64 y.version 1))) = v9 at *
            clear hst1
            refine (alike_on (wz := wz) v9 (HL.out.below hB10) hi10 (by omega) (by omega) false HSN.out hB10).mono ?_
            rintro y' v4 ⟨rfl, hv4, _⟩
            have HV4 := Lib.hid hv4
            clear hv4 hB10 hi10 hB9
            go_wp2_with fail
            go_ret
            exact ⟨rfl, HBZ.out.trans (HV4.out.mono HBZ.out.size)⟩
    · go_simp
      refine hK.out _ _ (HC.out _ (by exact (below_drew (Below.refl wz.heap.size wz) 1).alloc (by exact Nat.le_refl _) (.cells #[.int .i64 xe, .string xp, .string xd, .slice va vn vc, .int .i64 xa, .int .i64 xb, .int .i64 xc, .int .i64 xg, .int .i64 xh, .int .i64 xi, .int .i64 xj] 35))) (fun hHeld => ?_)
      clear hK K
      try simp only [Act.put, List.setIfInBounds_toArray, List.set_cons_zero, List.set_cons_succ]
      refine wpAnyH_ready (rs := [0]) (by kernel_rfl) (by simp) ?_
      refine AllReadyH.cons (o := { dst := some 23, op := Op.buildSlice 24 0 #[], type := 24, pos := _, after := #[], guard := none }) rfl (fun K hK => ?_) AllReadyH.nil
      go_simp
      refine hK.out _ _ (HC.out _ (by exact ((below_drew (Below.refl wz.heap.size wz) 1).alloc (by exact Nat.le_refl _) (.cells #[.int .i64 xe, .string xp, .string xd, .slice va vn vc, .int .i64 xa, .int .i64 xb, .int .i64 xc, .int .i64 xg, .int .i64 xh, .int .i64 xi, .int .i64 xj] 35)).alloc (by simp) (.cells #[] 35))) (fun hHeld => ?_)
      clear hK K
      try simp only [Act.put, List.setIfInBounds_toArray, List.set_cons_zero, List.set_cons_succ]
      refine wpAnyH_ready (rs := [2]) (by kernel_rfl) (by simp) ?_
      refine AllReadyH.cons (o := { dst := some 25, op := Op.call { callee := Callee.builtin Builtin.append, args := #[Operand.tmp 23, Operand.tmp 24], argTypes := #[24, 24] }, type := 24, pos := _, after := #[{ on := 0, ground := Ground.data }, { on := 1, ground := Ground.data }], guard := none }) rfl (fun K hK => ?_) AllReadyH.nil
      refine wanted_step rfl (wp_append_rowR (.tmp 23) (.tmp 24) rfl (wz.heap.size + 1) (.slice (some ⟨(wz.heap.size + 1), 0, none⟩) 0 0) [] 0 rfl (by rfl) (by exact row_made (wz.drew.alloc (.cells #[.int .i64 xe, .string xp, .string xd, .slice va vn vc, .int .i64 xa, .int .i64 xb, .int .i64 xc, .int .i64 xg, .int .i64 xh, .int .i64 xi, .int .i64 xj] 35)) (wz.heap.size + 1) (wz.heap.size + 1) (by simp) (Nat.le_refl _)) ao n c l (by rfl) HNC.out (by exact HL.out.below (((below_drew (Below.refl wz.heap.size wz) 1).alloc (by exact Nat.le_refl _) (.cells #[.int .i64 xe, .string xp, .string xd, .slice va vn vc, .int .i64 xa, .int .i64 xb, .int .i64 xc, .int .i64 xg, .int .i64 xh, .int .i64 xi, .int .i64 xj] 35)).alloc (by simp) (.cells #[] 35))) (by omega) (by first | (simp; done) | (simp; omega)) ?_)
      intro a6 c6 u6 ho6 hb6 hg6
      simp only [Nat.zero_add, List.nil_append] at ho6 ⊢
      have HO6 := Lib.hid ho6; have HB6 := Lib.hid hb6; have HG6 := Lib.hid hg6
      have hB6 : Below wz.heap.size wz u6 := (((below_drew (Below.refl wz.heap.size wz) 1).alloc (by exact Nat.le_refl _) (.cells #[.int .i64 xe, .string xp, .string xd, .slice va vn vc, .int .i64 xa, .int .i64 xb, .int .i64 xc, .int .i64 xg, .int .i64 xh, .int .i64 xi, .int .i64 xj] 35)).alloc (by simp) (.cells #[] 35)).trans (hb6.mono (by omega))
      have HBB6 := Lib.hid hB6
      clear ho6 hb6 hg6
      have hz6 : u6.heap[wz.heap.size]? = some (.cells (cellsR ⟨xe, xp, xd, xn, xa, xb, xc, xg, xh, xi, xj⟩ (.slice va vn vc)).toArray 35 (0, 0)) := heap_below HB6.out (Nat.lt_succ_self _) (heap_old (heap_new wz.drew _) _)
      have HZ6 := Lib.hid hz6; clear hz6
      refine hK.out _ _ (HC.out _ (by exact HBB6.out)) (fun hHeld => ?_)
      clear hK K
      try simp only [Act.put, List.setIfInBounds_toArray, List.set_cons_zero, List.set_cons_succ]
      refine wpAnyH_ready (rs := [5]) (by kernel_rfl) (by simp) ?_
      refine AllReadyH.cons (o := { dst := some 28, op := Op.call { callee := Callee.builtin Builtin.append, args := #[Operand.tmp 25, Operand.tmp 27], argTypes := #[24, 24] }, type := 24, pos := _, after := #[{ on := 2, ground := Ground.data }, { on := 4, ground := Ground.data }, { on := 2, ground := Ground.chain }], guard := none }) rfl (fun K hK => ?_) AllReadyH.nil
      refine wanted_step rfl (wp_append_rowR (.tmp 25) (.tmp 27) rfl (wz.heap.size + 1) _ l n HL.out.len (by rfl) (by exact HO6.out) _ 1 1 [(⟨xe, xp, xd, xn, xa, xb, xc, xg, xh, xi, xj⟩, .slice va vn vc)] (by rfl) (fun h => by cases h) (by exact isRes_at HZ6.out (HV.out.below HBB6.out)) (by omega) (by have := HB6.out.size; simp at this; omega) ?_)
      intro a7 c7 u7 ho7 hb7 _
      have hB7 : Below wz.heap.size wz u7 := (HBB6.out).trans (hb7.mono (by omega))
      obtain ⟨a8, c8, e8, hi8⟩ := isRes_of_row (l := l ++ [(⟨xe, xp, xd, xn, xa, xb, xc, xg, xh, xi, xj⟩, .slice va vn vc)]) (by simp only [List.length_append, List.length_cons, List.length_nil, Nat.zero_add, HL.out.len]; exact ho7) (by intro p hp; rcases List.mem_append.1 hp with hp | hp; exact ((HL.out.names p hp).below hB7); obtain rfl := List.mem_singleton.1 hp; exact HV.out.below hB7)
      simp only [List.length_append, List.length_cons, List.length_nil, Nat.zero_add, HL.out.len] at e8 hi8
      simp only [Value.slice.injEq] at e8
      obtain ⟨rfl, -, rfl⟩ := e8
      have HMU := Lib.hid hi8; have HBU := Lib.hid hB7
      clear ho7 hb7 hi8
      refine hK.out _ _ (HC.out _ (by exact HBU.out)) (fun hHeld => ?_)
      clear hK K
      try simp only [Act.put, List.setIfInBounds_toArray, List.set_cons_zero, List.set_cons_succ]
      refine wpAnyH_take (i := 6) (oi := { dst := some 7, op := Op.assign (Operand.tmp 28), type := 24, pos := _, after := #[{ on := 5, ground := Ground.data }, { on := 5, ground := Ground.chain }, { on := 0, ground := Ground.phase }, { on := 1, ground := Ground.phase }, { on := 2, ground := Ground.phase }, { on := 3, ground := Ground.phase }, { on := 4, ground := Ground.phase }, { on := 5, ground := Ground.phase }], guard := none }) (v := ?_) rfl (by kernel_rfl) (by kernel_rfl) (by kernel_rfl) (fun _ _ _ h => h) (Or.inl ⟨by rfl, ?_⟩) (by exact hHeld) ?_
      rotate_left
      · (intro w hSw; (try dsimp only at hSw); go_simp <;> with_reducible rfl)
      try simp only [Act.put, List.setIfInBounds_toArray, List.set_cons_zero, List.set_cons_succ]
      refine wpAnyH_done (by kernel_rfl) ?_ _
      go_wp2_with fail
      refine (alike_on (wz := wz) u7 (HL.out.below HBU.out) (HL.out.below HBU.out) (by omega) (by omega) true (by simp) HBU.out).mono ?_
      rintro y v1 ⟨rfl, hv1, hw1⟩
      have HV1 := Lib.hid hv1; have HM1 := Lib.hid (HMU.out.below hw1)
      clear hv1 hw1
      go_wp2_with fail
      refine (alike_on (wz := wz) v1 (HL.out.below HV1.out) HM1.out (by omega) (by omega) false (more_ne _ _) HV1.out).mono ?_
      rintro y v2 ⟨rfl, hv2, hw2⟩
      have HV2 := Lib.hid hv2; have HM2 := Lib.hid (HM1.out.below hw2)
      clear hv2 hw2
      go_wp2_with fail
      refine (alike_on (wz := wz) v2 HM2.out (HL.out.below HV2.out) (by omega) (by omega) false (more_ne' _ _) HV2.out).mono ?_
      rintro y v3 ⟨rfl, hv3, hw3⟩
      have HV3 := Lib.hid hv3
      clear hv3 hw3
      by_cases hp0 : place < 0
      · have g2 : decide (place < 0) = true := by simpa using hp0
        go_wp2_with fail
        go_ret
        exact ⟨rfl, HBZ.out.trans (HV3.out.mono HBZ.out.size)⟩
      · have g2 : decide (place < 0) = false := by simpa using hp0
        obtain ⟨k, rfl⟩ := Int.eq_ofNat_of_zero_le (show 0 ≤ place by omega)
        by_cases hkn : n ≤ k
        · have g3 : decide ((n : Int) ≤ (k : Int)) = true := by simp; omega
          go_wp2_with fail
          go_ret
          exact ⟨rfl, HBZ.out.trans (HV3.out.mono HBZ.out.size)⟩
        · have g3 : decide ((n : Int) ≤ (k : Int)) = false := by simp; omega
          have hlk : ∃ y v, l[k]? = some (y, v) := by
            have := HL.out.len
            exact ⟨_, _, List.getElem?_eq_getElem (by omega)⟩
          obtain ⟨y, yv, hyk⟩ := hlk
          have HYK := Lib.hid hyk
          have hver : (rowR l)[k * 11 + 6]? = some (.int .i64 y.version) := by
            have hkl := (List.getElem?_eq_some_iff.1 hyk).1
            rw [rowR_at l k 6 hkl (by omega)]
            rw [List.getD_eq_getElem?_getD, hyk]; rfl
          have HVER := Lib.hid hver
          have hyi : In64 y.version := (HINT.out y (by rw [resL]; exact List.mem_map.2 ⟨_, List.mem_of_getElem? hyk, rfl⟩)).version
          have HXO := Lib.hid (xor_one_ne y.version hyi)
          clear hyk hver hyi
          have HR0 := Lib.hid (row_made v3 v3.heap.size v3.heap.size rfl (Nat.le_refl _))
          have HL3 := Lib.hid ((HL.out.below HV3.out).below (w' := v3.alloc (.cells #[] 35)) ((Below.refl _ _).alloc (Nat.le_refl _) _))
          go_wp2_with (at_builtin; refine wpList_plain rfl fun _ hK => wp_append_rowR (.tmp 51) (.tmp 52) rfl v3.heap.size _ [] 0 rfl (by rfl) HR0.out ao n c l (by rfl) HNC.out HL3.out (by omega) (by simp) (fun a9 c9 u9 ho9 hb9 hg9 => hK _ _ ?_); simp only [Nat.zero_add, List.nil_append] at ho9 ⊢; obtain ⟨g9, rfl⟩ := row_some ho9 (by omega); have hc96 := (World.ownsRow.cellAt ho9 (k * 11 + 6) (by omega)).trans HVER.out; have hf96 := World.ownsRow.frozenAt ho9 (k * 11 + 6); have HO9 := Lib.hid ho9; have HB9 := Lib.hid hb9; have HG9 := Lib.hid hg9; clear ho9 hb9 hg9)
          have hst := World.ownsRow.stored HO9.out (k * 11 + 6) (.int .i64 (bits .xor .i64 y.version 1))
          have hB9 : Below wz.heap.size wz u9 := (HV3.out.alloc HV3.out.size (.cells #[] 35)).trans (HB9.out.mono HV3.out.size)
          have hg9 := (rows_block HO9.out (j := g9) rfl).1
          have hB10 : Below wz.heap.size wz (u9.setCell ⟨g9, k * 11 + 6, none⟩ (.int .i64 (bits .xor .i64 y.version 1))) := hB9.grown hst.2 hB9.size (fun j hj => by cases hj; exact Nat.le_trans HV3.out.size hg9)
          have hkl := (List.getElem?_eq_some_iff.1 HYK.out).1
          obtain ⟨hst1, _⟩ := hst
          rw [← rowR_set l k hkl y yv HYK.out] at hst1
          obtain ⟨a10, c10, e10, hi10⟩ := isRes_of_row (l := l.set k (setV y (bits .xor .i64 y.version 1), yv)) (by rw [List.length_set, HL.out.len]; exact hst1) (by
            intro p hp
            rcases List.mem_or_eq_of_mem_set hp with hp | rfl
            · exact (HL.out.names p hp).below hB10
            · exact (HL.out.names (y, yv) (List.mem_of_getElem? HYK.out)).below hB10)
          rw [List.length_set, HL.out.len] at e10 hi10
          simp only [Value.slice.injEq] at e10
          obtain ⟨rfl, -, rfl⟩ := e10
          have HSN := Lib.hid (set_ne l k y yv HYK.out _ HXO.out)
          rw [show k * 11 + 4 + 2 = k * 11 + 6 from rfl]
          generalize (u9.setCell ⟨g9, k * 11 + 6, none⟩ (.int .i64 (bits .xor .i64 y.version 1))) = v9 at *
          clear hst1
          refine (alike_on (wz := wz) v9 (HL.out.below hB10) hi10 (by omega) (by omega) false HSN.out hB10).mono ?_
          rintro y' v4 ⟨rfl, hv4, _⟩
          have HV4 := Lib.hid hv4
          clear hv4 hB10 hi10 hB9
          go_wp2_with fail
          go_ret
          exact ⟨rfl, HBZ.out.trans (HV4.out.mono HBZ.out.size)⟩
theorem alikew_said (ao : Option Addr) (n c : Nat) (l : List (Re × Value)) (place : Int) (x : Re) (u : Value) (w : World) (h : IsRes w ao n l) (hn : n ≤ c) (hc : c ≤ 140737488355328) (hnc : ao = none → c = 0) (hint : ∀ y ∈ resL l, IntR y)
    (hp : (Lit.int .i64 place).wf = true) (hu : NamesAt w u x.names) (_ : IntR x) :
    Calls Try.prog 9 #[.slice ao n c, .int .i64 place, aggR x u] w fun e w' => e = .returned (.bool true) ∧ Below w.heap.size w w' :=
  alikew_walk ao n c l place x u w h (by omega) hnc hint (lit_i64' hp) hu
end Go.Proofs.Ytpikdeikcmdcmaa
