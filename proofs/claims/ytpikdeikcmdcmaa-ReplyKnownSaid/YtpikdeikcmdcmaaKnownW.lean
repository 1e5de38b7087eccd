/-
  What the chapter says of bounds: the walk. No condition.
-/
import Derived.Test.YtpikdeikcmdcmaaRowA
import Derived.BigQuiet
namespace Go.Proofs.Ytpikdeikcmdcmaa
open Go.RowKit
theorem info24 : (Try.prog.info? 24).map (fun i => (i.zero, i.size, i.bytes)) = some (some (.slice none 0 0), 1, 24) := by kernel_rfl
theorem field26 (w : World) (a b c d : Int) (ao : Option Addr) (n k : Nat) : (Instr.field 26 (.agg #[.int .i64 a, .int .i64 b, .int .i64 c, .int .i64 d, .slice ao n k]) 4).run Try.prog w = .ok (.slice ao n k) w := by
  obtain ⟨i0, hi0, hz0, hz1, hz2⟩ := info_parts info24
  simp [Instr.field, run_underlying Try.underlying26, sizeOf, typeInfo, hi0, hz1, Sem.run_bind, asAgg, part, Result.andThen]
theorem getR_nil : getR [] = (⟨0, 0, 0, 0, []⟩, 3) := by decide +kernel
theorem getR_many (a b c d : Int) (l : List Re) (ha : In64 a) (hb : In64 b) (hc : In64 c) (hd : In64 d) (h1 : 16 < l.length) (h2 : l.length ≤ 1000) : getR (putR ⟨a, b, c, d, l⟩) = (⟨0, 0, 0, 0, []⟩, 3) := by
  have e0 : putR ⟨a, b, c, d, l⟩ = be8 a ++ (be8 b ++ (be8 c ++ (be8 d ++ (be8 (l.length : Int) ++ l.flatMap resB)))) := by simp [putR, be8s]
  have hk : ∀ rest, rC (be8 (l.length : Int) ++ rest) false 16 = ⟨0, [], true⟩ := by
    intro rest
    unfold rC
    rw [rI_be8 _ rest false (by omega) (by omega), if_pos (by simp only; omega)]
  have hr : rRep (putR ⟨a, b, c, d, l⟩) false = ⟨⟨a, b, c, d, []⟩, [], true⟩ := by
    rw [e0]
    simp only [rRep]
    rw [rI_be8 a _ _ ha.1 ha.2]
    simp only
    rw [rI_be8 b _ _ hb.1 hb.2]
    simp only
    rw [rI_be8 c _ _ hc.1 hc.2]
    simp only
    rw [rI_be8 d _ _ hd.1 hd.2]
    simp only
    rw [hk]
    rfl
  rw [getR, hr]; rfl
theorem made17 : (madeCells zeroR.cells (17 * 11)).toList = rowR (List.replicate 17 (bareR 0, .slice none 0 0)) := by kernel_rfl
theorem fit0 : ∀ x ∈ resL (List.replicate 17 (bareR 0, .slice none 0 0)), FitR x := by
  intro x hx
  obtain ⟨p, hp, rfl⟩ := List.mem_map.1 hx
  obtain rfl := List.eq_of_mem_replicate hp
  exact (goodB 0 (in64 0 (by omega) (by omega))).fit
set_option maxHeartbeats 4000000 in
theorem known_walk (w : World) : Calls Try.prog 3 #[] w fun e w' => e = .returned (.bool true) ∧ Below w.heap.size w w' := by
  go_enter Try.func3, Try.ntmps3
  go_wp2_with fail
  refine (awake_any w).mono ?_
  rintro x w1 ⟨rfl, hb1⟩
  go_wp2_with fail
  refine (get_any none 0 0 [] w1 (isB_nil _) (by omega)).mono ?_
  rintro x w2 ⟨v2, rs2, rfl, hown2, hres2, hl2, hb2⟩
  rw [getR_nil]
  simp only [aggP]
  obtain ⟨a2, c2, e2, hi2⟩ := hown2.isRes
  subst e2
  have HB2 := Lib.hid (hb1.trans (hb2.mono hb1.size))
  clear hown2 hres2 hi2 hb1 hb2 hl2
  obtain ⟨i0, hi0, hz0, hz1, hz2⟩ := info_parts info35
  have HB3 := Lib.hid (HB2.out.alloc HB2.out.size (.cells #[.int .i64 0, .int .i64 0, .int .i64 0, .int .i64 0, .slice a2 rs2.length c2] 26))
  go_wp2_with (refine wpList_make_full _ rfl _ _ 24 rfl w2.heap.size 35 i0 zeroR 11 Try.underlying24 hi0 hz0 hz1 .i64 .i64 _ _ 17 rfl rfl rfl rfl (by rw [hz2]; omega) (by unfold maxLen; omega) (by simp) fun w4 h1 h2 => ?_; rw [made17] at h1; have HM4 := Lib.hid h1; have HG4 := Lib.hid h2; clear h1 h2)
  obtain ⟨a4, c4, e4, hi4⟩ := isRes_of_row HM4.out (by intro p hp; obtain rfl := List.eq_of_mem_replicate hp; exact ⟨none, 0, 0, rfl, isS_nil _, by omega⟩)
  rw [List.length_replicate] at e4 hi4
  have hsz3 : (w2.alloc (.cells #[.int .i64 0, .int .i64 0, .int .i64 0, .int .i64 0, .slice a2 rs2.length c2] 26)).heap.size = w2.heap.size + 1 := by simp
  rw [hsz3] at e4
  simp only [Value.slice.injEq] at e4
  obtain ⟨rfl, -, rfl⟩ := e4
  have hB4 : Below w.heap.size w w4 := HB3.out.grown HG4.out (HB3.out.size) (fun k hk => by cases hk)
  have HB4 := Lib.hid hB4
  have HI4 := Lib.hid hi4
  clear hB4 hi4 hsz3 hi0 hz0 hz1 hz2
  refine (put_any 0 0 0 0 (some ⟨w2.heap.size + 1, 0, none⟩) 17 17 _ w4 HI4.out (by omega) fit0).mono ?_
  rintro x w5 ⟨a5, n5, c5, rfl, hw5, hb5⟩
  have hlen5 : n5 ≤ 100000000000 := by
    rw [← hw5.is.len]
    have h1 := ress_len _ fit0
    have h2 : (resL (List.replicate 17 (bareR 0, Value.slice none 0 0))).length = 17 := by simp [resL]
    have h3 : (be8s [0, 0, 0, 0, ((resL (List.replicate 17 (bareR 0, Value.slice none 0 0))).length : Int)]).length = 40 := by rw [be8s_len]; rfl
    simp only [putR, List.length_append]
    omega
  have HW5 := Lib.hid hw5
  have HB5 := Lib.hid (HB4.out.trans (hb5.mono HB4.out.size))
  clear hw5 hb5
  go_wp2_with fail
  refine (get_any a5 n5 c5 _ w5 HW5.out.is hlen5).mono ?_
  rintro x w6 ⟨v6, rs6, rfl, hown6, hres6, hl6, hb6⟩
  have hm := getR_many 0 0 0 0 (resL (List.replicate 17 (bareR 0, Value.slice none 0 0))) (in64 0 (by omega) (by omega)) (in64 0 (by omega) (by omega)) (in64 0 (by omega) (by omega)) (in64 0 (by omega) (by omega)) (by simp [resL]) (by simp [resL])
  rw [hm]
  simp only [aggP]
  obtain ⟨a6, c6, e6, hi6⟩ := hown6.isRes
  subst e6
  have HB6 := Lib.hid ((((HB5.out.trans (hb6.mono HB5.out.size)).alloc (Nat.le_trans HB5.out.size hb6.size) (.cells #[.int .i64 0, .int .i64 0, .int .i64 0, .int .i64 0, .slice a6 rs6.length c6] 26)).alloc (by have := HB5.out.size; have := hb6.size; simp; omega) (.cells (cellsR ⟨0, ⟨#[47, 97]⟩, ⟨#[]⟩, [], 7, 0, 0, 0, 0, 0, 0⟩ (.slice none 0 0)).toArray 35)))
  clear hown6 hres6 hi6 hb6 hl6 hm HI4 HM4 HG4
  simp only [cellsR] at HB6
  go_wp2_with fail
  refine (fail_any 1 1 0 17 _ (by omega) (by omega)).mono ?_
  rintro x w7 ⟨a7, c7, rs7, rfl, _, _, hb7⟩
  have hx7 : w7.heap[w6.heap.size + 1]? = some (.cells #[.int .i64 0, .string ⟨#[47, 97]⟩, .string ⟨#[]⟩, .slice none 0 0, .int .i64 7, .int .i64 0, .int .i64 0, .int .i64 0, .int .i64 0, .int .i64 0, .int .i64 0] 35 (0, 0)) := heap_below hb7 (by simp) (heap_alloc2_new _ _ _)
  have HX7 := Lib.hid hx7
  have HB7 := Lib.hid (HB6.out.trans (hb7.mono HB6.out.size))
  clear hx7 hb7
  simp only [aggP, show failN 17 = 0 from rfl]
  have hf7 := field26 w7 1 0 1 0 a7 0 c7
  go_wp2_with fail
  refine (fail_any 1 1 0 (-1) w7 (by omega) (by omega)).mono ?_
  rintro x w8 ⟨a8, c8, rs8, rfl, _, _, hb8⟩
  have HX8 := Lib.hid (heap_below hb8 (lt_of_heap HX7.out) HX7.out)
  have HB8 := Lib.hid (HB7.out.trans (hb8.mono HB7.out.size))
  clear hb8
  have q0 : w8.cell? ⟨w6.heap.size + 1, 0, none⟩ = some (.int .i64 0) := by rw [cell_heap HX8.out]; rfl
  have q1 : w8.cell? ⟨w6.heap.size + 1, 1, none⟩ = some (.string ⟨#[47, 97]⟩) := by rw [cell_heap HX8.out]; rfl
  have q2 : w8.cell? ⟨w6.heap.size + 1, 2, none⟩ = some (.string ⟨#[]⟩) := by rw [cell_heap HX8.out]; rfl
  have q3 : w8.cell? ⟨w6.heap.size + 1, 3, none⟩ = some (.slice none 0 0) := by rw [cell_heap HX8.out]; rfl
  have q4 : w8.cell? ⟨w6.heap.size + 1, 4, none⟩ = some (.int .i64 7) := by rw [cell_heap HX8.out]; rfl
  have q5 : w8.cell? ⟨w6.heap.size + 1, 5, none⟩ = some (.int .i64 0) := by rw [cell_heap HX8.out]; rfl
  have q6 : w8.cell? ⟨w6.heap.size + 1, 6, none⟩ = some (.int .i64 0) := by rw [cell_heap HX8.out]; rfl
  have q7 : w8.cell? ⟨w6.heap.size + 1, 7, none⟩ = some (.int .i64 0) := by rw [cell_heap HX8.out]; rfl
  have q8 : w8.cell? ⟨w6.heap.size + 1, 8, none⟩ = some (.int .i64 0) := by rw [cell_heap HX8.out]; rfl
  have q9 : w8.cell? ⟨w6.heap.size + 1, 9, none⟩ = some (.int .i64 0) := by rw [cell_heap HX8.out]; rfl
  have q10 : w8.cell? ⟨w6.heap.size + 1, 10, none⟩ = some (.int .i64 0) := by rw [cell_heap HX8.out]; rfl
  simp only [aggP, show failN (-1) = 0 from rfl]
  have hf8 := field26 w8 1 0 1 0 a8 0 c8
  go_wp2_with fail
  have hn1 : NamesAt w8 (.slice none 0 0) [] := ⟨none, 0, 0, rfl, isS_nil _, by omega⟩
  have i1 := isRes_one w8 ⟨0, ⟨#[47, 97]⟩, ⟨#[]⟩, [], 7, 0, 0, 0, 0, 0, 0⟩ (.slice none 0 0) w8.heap.size rfl hn1
  have hb9 : Below w8.heap.size w8 (w8.alloc (.cells #[.int .i64 0, .string ⟨#[47, 97]⟩, .string ⟨#[]⟩, .slice none 0 0, .int .i64 7, .int .i64 0, .int .i64 0, .int .i64 0, .int .i64 0, .int .i64 0, .int .i64 0] 35)) := (Below.refl _ _).alloc (Nat.le_refl _) _
  have i2 := isRes_one (w8.alloc (.cells #[.int .i64 0, .string ⟨#[47, 97]⟩, .string ⟨#[]⟩, .slice none 0 0, .int .i64 7, .int .i64 0, .int .i64 0, .int .i64 0, .int .i64 0, .int .i64 0, .int .i64 0] 35)) ⟨0, ⟨#[47, 97]⟩, ⟨#[]⟩, [], 0, 0, 0, 0, 0, 0, 0⟩ (.slice none 0 0) (w8.heap.size + 1) (by simp) (hn1.below hb9)
  have i3 := i1.below (w' := (w8.alloc (.cells #[.int .i64 0, .string ⟨#[47, 97]⟩, .string ⟨#[]⟩, .slice none 0 0, .int .i64 7, .int .i64 0, .int .i64 0, .int .i64 0, .int .i64 0, .int .i64 0, .int .i64 0] 35)).alloc (.cells #[.int .i64 0, .string ⟨#[47, 97]⟩, .string ⟨#[]⟩, .slice none 0 0, .int .i64 0, .int .i64 0, .int .i64 0, .int .i64 0, .int .i64 0, .int .i64 0, .int .i64 0] 35)) ((Below.refl _ _).alloc (Nat.le_refl _) _)
  refine (alikeL_any (some ⟨w8.heap.size, 0, none⟩) 1 1 _ (some ⟨w8.heap.size + 1, 0, none⟩) 1 1 _ _ i3 i2 (by omega) (by omega)).mono ?_
  rintro x w9 ⟨rfl, hb10⟩
  have HB9 := Lib.hid (HB8.out.trans ((below_two _ _ _).trans (hb10.mono (below_two _ _ _).size) |>.mono HB8.out.size))
  have hne : decide (resL [((⟨0, ⟨#[47, 97]⟩, ⟨#[]⟩, [], 7, 0, 0, 0, 0, 0, 0⟩ : Re), Value.slice none 0 0)] = resL [((⟨0, ⟨#[47, 97]⟩, ⟨#[]⟩, [], 0, 0, 0, 0, 0, 0, 0⟩ : Re), Value.slice none 0 0)]) = false := by simp [resL]
  rw [hne]
  clear hne i1 i2 i3 hb10 hb9 hn1
  go_wp2_with fail
  go_ret
  exact ⟨rfl, HB9.out⟩
end Go.Proofs.Ytpikdeikcmdcmaa
