/-
  StatKnown's walk. No condition.
-/
import Derived.Test.YtaoligpckpabfaaBackW
namespace Go.Proofs.Ytaoligpckpabfaa
open Go.RowKit
theorem IsNd.widen {w : World} {A : List Nat} {a : Nat} {s : Nd} (h : IsNd w A a s) (b : Nat) (hb : w.heap.size ≤ b) : IsNd w (b :: A) a s := by
  obtain ⟨⟨ao, n, c, h1, h2, h3, h4⟩, h5⟩ := h
  refine ⟨⟨ao, n, c, h1, h2, h3, fun p hp => ⟨fun hm => ?_, (h4 p hp).2⟩⟩, List.mem_cons_of_mem _ h5⟩
  rcases List.mem_cons.1 hm with e | hm
  · have := (h4 p hp).2; omega
  · exact (h4 p hp).1 hm
theorem kn1 : addZ (⟨5, 5, 0, 0, 9, 2, 0, ⟨#[97, 98]⟩, 0, []⟩ : Nd) ⟨#[98]⟩ = ⟨5, 5, 0, 1, 9, 2, 1, ⟨#[97, 98]⟩, 1, [⟨#[98]⟩]⟩ := by kernel_rfl
theorem kh1 : hereS (⟨5, 5, 0, 0, 9, 2, 0, ⟨#[97, 98]⟩, 0, []⟩ : Nd).names ⟨#[98]⟩ = false := by kernel_rfl
theorem kn2 : addZ (⟨5, 5, 0, 1, 9, 2, 1, ⟨#[97, 98]⟩, 1, [⟨#[98]⟩]⟩ : Nd) ⟨#[97]⟩ = ⟨5, 5, 0, 2, 9, 2, 2, ⟨#[97, 98]⟩, 2, [⟨#[97]⟩, ⟨#[98]⟩]⟩ := by kernel_rfl
theorem kh2 : hereS (⟨5, 5, 0, 1, 9, 2, 1, ⟨#[97, 98]⟩, 1, [⟨#[98]⟩]⟩ : Nd).names ⟨#[97]⟩ = false := by kernel_rfl
theorem kn3 : addZ (⟨5, 5, 0, 2, 9, 2, 2, ⟨#[97, 98]⟩, 2, [⟨#[97]⟩, ⟨#[98]⟩]⟩ : Nd) ⟨#[98]⟩ = ⟨5, 5, 0, 2, 9, 2, 2, ⟨#[97, 98]⟩, 2, [⟨#[97]⟩, ⟨#[98]⟩]⟩ := by kernel_rfl
theorem kh3 : hereS (⟨5, 5, 0, 2, 9, 2, 2, ⟨#[97, 98]⟩, 2, [⟨#[97]⟩, ⟨#[98]⟩]⟩ : Nd).names ⟨#[98]⟩ = true := by kernel_rfl
theorem kn4 : removeZ (⟨5, 5, 0, 2, 9, 2, 2, ⟨#[97, 98]⟩, 2, [⟨#[97]⟩, ⟨#[98]⟩]⟩ : Nd) ⟨#[120]⟩ = ⟨5, 5, 0, 2, 9, 2, 2, ⟨#[97, 98]⟩, 2, [⟨#[97]⟩, ⟨#[98]⟩]⟩ := by kernel_rfl
theorem kh4 : hereS (⟨5, 5, 0, 2, 9, 2, 2, ⟨#[97, 98]⟩, 2, [⟨#[97]⟩, ⟨#[98]⟩]⟩ : Nd).names ⟨#[120]⟩ = false := by kernel_rfl
theorem kn5 : removeZ (⟨5, 5, 0, 2, 9, 2, 2, ⟨#[97, 98]⟩, 2, [⟨#[97]⟩, ⟨#[98]⟩]⟩ : Nd) ⟨#[98]⟩ = ⟨5, 5, 0, 3, 9, 2, 1, ⟨#[97, 98]⟩, 2, [⟨#[97]⟩]⟩ := by kernel_rfl
theorem kh5 : hereS (⟨5, 5, 0, 2, 9, 2, 2, ⟨#[97, 98]⟩, 2, [⟨#[97]⟩, ⟨#[98]⟩]⟩ : Nd).names ⟨#[98]⟩ = true := by kernel_rfl
theorem kn6 : writeZ (⟨5, 5, 0, 3, 9, 2, 1, ⟨#[97, 98]⟩, 2, [⟨#[97]⟩]⟩ : Nd) 8 ⟨#[97, 98, 99]⟩ = ⟨5, 8, 1, 3, 9, 3, 1, ⟨#[97, 98, 99]⟩, 2, [⟨#[97]⟩]⟩ := by kernel_rfl
theorem kn7 : writeZ (⟨5, 8, 2147483647, 3, 9, 3, 1, ⟨#[97, 98, 99]⟩, 2, [⟨#[97]⟩]⟩ : Nd) 9 ⟨#[]⟩ = ⟨5, 9, 2147483647, 3, 9, 0, 1, ⟨#[]⟩, 2, [⟨#[97]⟩]⟩ := by kernel_rfl
theorem kget : getN (getG [] false) = zeroN ∧ okG (getG [] false) = false := ⟨by kernel_rfl, by kernel_rfl⟩
set_option maxHeartbeats 8000000 in
set_option maxRecDepth 100000 in
theorem known_walk (W : World) : Calls Try.prog 7 #[] W fun e w' => e = .returned (.bool true) ∧ Below W.heap.size W w' := by
  go_enter Try.func7, Try.ntmps7
  go_wp2_with fail
  refine (awake_any _).mono ?_
  rintro e v1 ⟨rfl, hb1⟩
  go_wp2_with fail
  refine (new_any _ _ _ _).mono ?_
  rintro e v2 ⟨rfl, hb2⟩
  have hb12 := hb1.trans (hb2.mono hb1.size)
  have HND0 := Lib.hid (isNd_new v2 5 9 ⟨#[97, 98]⟩ [v2.heap.size] v2.heap.size rfl (by simp))
  have HB0 := Lib.hid (hb12.alloc hb12.size (.cells (cellsN (newZ 5 9 ⟨#[97, 98]⟩) (.slice none 0 0)) 27))
  have hsz := hb12.size
  clear hb1 hb2 hb12
  rw [show aggN (newZ 5 9 ⟨#[97, 98]⟩) (.slice none 0 0) = .agg #[.int .i64 5, .int .i64 5, .int .i64 0, .int .i64 0, .int .i64 9, .int .i64 2, .int .i64 0, .string ⟨#[97, 98]⟩, .int .i64 0, .slice none 0 0] from rfl]
  go_wp2_with fail
  rw [show cellsN (newZ 5 9 ⟨#[97, 98]⟩) (.slice none 0 0) = #[.int .i64 5, .int .i64 5, .int .i64 0, .int .i64 0, .int .i64 9, .int .i64 2, .int .i64 0, .string ⟨#[97, 98]⟩, .int .i64 0, .slice none 0 0] from rfl] at HND0 HB0
  rw [show newZ 5 9 ⟨#[97, 98]⟩ = ⟨5, 5, 0, 0, 9, 2, 0, ⟨#[97, 98]⟩, 0, []⟩ from rfl] at HND0
  generalize v2.heap.size = a at *
  generalize World.alloc v2 _ = u0 at *
  have hl0 := HND0.out.lt
  have HC1 := Lib.hid (add_any [a] a ⟨5, 5, 0, 0, 9, 2, 0, ⟨#[97, 98]⟩, 0, []⟩ ⟨#[98]⟩ u0 HND0.out (by constructor <;> (unfold I64; simp)) (by simpa using hl0) (by simp))
  rw [kn1, kh1] at HC1
  refine HC1.out.mono ?_
  rintro e u1 ⟨rfl, hi1, ho1⟩
  have HND1 := Lib.hid hi1
  have HB1 := Lib.hid (below_of_only HB0.out ho1 hsz (Nat.le_refl _))
  clear hi1 ho1 HC1 hl0
  go_wp2_with fail
  have hl1 := HND1.out.lt
  have HC2 := Lib.hid (add_any [a] a ⟨5, 5, 0, 1, 9, 2, 1, ⟨#[97, 98]⟩, 1, [⟨#[98]⟩]⟩ ⟨#[97]⟩ u1 HND1.out (by constructor <;> (unfold I64; simp)) (by simpa using hl1) (by simp))
  rw [kn2, kh2] at HC2
  refine HC2.out.mono ?_
  rintro e u2 ⟨rfl, hi2, ho2⟩
  have HND2 := Lib.hid hi2
  have HB2 := Lib.hid (below_of_only HB1.out ho2 hsz (Nat.le_refl _))
  clear hi2 ho2 HC2 hl1
  go_wp2_with fail
  have hl2 := HND2.out.lt
  have HC3 := Lib.hid (add_any [a] a ⟨5, 5, 0, 2, 9, 2, 2, ⟨#[97, 98]⟩, 2, [⟨#[97]⟩, ⟨#[98]⟩]⟩ ⟨#[98]⟩ u2 HND2.out (by constructor <;> (unfold I64; simp)) (by simpa using hl2) (by simp))
  rw [kn3, kh3] at HC3
  refine HC3.out.mono ?_
  rintro e u3 ⟨rfl, hi3, ho3⟩
  have HND3 := Lib.hid hi3
  have HB3 := Lib.hid (below_of_only HB2.out ho3 hsz (Nat.le_refl _))
  clear hi3 ho3 HC3 hl2
  go_wp2_with fail
  have hl3 := HND3.out.lt
  have HC4 := Lib.hid (remove_any [a] a ⟨5, 5, 0, 2, 9, 2, 2, ⟨#[97, 98]⟩, 2, [⟨#[97]⟩, ⟨#[98]⟩]⟩ ⟨#[120]⟩ u3 HND3.out (by constructor <;> (unfold I64; simp)) (by simpa using hl3) (by simp))
  rw [kn4, kh4] at HC4
  refine HC4.out.mono ?_
  rintro e u4 ⟨rfl, hi4, ho4⟩
  have HND4 := Lib.hid hi4
  have HB4 := Lib.hid (below_of_only HB3.out ho4 hsz (Nat.le_refl _))
  clear hi4 ho4 HC4 hl3
  go_wp2_with fail
  have hl4 := HND4.out.lt
  have HC5 := Lib.hid (remove_any [a] a ⟨5, 5, 0, 2, 9, 2, 2, ⟨#[97, 98]⟩, 2, [⟨#[97]⟩, ⟨#[98]⟩]⟩ ⟨#[98]⟩ u4 HND4.out (by constructor <;> (unfold I64; simp)) (by simpa using hl4) (by simp))
  rw [kn5, kh5] at HC5
  refine HC5.out.mono ?_
  rintro e u5 ⟨rfl, hi5, ho5⟩
  have HND5 := Lib.hid hi5
  have HB5 := Lib.hid (below_of_only HB4.out ho5 hsz (Nat.le_refl _))
  clear hi5 ho5 HC5 hl4
  go_wp2_with fail
  have HC6 := Lib.hid (write_any [a] a ⟨5, 5, 0, 3, 9, 2, 1, ⟨#[97, 98]⟩, 2, [⟨#[97]⟩]⟩ 8 ⟨#[97, 98, 99]⟩ u5 HND5.out (by constructor <;> (unfold I64; simp)))
  rw [kn6] at HC6
  refine HC6.out.mono ?_
  rintro e u6 ⟨rfl, hi6, ho6⟩
  have HB6 := Lib.hid (below_of_only HB5.out ho6 hsz (Nat.le_refl _))
  obtain ⟨⟨vo, q, vc, hrow, hs, hq, hav⟩, hmem⟩ := id hi6
  have HI6 := Lib.hid hi6
  obtain rfl : q = 1 := by have := hs.len; simpa using this.symm
  have HROW := Lib.hid hrow
  have HS := Lib.hid hs
  have HAV := Lib.hid hav
  have hal6 : a < u6.heap.size := lt_of_heap hrow
  clear HC6 hi6 ho6 hrow hs hav hmem
  clear HND0 HB0 HND1 HB1 HND2 HB2 HND3 HB3 HND4 HB4 HND5 HB5
  go_upto_region 9 with (refine wpList_load_row rfl 27 (.tmp 1) rfl a rfl 27 #[.int .i64 5, .int .i64 8, .int .i64 1, .int .i64 3, .int .i64 9, .int .i64 3, .int .i64 1, .string ⟨#[97, 98, 99]⟩, .int .i64 2, .slice vo 1 vc] (0, 0) _ HROW.out Try.underlying27 rfl size27 ?_)
  have hb7 : Below u6.heap.size u6 (u6.alloc (.cells #[.int .i64 5, .int .i64 8, .int .i64 2147483647, .int .i64 3, .int .i64 9, .int .i64 3, .int .i64 1, .string ⟨#[97, 98, 99]⟩, .int .i64 2, .slice vo 1 vc] 27)) := (Below.refl _ _).alloc (Nat.le_refl _) _
  have HN7 := Lib.hid ((HI6.out.widen u6.heap.size (Nat.le_refl _)).below hb7)
  have HM7 : Hid (IsNd (u6.alloc (.cells #[.int .i64 5, .int .i64 8, .int .i64 2147483647, .int .i64 3, .int .i64 9, .int .i64 3, .int .i64 1, .string ⟨#[97, 98, 99]⟩, .int .i64 2, .slice vo 1 vc] 27)) [u6.heap.size, a] u6.heap.size (⟨5, 8, 2147483647, 3, 9, 3, 1, ⟨#[97, 98, 99]⟩, 2, [⟨#[97]⟩]⟩)) := Lib.hid
    ⟨⟨vo, 1, vc, heap_new _ _, HS.out.below hb7, by omega, fun p hp => ⟨fun hm => by
      have h1 := HAV.out p hp
      simp only [List.mem_cons, List.not_mem_nil, or_false] at hm h1
      rcases hm with hm | hm
      · omega
      · exact h1.1 hm, by have := (HAV.out p hp).2; simp; omega⟩⟩, by simp⟩
  have HB7 := Lib.hid (HB6.out.trans (hb7.mono HB6.out.size))
  have hne : a ≠ u6.heap.size := by omega
  have hmz : W.heap.size ≤ u6.heap.size := HB6.out.size
  clear hb7 HI6 HROW HS HAV HB6
  generalize u6.heap.size = b at *
  generalize World.alloc u6 _ = u7 at *
  have HC8 := Lib.hid (write_any [b, a] b (⟨5, 8, 2147483647, 3, 9, 3, 1, ⟨#[97, 98, 99]⟩, 2, [⟨#[97]⟩]⟩) 9 ⟨#[]⟩ u7 HM7.out (by constructor <;> (unfold I64; simp)))
  rw [kn7] at HC8
  go_wp2_with fail
  refine HC8.out.mono ?_
  rintro e u8 ⟨rfl, hi8, ho8⟩
  have HB8 := Lib.hid (below_of_only HB7.out ho8 hmz (Nat.le_refl _))
  have HM8 := Lib.hid hi8
  have HN8 := Lib.hid (HN7.out.keep ho8 (by simpa using hne) (by simp))
  clear hi8 ho8 HC8 HB7 HM7 HN7
  go_wp2_with fail
  refine (read_any none 0 0 [] u8 (isB_nil _) (by omega)).mono ?_
  rintro e u9 ⟨r, rfl, hr, hr1, hr2, hb9⟩
  have HR := Lib.hid hr
  have HB9 := Lib.hid hb9
  clear hr hb9
  go_wp2_with fail
  refine (get_any r _ [] false u9 HR.out (fun k hk => by omega) (by simp)).mono ?_
  rw [kget.1, kget.2]
  rintro e u10 ⟨mo, mc, rfl, hown, hlen, ho10⟩
  have hsz9 := HB9.out.size
  have hB10 : Below u8.heap.size u8 u10 := HB9.out.trans (ho10.below (by omega) (by simp; omega))
  obtain ⟨⟨no, nq, nc, n1, n2, n3, n4⟩, _⟩ := HN8.out
  obtain rfl : nq = 1 := by have := n2.len; simpa using this.symm
  obtain ⟨⟨xo, xq, xc, m1, m2, m3, m4⟩, _⟩ := HM8.out
  obtain rfl : xq = 1 := by have := m2.len; simpa using this.symm
  have hb11 : Below u8.heap.size u8 (u10.alloc (.cells (cellsN zeroN (.slice mo 0 mc)) 27)) := hB10.trans ((Below.refl _ _).alloc hB10.size _)
  have n1' := (hb11.block a (lt_of_heap n1)).trans n1
  have m1' := (hb11.block b (lt_of_heap m1)).trans m1
  have n2' := n2.below hb11
  have m2' := m2.below hb11
  have HE := Lib.hid (eph_any [b, a] a (⟨5, 8, 1, 3, 9, 3, 1, ⟨#[97, 98, 99]⟩, 2, [⟨#[97]⟩]⟩) _ (HN8.out.below hb11))
  have HBX := Lib.hid (HB8.out.trans (hb11.mono HB8.out.size))
  have HSX := Lib.hid (fun (w' : World) (hb : Below (u10.alloc (.cells (cellsN zeroN (.slice mo 0 mc)) 27)).heap.size (u10.alloc (.cells (cellsN zeroN (.slice mo 0 mc)) 27)) w') => same23_any (⟨5, 8, 1, 3, 9, 3, 1, ⟨#[97, 98, 99]⟩, 2, [⟨#[97]⟩]⟩) (⟨5, 9, 2147483647, 3, 9, 0, 1, ⟨#[]⟩, 2, [⟨#[97]⟩]⟩) no 1 nc xo 1 xc w' (n2'.below hb) (m2'.below hb) (by omega) (by omega))
  have HSY := Lib.hid (fun (w' : World) (hb : Below (u10.alloc (.cells (cellsN zeroN (.slice mo 0 mc)) 27)).heap.size (u10.alloc (.cells (cellsN zeroN (.slice mo 0 mc)) 27)) w') => same23_any (⟨5, 8, 1, 3, 9, 3, 1, ⟨#[97, 98, 99]⟩, 2, [⟨#[97]⟩]⟩) (⟨5, 8, 1, 3, 9, 3, 1, ⟨#[97, 98, 99]⟩, 2, [⟨#[97]⟩]⟩) no 1 nc no 1 nc w' (n2'.below hb) (n2'.below hb) (by omega) (by omega))
  rw [show decide (((⟨5, 8, 1, 3, 9, 3, 1, ⟨#[97, 98, 99]⟩, 2, [⟨#[97]⟩]⟩) : Nd) = (⟨5, 9, 2147483647, 3, 9, 0, 1, ⟨#[]⟩, 2, [⟨#[97]⟩]⟩)) = false from by simp] at HSX
  rw [show decide (((⟨5, 8, 1, 3, 9, 3, 1, ⟨#[97, 98, 99]⟩, 2, [⟨#[97]⟩]⟩) : Nd) = (⟨5, 8, 1, 3, 9, 3, 1, ⟨#[97, 98, 99]⟩, 2, [⟨#[97]⟩]⟩)) = true from by simp] at HSY
  have HROWN := Lib.hid (fun (w' : World) (hb : Below (u10.alloc (.cells (cellsN zeroN (.slice mo 0 mc)) 27)).heap.size (u10.alloc (.cells (cellsN zeroN (.slice mo 0 mc)) 27)) w') => (hb.block a (lt_of_heap n1')).trans n1')
  have HROWM := Lib.hid (fun (w' : World) (hb : Below (u10.alloc (.cells (cellsN zeroN (.slice mo 0 mc)) 27)).heap.size (u10.alloc (.cells (cellsN zeroN (.slice mo 0 mc)) 27)) w') => (hb.block b (lt_of_heap m1')).trans m1')
  obtain ⟨ngb, ngo, rfl⟩ := isS_some n2' (by omega)
  have c0 := getS_cell n2' (k := 0) (by omega)
  have hn0 : (u10.alloc (.cells #[.int .i64 0, .int .i64 0, .int .i64 0, .int .i64 0, .int .i64 0, .int .i64 0, .int .i64 0, .string ⟨#[]⟩, .int .i64 0, .slice mo 0 mc] 27)).cell? ⟨a, 0, none⟩ = some (.int .i64 5) := cell_heap n1' 0
  have hn1 : (u10.alloc (.cells #[.int .i64 0, .int .i64 0, .int .i64 0, .int .i64 0, .int .i64 0, .int .i64 0, .int .i64 0, .string ⟨#[]⟩, .int .i64 0, .slice mo 0 mc] 27)).cell? ⟨a, 1, none⟩ = some (.int .i64 8) := cell_heap n1' 1
  have hn2 : (u10.alloc (.cells #[.int .i64 0, .int .i64 0, .int .i64 0, .int .i64 0, .int .i64 0, .int .i64 0, .int .i64 0, .string ⟨#[]⟩, .int .i64 0, .slice mo 0 mc] 27)).cell? ⟨a, 2, none⟩ = some (.int .i64 1) := cell_heap n1' 2
  have hn3 : (u10.alloc (.cells #[.int .i64 0, .int .i64 0, .int .i64 0, .int .i64 0, .int .i64 0, .int .i64 0, .int .i64 0, .string ⟨#[]⟩, .int .i64 0, .slice mo 0 mc] 27)).cell? ⟨a, 3, none⟩ = some (.int .i64 3) := cell_heap n1' 3
  have hn5 : (u10.alloc (.cells #[.int .i64 0, .int .i64 0, .int .i64 0, .int .i64 0, .int .i64 0, .int .i64 0, .int .i64 0, .string ⟨#[]⟩, .int .i64 0, .slice mo 0 mc] 27)).cell? ⟨a, 5, none⟩ = some (.int .i64 3) := cell_heap n1' 5
  have hn6 : (u10.alloc (.cells #[.int .i64 0, .int .i64 0, .int .i64 0, .int .i64 0, .int .i64 0, .int .i64 0, .int .i64 0, .string ⟨#[]⟩, .int .i64 0, .slice mo 0 mc] 27)).cell? ⟨a, 6, none⟩ = some (.int .i64 1) := cell_heap n1' 6
  have hn8 : (u10.alloc (.cells #[.int .i64 0, .int .i64 0, .int .i64 0, .int .i64 0, .int .i64 0, .int .i64 0, .int .i64 0, .string ⟨#[]⟩, .int .i64 0, .slice mo 0 mc] 27)).cell? ⟨a, 8, none⟩ = some (.int .i64 2) := cell_heap n1' 8
  have hn9 : (u10.alloc (.cells #[.int .i64 0, .int .i64 0, .int .i64 0, .int .i64 0, .int .i64 0, .int .i64 0, .int .i64 0, .string ⟨#[]⟩, .int .i64 0, .slice mo 0 mc] 27)).cell? ⟨a, 9, none⟩ = some (.slice (some ⟨ngb, ngo, none⟩) 1 nc) := cell_heap n1' 9
  have hm2 : (u10.alloc (.cells #[.int .i64 0, .int .i64 0, .int .i64 0, .int .i64 0, .int .i64 0, .int .i64 0, .int .i64 0, .string ⟨#[]⟩, .int .i64 0, .slice mo 0 mc] 27)).cell? ⟨b, 2, none⟩ = some (.int .i64 2147483647) := cell_heap m1' 2
  have hm5 : (u10.alloc (.cells #[.int .i64 0, .int .i64 0, .int .i64 0, .int .i64 0, .int .i64 0, .int .i64 0, .int .i64 0, .string ⟨#[]⟩, .int .i64 0, .slice mo 0 mc] 27)).cell? ⟨b, 5, none⟩ = some (.int .i64 0) := cell_heap m1' 5
  have c0' : (u10.alloc (.cells #[.int .i64 0, .int .i64 0, .int .i64 0, .int .i64 0, .int .i64 0, .int .i64 0, .int .i64 0, .string ⟨#[]⟩, .int .i64 0, .slice mo 0 mc] 27)).cell? ⟨ngb, ngo + 0, none⟩ = some (.string ⟨#[97]⟩) := c0
  rw [Nat.add_zero] at c0'
  clear c0
  clear n1 n2 n3 n4 m1 m2 m3 m4 n1' m1' n2' m2' hb11 hB10 hown ho10 HN8 HM8 HB8 HB9 HR
  rw [show aggN zeroN (.slice mo zeroN.names.length mc) = .agg #[.int .i64 0, .int .i64 0, .int .i64 0, .int .i64 0, .int .i64 0, .int .i64 0, .int .i64 0, .string ⟨#[]⟩, .int .i64 0, .slice mo 0 mc] from rfl]
  rw [show cellsN zeroN (.slice mo 0 mc) = #[.int .i64 0, .int .i64 0, .int .i64 0, .int .i64 0, .int .i64 0, .int .i64 0, .int .i64 0, .string ⟨#[]⟩, .int .i64 0, .slice mo 0 mc] from rfl] at *
  go_wp2_with fail
  generalize World.alloc u10 _ = u11 at *
  refine HE.out.mono ?_
  rintro e v11 ⟨rfl, rfl⟩
  have HL1 := Lib.hid (HROWN.out u11 (Below.refl _ _))
  have HL2 := Lib.hid (HROWM.out u11 (Below.refl _ _))
  go_wp2_with (first
    | (refine wpList_wanted (by rfl) ?_; refine wpList_load_row rfl 27 (.tmp 1) rfl a rfl 27 (cellsN (⟨5, 8, 1, 3, 9, 3, 1, ⟨#[97, 98, 99]⟩, 2, [⟨#[97]⟩]⟩) (.slice (some ⟨ngb, ngo, none⟩) 1 nc)) (0, 0) _ HL1.out Try.underlying27 rfl size27 ?_)
    | (refine wpList_wanted (by rfl) ?_; refine wpList_load_row rfl 27 (.tmp 7) rfl b rfl 27 (cellsN (⟨5, 9, 2147483647, 3, 9, 0, 1, ⟨#[]⟩, 2, [⟨#[97]⟩]⟩) (.slice xo 1 xc)) (0, 0) _ HL2.out Try.underlying27 rfl size27 ?_))
  refine (HSX.out _ (Below.refl _ _)).mono ?_
  rintro e u12 ⟨rfl, hb12⟩
  have HL3 := Lib.hid (HROWN.out u12 hb12)
  have HSZ := Lib.hid (HSY.out u12 hb12)
  have HBY := Lib.hid (HBX.out.trans (hb12.mono HBX.out.size))
  clear hb12
  go_wp2_with (refine wpList_wanted (by rfl) ?_; refine wpList_load_row rfl 27 (.tmp 1) rfl a rfl 27 (cellsN (⟨5, 8, 1, 3, 9, 3, 1, ⟨#[97, 98, 99]⟩, 2, [⟨#[97]⟩]⟩) (.slice (some ⟨ngb, ngo, none⟩) 1 nc)) (0, 0) _ HL3.out Try.underlying27 rfl size27 ?_)
  refine HSZ.out.mono ?_
  rintro e u13 ⟨rfl, hb13⟩
  go_wp2_with fail
  go_ret
  exact ⟨rfl, HBY.out.trans (hb13.mono HBY.out.size)⟩
end Go.Proofs.Ytaoligpckpabfaa
