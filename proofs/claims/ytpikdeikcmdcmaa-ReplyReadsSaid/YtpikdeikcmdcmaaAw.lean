/-
  What the document tells of a failure, and of bytes. No condition.
-/
import Derived.Test.YtpikdeikcmdcmaaHeavy
namespace Go.Proofs.Ytpikdeikcmdcmaa
open Go.RowKit
theorem goodB (e : Int) (h : In64 e) : GoodR (bareR e) := by
  have h0 : In64 0 := by unfold In64; omega
  exact ⟨h, by simp [bareR, ByteArray.size], by simp [bareR, ByteArray.size], by simp [bareR], by simp [bareR], h0, h0, h0, h0, h0, h0, h0⟩
theorem good_fail (num e place : Int) (k : Nat) (h1 : In64 num) (h2 : In64 e) (h3 : In64 place) (hk : k ≤ 16) : GoodP ⟨num, 0, e, place, failL e place k⟩ := by
  refine ⟨h1, by unfold In64; simp only; omega, h2, h3, by simp only [failL_len]; exact hk, ?_⟩
  simp only
  clear hk
  induction k with
  | zero => intro x hx; cases hx
  | succ k ih =>
    intro x hx
    simp only [failL, List.mem_append, List.mem_singleton] at hx
    rcases hx with hx | rfl
    · exact ih x hx
    · split
      · exact goodB e h2
      · exact goodB 14 (by unfold In64; omega)
theorem heap_below {w w' : World} {B k : Nat} {o : Obj} (hb : Below B w w') (hp : k < B) (hc : w.heap[k]? = some o) : w'.heap[k]? = some o := (hb.block k hp).trans hc
theorem in64 (z : Int) (h1 : -1000 ≤ z) (h2 : z ≤ 1000) : In64 z := ⟨by omega, by omega⟩
/-- two results that were made, in memory -/
theorem res_two {w : World} {base : Nat} {a : Option Addr} {c : Nat} {rs : List (Re × Value)} (h : ResOwn w base (.slice a 2 c) rs) (x y : Re) (hr : resL rs = [x, y]) :
    ∃ b off, a = some ⟨b, off, none⟩ ∧ w.cell? ⟨b, off, none⟩ = some (.int .i64 x.err) ∧ w.cell? ⟨b, off + 11, none⟩ = some (.int .i64 y.err) ∧ IsRes w a 2 rs := by
  obtain ⟨a2, c2, e, hi⟩ := h.isRes
  have hl : rs.length = 2 := by have := congrArg List.length hr; simpa [resL] using this
  rw [hl] at e hi
  simp only [Value.slice.injEq] at e
  obtain ⟨rfl, -, rfl⟩ := e
  obtain ⟨b, off, rfl, x0, v0, e0, _, k0, _⟩ := hi.get (i := 0) (by omega)
  obtain ⟨b', off', e', x1, v1, e1, _, k1, _⟩ := hi.get (i := 1) (by omega)
  cases e'
  have g0 := resL_at rs 0 (by omega) e0
  have g1 := resL_at rs 1 (by omega) e1
  rw [hr] at g0 g1
  simp only [List.getElem?_cons_zero, List.getElem?_cons_succ, Option.some.injEq] at g0 g1
  subst g0 g1
  exact ⟨b, off, rfl, by simpa using k0, by simpa using k1, hi⟩
set_option maxHeartbeats 4000000 in
theorem awake_any (w : World) : Calls Try.prog 10 #[] w fun e w' => e = .returned (.bool true) ∧ Below w.heap.size w w' := by
  go_enter Try.func10, Try.ntmps10
  go_wp2_with fail
  refine (fail_any 5 5 1 2 w (by omega) (by omega)).mono ?_
  rintro e w1 ⟨a, c, rs, rfl, hown, hres, hb1⟩
  have hr2 : resL rs = [bareR 14, bareR 5] := by rw [hres]; rfl
  obtain ⟨b, off, rfl, c0, c1, hi⟩ := res_two hown _ _ hr2
  simp only [bareR] at c0 c1
  have hg : GoodP ⟨5, 0, 5, 1, [bareR 14, bareR 5]⟩ := by
    have := good_fail 5 5 1 2 (in64 _ (by omega) (by omega)) (in64 _ (by omega) (by omega)) (in64 _ (by omega) (by omega)) (by omega)
    exact this
  have HG := Lib.hid hg
  have HI := Lib.hid hi
  have HR := Lib.hid hr2
  have HB1 := Lib.hid hb1
  clear hown hres hr2 hi hg hb1
  simp only [aggP, show failN 2 = 2 from rfl]
  have hb2 : Below w1.heap.size w1 (w1.alloc (.cells #[.int .i64 5, .int .i64 0, .int .i64 5, .int .i64 1, .slice (some ⟨b, off, none⟩) 2 c] 26)) := (Below.refl _ _).alloc (Nat.le_refl _) _
  have hx2 : (w1.alloc (.cells #[.int .i64 5, .int .i64 0, .int .i64 5, .int .i64 1, .slice (some ⟨b, off, none⟩) 2 c] 26)).heap[w1.heap.size]? = some (.cells #[.int .i64 5, .int .i64 0, .int .i64 5, .int .i64 1, .slice (some ⟨b, off, none⟩) 2 c] 26 (0, 0)) := heap_new _ _
  have HB2 := Lib.hid hb2; have HX2 := Lib.hid hx2
  clear hb2 hx2
  go_wp2_with fail
  generalize (w1.alloc (.cells #[.int .i64 5, .int .i64 0, .int .i64 5, .int .i64 1, .slice (some ⟨b, off, none⟩) 2 c] 26)) = w2 at *
  refine (put_any 5 0 5 1 _ 2 c rs w2 (HI.out.below HB2.out) (by omega) (by rw [HR.out]; intro x hx; exact (HG.out.each x hx).fit)).mono ?_
  rintro e w3 ⟨a3, n3, c3, rfl, hw3, hb3⟩
  have HB3 := Lib.hid hb3; have HW3 := Lib.hid hw3
  clear hb3 hw3
  have hlen : n3 ≤ 100000000000 := by
    have h1 := HW3.out.is.len
    have h2 : (putR ⟨5, 0, 5, 1, resL rs⟩).length ≤ 1000 := by rw [HR.out]; decide +kernel
    omega
  go_wp2_with fail
  refine (get_any a3 n3 c3 _ w3 HW3.out.is hlen).mono ?_
  rintro e w4 ⟨v4, rs4, rfl, hown4, hres4, hl4, hb4⟩
  have hgp := getR_putR _ HG.out
  rw [HR.out, hgp] at hres4
  rw [HR.out, hgp]
  have HB4 := Lib.hid hb4
  obtain ⟨a4, c4, e4, hi4⟩ := hown4.isRes
  have HL4 := Lib.hid hl4
  have HI4 := Lib.hid hi4; have HR4 := Lib.hid hres4
  clear hb4 hi4 hres4 hown4 hl4
  subst e4
  simp only [aggP]
  have hX1 : w4.heap[w1.heap.size]? = some (.cells #[.int .i64 5, .int .i64 0, .int .i64 5, .int .i64 1, .slice (some ⟨b, off, none⟩) 2 c] 26 (0, 0)) := heap_below HB4.out (lt_of_heap (heap_below HB3.out (lt_of_heap HX2.out) HX2.out)) (heap_below HB3.out (lt_of_heap HX2.out) HX2.out)
  have hB24 : Below w1.heap.size w1 w4 := HB2.out.trans ((HB3.out.trans (HB4.out.mono HB3.out.size)).mono HB2.out.size)
  have HB24 := Lib.hid hB24
  have hb5 : Below w4.heap.size w4 (w4.alloc (.cells #[.int .i64 5, .int .i64 0, .int .i64 5, .int .i64 1, .slice a4 rs4.length c4] 26)) := (Below.refl _ _).alloc (Nat.le_refl _) _
  have hx5 : (w4.alloc (.cells #[.int .i64 5, .int .i64 0, .int .i64 5, .int .i64 1, .slice a4 rs4.length c4] 26)).heap[w4.heap.size]? = some (.cells #[.int .i64 5, .int .i64 0, .int .i64 5, .int .i64 1, .slice a4 rs4.length c4] 26 (0, 0)) := heap_new _ _
  have hX15 := heap_below hb5 (lt_of_heap hX1) hX1
  have c05 := cell_later hb5 (cell_later hB24 c0)
  have c15 := cell_later hb5 (cell_later hB24 c1)
  have HB5 := Lib.hid hb5; have HX5 := Lib.hid hx5; have HX15 := Lib.hid hX15
  clear c0 c1 hb5 hx5 hX15 hX1 hB24
  generalize hnn : rs4.length = n4 at *
  have q0 : (w4.alloc (.cells #[.int .i64 5, .int .i64 0, .int .i64 5, .int .i64 1, .slice a4 n4 c4] 26)).cell? ⟨w1.heap.size, 0, none⟩ = some (.int .i64 5) := by rw [cell_heap HX15.out]; rfl
  have q1 : (w4.alloc (.cells #[.int .i64 5, .int .i64 0, .int .i64 5, .int .i64 1, .slice a4 n4 c4] 26)).cell? ⟨w1.heap.size, 1, none⟩ = some (.int .i64 0) := by rw [cell_heap HX15.out]; rfl
  have q2 : (w4.alloc (.cells #[.int .i64 5, .int .i64 0, .int .i64 5, .int .i64 1, .slice a4 n4 c4] 26)).cell? ⟨w1.heap.size, 2, none⟩ = some (.int .i64 5) := by rw [cell_heap HX15.out]; rfl
  have q3 : (w4.alloc (.cells #[.int .i64 5, .int .i64 0, .int .i64 5, .int .i64 1, .slice a4 n4 c4] 26)).cell? ⟨w1.heap.size, 3, none⟩ = some (.int .i64 1) := by rw [cell_heap HX15.out]; rfl
  have q4 : (w4.alloc (.cells #[.int .i64 5, .int .i64 0, .int .i64 5, .int .i64 1, .slice a4 n4 c4] 26)).cell? ⟨w1.heap.size, 4, none⟩ = some (.slice (some ⟨b, off, none⟩) 2 c) := by rw [cell_heap HX15.out]; rfl
  go_wp2_with fail
  generalize (w4.alloc (.cells #[.int .i64 5, .int .i64 0, .int .i64 5, .int .i64 1, .slice a4 n4 c4] 26)) = w5 at *
  refine (same_any 5 0 5 1 a4 n4 c4 rs4 5 0 5 1 (some ⟨b, off, none⟩) 2 c rs w5 (HI4.out.below HB5.out) (HI.out.below (HB24.out.trans (HB5.out.mono HB24.out.size))) (by have := HL4.out; omega) (by omega)).mono ?_
  rintro e w6 ⟨rfl, hb6⟩
  have hsame : decide ((⟨5, 0, 5, 1, resL rs4⟩ : Rp) = ⟨5, 0, 5, 1, resL rs⟩) = true := by rw [HR4.out, HR.out]; simp
  rw [hsame]
  clear hsame
  go_wp2_with fail
  go_ret
  exact ⟨rfl, HB1.out.trans ((HB24.out.trans ((HB5.out.trans (hb6.mono HB5.out.size)).mono HB24.out.size)).mono HB1.out.size)⟩
end Go.Proofs.Ytpikdeikcmdcmaa
