/-
  A failure tells its error at its place: the walk. No condition.
-/
import Derived.Test.YtpikdeikcmdcmaaAw
namespace Go.Proofs.Ytpikdeikcmdcmaa
open Go.RowKit
theorem failL_at (e place : Int) (k j : Nat) (h : j < k) : (failL e place k)[j]? = some (bareR (if (j : Int) = place then e else 14)) := by
  induction k with
  | zero => omega
  | succ k ih =>
    by_cases hj : j < k
    · rw [failL, List.getElem?_append_left (by rw [failL_len]; exact hj)]; exact ih hj
    · obtain rfl : j = k := by omega
      rw [failL, List.getElem?_append_right (by rw [failL_len]; exact Nat.le_refl _), failL_len]; simp
set_option maxHeartbeats 4000000 in
theorem fails_walk (num e place n : Int) (w : World) (hn1 : -9223372036854775808 ≤ n) (hn2 : n ≤ 9223372036854775807) :
    Calls Try.prog 7 #[.int .i64 num, .int .i64 e, .int .i64 place, .int .i64 n] w fun x w' => x = .returned (.bool true) ∧ Below w.heap.size w w' := by
  go_enter Try.func7, Try.ntmps7
  go_wp2_with fail
  refine (awake_any w).mono ?_
  rintro x w1 ⟨rfl, hb1⟩
  have HB1 := Lib.hid hb1; clear hb1
  by_cases h1 : n < 0
  · have g1 : decide (n < 0) = true := by simpa using h1
    go_wp2_with fail
    go_ret
    exact ⟨rfl, HB1.out⟩
  · have g1 : decide (n < 0) = false := by simpa using h1
    by_cases h2 : 16 < n
    · have g2 : decide (16 < n) = true := by simpa using h2
      go_wp2_with fail
      go_ret
      exact ⟨rfl, HB1.out⟩
    · have g2 : decide (16 < n) = false := by simpa using h2
      by_cases h3 : e = 14
      · have g3 : (e == 14) = true := by simpa using h3
        go_wp2_with fail
        go_ret
        exact ⟨rfl, HB1.out⟩
      · have g3 : (e == 14) = false := by simpa using h3
        obtain ⟨m, rfl⟩ := Int.eq_ofNat_of_zero_le (show 0 ≤ n by omega)
        have hm : failN (m : Int) = m := by unfold failN; rw [if_neg (by omega)]; simp
        have HM := Lib.hid hm
        have HE := Lib.hid h3
        clear hm h3
        go_wp2_with fail
        refine (fail_any num e place m w1 hn1 hn2).mono ?_
        rintro x w2 ⟨a, c, rs, rfl, hown, hres, hb2⟩
        rw [HM.out] at hown hres
        rw [HM.out]
        obtain ⟨a2, c2, e2, hi⟩ := hown.isRes
        have hl : rs.length = m := by have := congrArg List.length hres; rw [failL_len] at this; simpa [resL] using this
        rw [hl] at e2 hi
        simp only [Value.slice.injEq] at e2
        obtain ⟨rfl, -, rfl⟩ := e2
        have hb3 : Below w2.heap.size w2 (w2.alloc (.cells #[.int .i64 num, .int .i64 0, .int .i64 e, .int .i64 place, .slice a m c] 26)) := (Below.refl _ _).alloc (Nat.le_refl _) _
        have HI := Lib.hid (hi.below hb3)
        have HR := Lib.hid hres
        have hx4 : (w2.alloc (.cells #[.int .i64 num, .int .i64 0, .int .i64 e, .int .i64 place, .slice a m c] 26)).cell? ⟨w2.heap.size, 4, none⟩ = some (.slice a m c) := by rw [cell_heap (heap_new _ _)]; rfl
        have HB3 := Lib.hid (HB1.out.trans ((hb2.trans (hb3.mono hb2.size)).mono HB1.out.size))
        have HL := Lib.hid hl
        clear hown hres hi hb3 hb2 hl
        simp only [aggP]
        go_wp2_with fail
        generalize (w2.alloc (.cells #[.int .i64 num, .int .i64 0, .int .i64 e, .int .i64 place, .slice a m c] 26)) = w3 at *
        go_loopw [10] (fun i wr => ∃ k : Nat, k ≤ m ∧ i = .int .i64 k ∧ wr = w3) (fun i _ => m - (intOf i).toNat)
        case atStart => exact ⟨0, Nat.zero_le _, rfl, rfl⟩
        case round =>
          obtain ⟨k, hk, rfl, rfl⟩ := hrel
          by_cases hlt : k < m
          · obtain ⟨b, off, rfl, x, v, hx, hv, c0, c1, c2, c3, c4, c5, c6, c7, c8, c9, c10⟩ := HI.out.get hlt
            have hx2 := resL_at rs k (by rw [HL.out]; exact hlt) hx
            rw [HR.out, failL_at _ _ _ _ hlt] at hx2
            cases hx2
            clear hx hv c2 c3 c4 c5 c7 c8 c9 c10
            simp only [bareR] at c0 c1 c6
            by_cases hp : (k : Int) = place
            · have k1 : ((k : Int) == place) = true := by simpa using hp
              have k2 : ((k : Int) != place) = false := by simpa using hp
              rw [if_pos hp] at c0
              have k3 : (e == e) = true := by simp
              have HP := Lib.hid hp; clear hp
              go_wp2_with fail
              go_roundw
              case rel => exact ⟨k + 1, by omega, by go_num, by trivial⟩
              case measure => simp [intOf]; omega
            · have k1 : ((k : Int) == place) = false := by simpa using hp
              have k2 : ((k : Int) != place) = true := by simpa using hp
              rw [if_neg hp] at c0
              have k3 : ((14 : Int) == e) = false := by simpa using fun h => HE.out h.symm
              have HP := Lib.hid hp; clear hp
              go_wp2_with fail
              go_roundw
              case rel => exact ⟨k + 1, by omega, by go_num, by trivial⟩
              case measure => simp [intOf]; omega
          · obtain rfl : k = m := by omega
            go_wp2_with fail
            go_ret
            exact ⟨rfl, HB3.out⟩
theorem lit_i64' {z : Int} (h : (Lit.int .i64 z).wf = true) : In64 z := by
  simp only [Lit.wf, IntKind.min, IntKind.max, IntKind.signed, IntKind.bits, Bool.and_eq_true, decide_eq_true_eq, if_true] at h
  unfold In64; omega
theorem fails_said (num e place n : Int) (W : World) (h1 : (Lit.int .i64 num).wf = true) (h2 : (Lit.int .i64 e).wf = true) (h3 : (Lit.int .i64 place).wf = true) (h4 : (Lit.int .i64 n).wf = true) :
    Calls Try.prog 7 #[.int .i64 num, .int .i64 e, .int .i64 place, .int .i64 n] W fun x w' => x = .returned (.bool true) ∧ Below W.heap.size W w' :=
  fails_walk num e place n W (lit_i64' h4).1 (lit_i64' h4).2
end Go.Proofs.Ytpikdeikcmdcmaa
