/-
  The next frame of bytes: whatever they are.
-/
import Derived.Test.YtdmbllokajolhaaNextA
namespace Go.Proofs.Ytdmbllokajolhaa
open Go.RowKit

set_option maxHeartbeats 1000000 in
theorem next_any (ao : Option Addr) (n c : Nat) (l : List UInt8) (w : World) (h : IsB w ao n c l) (hn : n ≤ 70368744177664) (hnc : n ≤ c) :
    Calls Try.prog 17 #[.slice ao n c] w fun e w' => e = .returned (.tuple #[.int .i64 ((nextF l).1 : Int), .int .i64 ((nextF l).2 : Int)]) ∧ Below w.heap.size w w' := by
  have hlen := h.len
  by_cases h1 : n < 12
  · have hs : nextF l = (0, 1) := by unfold nextF; rw [if_pos (by omega)]
    rw [hs]
    go_enter Try.func17, Try.ntmps17
    go_wp2_with fail
    go_ret2
    exact ⟨rfl, Below.refl _ _⟩
  obtain ⟨b, off, rfl⟩ : ∃ b off, ao = some ⟨b, off, none⟩ := by
    rcases h.at_ with h0 | ⟨b, off, h0, _⟩
    · omega
    · exact ⟨b, off, h0⟩
  have HB := Lib.hid h; clear h
  have HL := Lib.hid hlen; clear hlen
  have hx := not_walk (at4 l 0)
  have hne := ne32 (at4 l 4) (~~~ (at4 l 0))
  have hnx : nextF l = if at4 l 4 ≠ ~~~ (at4 l 0) ∨ 20000 < (at4 l 0).toNat then (0, 2)
      else if n < 12 + (at4 l 0).toNat then (0, 1)
      else if Crc.crc (l.take 8 ++ (l.drop 12).take (at4 l 0).toNat) ≠ at4 l 8 then (0, 2)
      else (12 + (at4 l 0).toNat, 0) := by
    unfold nextF
    rw [HL.out, if_neg (by omega)]
  have ha0 := fun w' (hw : IsB w' (some ⟨b, off, none⟩) n c l) => at_any _ n c l 0 w' hw hn (by omega)
  have ha4 := fun w' (hw : IsB w' (some ⟨b, off, none⟩) n c l) => at_any _ n c l 4 w' hw hn (by omega)
  have ha8 := fun w' (hw : IsB w' (some ⟨b, off, none⟩) n c l) => at_any _ n c l 8 w' hw hn (by omega)
  generalize at4 l 0 = x0 at *
  generalize at4 l 4 = x4 at *
  generalize at4 l 8 = x8 at *
  have HX := Lib.hid hx; clear hx
  have HNE := Lib.hid hne; clear hne
  have A0 := Lib.hid ha0; clear ha0
  have A4 := Lib.hid ha4; clear ha4
  have A8 := Lib.hid ha8; clear ha8
  have hsg : ¬ (IntKind.u32.signed = true) := by decide
  by_cases e4 : x4 = ~~~ x0
  · have hne := HNE.out
    rw [decide_eq_false (show ¬ (x4 ≠ ~~~ x0) from fun h => h e4)] at hne
    have g4 : ((x4.toNat : Int) != bits BinOp.xor IntKind.u32 IntKind.u32.max (x0.toNat : Int)) = false := by rw [HX.out]; exact hne
    clear hne HNE
    by_cases g5 : 20000 < x0.toNat
    · rw [if_pos (.inr g5)] at hnx
      rw [hnx]
      clear hnx e4
      have g6 : decide ((20000 : Int) < (x0.toNat : Int)) = true := by simp; omega
      go_enter Try.func17, Try.ntmps17
      go_wp2_with fail
      refine (A0.out _ HB.out).mono ?_
      rintro e w1 ⟨d1, rfl, rfl⟩
      go_wp2_with fail
      refine (A4.out _ (by exact HB.out.heapw rfl)).mono ?_
      rintro e w1 ⟨d2, rfl, rfl⟩
      go_wp2_with fail
      go_ret2
      exact ⟨rfl, below_draws (Below.refl _ _) _⟩
    rw [if_neg (by simp only [not_or]; exact ⟨fun h => h e4, g5⟩)] at hnx
    by_cases g7 : n < 12 + x0.toNat
    · rw [if_pos g7] at hnx
      rw [hnx]
      clear hnx e4
      have g6 : decide ((20000 : Int) < (x0.toNat : Int)) = false := by simp; omega
      generalize x0.toNat = k at *
      go_enter Try.func17, Try.ntmps17
      go_wp2_with fail
      refine (A0.out _ HB.out).mono ?_
      rintro e w1 ⟨d1, rfl, rfl⟩
      go_wp2_with fail
      refine (A4.out _ (by exact HB.out.heapw rfl)).mono ?_
      rintro e w1 ⟨d2, rfl, rfl⟩
      go_wp2_with fail
      go_ret2
      exact ⟨rfl, below_draws (Below.refl _ _) _⟩
    rw [if_neg g7] at hnx
    subst e4
    clear g4
    generalize ~~~ x0 = nx at HX A4
    generalize x0.toNat = k at *
    have A2 : ∀ (a2 : Option Addr) (n2 c2 : Nat), IsB w a2 n2 c2 ((l.drop 12).take k) → n2 ≤ 140737488351232 → ∀ w', w'.heap = (w.alloc (.cells #[.slice (some ⟨b, off, none⟩) 8 c, .slice a2 n2 c2] 23)).heap →
        Calls Try.prog 16 #[.slice (some ⟨w.heap.size, 0, none⟩) 2 2] w' fun e w'' => e = .returned (.int .u32 ((Crc.crc (l.take 8 ++ (l.drop 12).take k)).toNat : Int)) ∧ w' = w'' := by
      intro a2 n2 c2 h2 hm2 w' hw'
      have h3 := two_cells w (some ⟨b, off, none⟩) 8 c (l.take 8) (isB_take HB.out 8 (by omega)) (by decide) a2 n2 c2 _ h2 hm2 23 (0, 0) w.heap.size rfl
      have h4 := of_some 2 [l.take 8, (l.drop 12).take k] w.heap.size 0 2 w' rfl (by decide) (fun i hi => by
        obtain ⟨a, n, c, q1, q2, q3⟩ := h3 i hi
        exact ⟨a, n, c, (World.cell?_of_block (by rw [hw'])).trans q1, q2.heapw hw', q3⟩)
      rw [show [l.take 8, (l.drop 12).take k].flatten = l.take 8 ++ (l.drop 12).take k from by simp] at h4
      exact h4
    have hcr := ne32 (Crc.crc (l.take 8 ++ (l.drop 12).take k)) x8
    generalize Crc.crc (l.take 8 ++ (l.drop 12).take k) = y at A2 hcr hnx
    have hfin : ∀ e : Ending, Res (decide (y ≠ x8)) k e → e = .returned (.tuple #[.int .i64 ((nextF l).1 : Int), .int .i64 ((nextF l).2 : Int)]) := by
      intro e he
      rw [hnx]
      unfold Res at he
      by_cases hy : y = x8
      · rw [decide_eq_false (fun h => h hy)] at he
        rw [if_neg (fun h => h hy), he]
        simp
      · rw [decide_eq_true hy] at he
        rw [if_pos hy, he]
        simp
    by_cases hc12 : c = 12
    · have hz : IsB w (some ⟨b, off, none⟩) 0 0 ((l.drop 12).take k) := by
        obtain rfl : k = 0 := by omega
        rw [List.take_zero]; exact isB_zero 0
      exact (next_cap b off n c k l nx x8 y w hn hnc (by omega) (by omega) (by omega) hc12 HB HX A0 A4 A8 (Lib.hid (A2 _ _ _ hz (by omega))) _ hcr).mono fun e w' ⟨h1, h2⟩ => ⟨hfin e h1, h2⟩
    · have hz : IsB w (some ⟨b, off + 12, none⟩) k (c - 12) ((l.drop 12).take k) := isB_take (isB_drop HB.out 12 (c - 12) (by omega)) k (by omega)
      exact (next_room b off n c k l nx x8 y w hn hnc (by omega) (by omega) (by omega) hc12 HB HX A0 A4 A8 (Lib.hid (A2 _ _ _ hz (by omega))) _ hcr).mono fun e w' ⟨h1, h2⟩ => ⟨hfin e h1, h2⟩
  · have hne := HNE.out
    rw [decide_eq_true (show x4 ≠ ~~~ x0 from e4)] at hne
    have g4 : ((x4.toNat : Int) != bits BinOp.xor IntKind.u32 IntKind.u32.max (x0.toNat : Int)) = true := by rw [HX.out]; exact hne
    rw [if_pos (.inl e4)] at hnx
    rw [hnx]
    clear hnx e4 hne HNE
    go_enter Try.func17, Try.ntmps17
    go_wp2_with fail
    refine (A0.out _ HB.out).mono ?_
    rintro e w1 ⟨d1, rfl, rfl⟩
    go_wp2_with fail
    refine (A4.out _ (by exact HB.out.heapw rfl)).mono ?_
    rintro e w1 ⟨d2, rfl, rfl⟩
    go_wp2_with fail
    go_ret2
    exact ⟨rfl, below_draws (Below.refl _ _) _⟩
end Go.Proofs.Ytdmbllokajolhaa
