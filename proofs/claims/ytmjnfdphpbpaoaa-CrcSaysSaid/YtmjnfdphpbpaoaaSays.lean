/-
  The walk of CrcSays: it returns true, and no memory that was there turns. Condition: the slice has at most 140737488351232 elements.
-/
import Derived.Test.YtmjnfdphpbpaoaaAw
namespace Go.Proofs.Ytmjnfdphpbpaoaa
open Go.RowKit

theorem info5 : (Try.prog.info? 5).map (fun i => (i.zero, i.size, i.bytes)) = some (some (.int .u8 0), 1, 1) := by kernel_rfl

set_option maxHeartbeats 400000 in
theorem says_some (n c b off : Nat) (ls : List (List UInt8)) (w : World) (hlen : ls.length = n) (hc : n ≤ 20)
    (hcell : ∀ i, i < n → ∃ a m c, w.cell? ⟨b, off + i, none⟩ = some (.slice a m c) ∧ IsB w a m c (ls.getD i []) ∧ m ≤ 140737488351232) :
    Calls Try.prog 4 #[.slice (some ⟨b, off, none⟩) n c] w fun e w' => e = .returned (.bool true) ∧ Below w.heap.size w w' := by
  have HL := Lib.hid hlen; clear hlen
  have HC := Lib.hid hcell; clear hcell
  go_enter Try.func4, Try.ntmps4
  go_wp2_with fail
  refine (awake_any _).mono ?_
  rintro e w1 ⟨rfl, hb⟩
  go_wp2_with fail
  go_loopw [3, 4] (fun v i wr => ∃ k : Nat, k ≤ n ∧ i = .int .i64 k ∧ (ls.take k).flatten.length ≤ 200 * k ∧ OwnB wr w.heap.size 5 v (ls.take k).flatten ∧ Below w.heap.size w wr) (fun _ i _ => n - (intOf i).toNat)
  case atStart => exact ⟨0, Nat.zero_le _, rfl, Nat.le_refl _, OwnB.nil _ _ _, hb⟩
  case round =>
    obtain ⟨k, hk, rfl, hl200, hown, hbl⟩ := hrel
    by_cases hlt : k < n
    · obtain ⟨a, m, c', h1, h2, h3⟩ := HC.out k hlt
      have h1' := cell_later hbl h1
      have HB := Lib.hid (h2.below hbl)
      have HF := Lib.hid (take_flat ls k (by rw [HL.out]; exact hlt))
      clear h1 h2
      generalize ls.getD k [] = l at HB HF
      by_cases h200 : m ≤ 200
      · have hc1 : (ls.take k).flatten.length + m ≤ 140737488355328 := by omega
        have hc2 := hbl.size
        have hlm : l.length = m := HB.out.len
        go_wp2_with (at_builtin; refine wpList_append_bytes rfl _ _ 25 rfl w.heap.size 5 Try.underlying25 info5 _ _ rfl hown _ _ _ _ rfl HB.out hc1 hc2 ?_; intro v' w2 hown' hgr hb2; clear hown)
        go_roundw
        case rel => exact ⟨k + 1, by omega, by go_num, by rw [HF.out, List.length_append]; omega, by rw [HF.out]; exact hown', hbl.trans hb2⟩
        case measure => simp [intOf]; omega
      · go_wp2
        go_ret
        exact ⟨rfl, hbl⟩
    · obtain rfl : k = n := by omega
      rw [List.take_of_length_le (by rw [HL.out]; exact Nat.le_refl _)] at hown hl200
      obtain ⟨ao, cap, rfl, hsrc⟩ := hown.isB
      have hbb : IsBB wr (some ⟨b, off, none⟩) k ls := IsBB.below (w := w) ⟨HL.out, .inr ⟨b, off, rfl, HC.out⟩⟩ hbl
      have hz := hbl.size
      generalize hall : ls.flatten = all at hown hl200 hsrc
      have HA := Lib.hid hall; clear hall hown
      generalize all.length = m at hl200 hsrc
      go_wp2_with fail
      refine (of_any _ _ _ ls _ hbb (by omega)).mono ?_
      rintro e w' ⟨rfl, rfl⟩
      rw [HA.out]
      go_wp2_with fail
      refine (refcrc_any _ _ _ all _ hsrc (by omega)).mono ?_
      rintro e w' ⟨rfl, rfl⟩
      go_wp2_with fail
      refine (of_any _ _ _ [all] _ (isBB_one _ _ _ _ all hsrc (by omega) _ _ _ rfl) (by omega)).mono ?_
      rintro e w' ⟨rfl, rfl⟩
      rw [show [all].flatten = all from by simp]
      go_wp2_with fail
      refine (refcrc_any _ _ _ all _ (hsrc.alloc _) (by omega)).mono ?_
      rintro e w' ⟨rfl, rfl⟩
      go_wp2
      go_ret
      exact ⟨rfl, hbl.alloc hz _⟩

/-- the empty slice, nil or not -/
theorem says_none (ao : Option Addr) (c : Nat) (w : World) :
    Calls Try.prog 4 #[.slice ao 0 c] w fun e w' => e = .returned (.bool true) ∧ Below w.heap.size w w' := by
  go_enter Try.func4, Try.ntmps4
  go_wp2_with fail
  refine (awake_any _).mono ?_
  rintro e w1 ⟨rfl, hb⟩
  go_wp2_with fail
  refine wp_loop_rounds 1 ?_
  rw [rounds_succ]
  go_wp2_with fail
  have hz := hb.size
  refine (of_none _ _ _).mono ?_
  rintro e w' ⟨rfl, rfl⟩
  go_wp2_with fail
  refine (refcrc_none _ _ _).mono ?_
  rintro e w' ⟨rfl, rfl⟩
  go_wp2_with fail
  refine (of_any _ _ _ [[]] _ (isBB_one _ _ _ _ [] (isB_nil _) (by omega) _ _ _ rfl) (by omega)).mono ?_
  rintro e w' ⟨rfl, rfl⟩
  rw [show [([] : List UInt8)].flatten = [] from rfl]
  go_wp2_with fail
  refine (refcrc_none _ _ _).mono ?_
  rintro e w' ⟨rfl, rfl⟩
  go_wp2
  go_ret
  exact ⟨rfl, hb.alloc hz _⟩

theorem says_many (ao : Option Addr) (n c : Nat) (w : World) (h : 20 < n) :
    Calls Try.prog 4 #[.slice ao n c] w fun e w' => e = .returned (.bool true) ∧ Below w.heap.size w w' := by
  go_enter Try.func4, Try.ntmps4
  go_wp2_with fail
  refine (awake_any _).mono ?_
  rintro e w1 ⟨rfl, hb⟩
  go_wp2
  go_ret
  exact ⟨rfl, hb⟩

theorem says_walk (ao : Option Addr) (n c : Nat) (ls : List (List UInt8)) (w : World) (hl : IsBB w ao n ls) (_hle : n ≤ c) (_hc : c * 24 ≤ 140737488351232) :
    Calls Try.prog 4 #[.slice ao n c] w fun e w' => e = .returned (.bool true) ∧ Below w.heap.size w w' := by
  by_cases h0 : n = 0
  · subst h0; exact says_none ao c w
  · by_cases h20 : n ≤ 20
    · rcases hl.at_ with h1 | ⟨b, off, rfl, h2⟩
      · exact absurd h1 h0
      · exact says_some n c b off ls w hl.len h20 h2
    · exact says_many ao n c w (by omega)

end Go.Proofs.Ytmjnfdphpbpaoaa
