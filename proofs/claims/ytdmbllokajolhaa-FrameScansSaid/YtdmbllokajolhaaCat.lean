/-
  Slices of bytes, one behind the other.
-/
import Derived.Test.YtdmbllokajolhaaNum
import Derived.Test.YtdmbllokajolhaaOnly
namespace Go.Proofs.Ytdmbllokajolhaa
open Go.RowKit

set_option maxHeartbeats 1000000 in
theorem grow_any (n : Nat) (w : World) (hn : n ≤ 70368744177664) :
    Calls Try.prog 22 #[.slice none 0 0, .int .i64 (n : Int)] w fun e w' => ∃ v', e = .returned v' ∧ OwnB w' w.heap.size 5 v' [] ∧ Below w.heap.size w w' := by
  by_cases h0 : n = 0
  · subst h0
    go_enter Try.func22, Try.ntmps22
    go_wp2_with fail
    go_ret
    exact ⟨_, rfl, OwnB.nil _ _ _, Below.refl _ _⟩
  · obtain ⟨i0, hi0, hz0, hz1, hz2⟩ := info_parts info5
    have hold : (Builtin.firstCells i0.size 0 (.slice none 0 0)).run Try.prog w.drew = .ok (#[] : Array Value) w.drew := run_firstCells_none w.drew i0.size 0 0 0
    have hfit : Builtin.nextslicecap (0 + n) 0 * i0.bytes ≤ 281474976710656 := by
      refine growslice_fits (by omega) ?_
      rw [hz2]; omega
    have hrz := fun ty => Lib.run_append_grow_zeros w 23 3 ty 5 i0 (.int .u8 0) .i64 .i64 Try.underlying23 Try.underlying3 hi0 hz0 none 0 0 [] hold n (by omega) (by omega) (by omega) (by omega) (by rw [hz2]; omega) hfit
    rw [Nat.zero_add] at hrz
    have hge := grownCap_ge w n 0 5
    have hle := grownCap_le_maxLen w n 0 5 (by unfold maxLen; omega)
    have hcs : ((([] : List Value).toArray ++ Builtin.zeroCells (Value.int .u8 0).cells n ++ Builtin.zeroCells (Value.int .u8 0).cells (grownCap w n 0 5 - n)) : Array Value).size = grownCap w n 0 5 := by
      simp [Builtin.zeroCells, Value.cells]
      omega
    generalize ([] : List Value).toArray ++ Builtin.zeroCells (Value.int .u8 0).cells n ++ Builtin.zeroCells (Value.int .u8 0).cells (grownCap w n 0 5 - n) = cur at hrz hcs
    generalize grownCap w n 0 5 = G at hrz hge hle hcs
    have HC := Lib.hid hcs
    have HR := Lib.hid hrz
    clear hfit hold hcs hrz hi0 hz0 hz1 hz2
    unfold maxLen at hle
    have g0 : (0 : Int) < (n : Int) := by omega
    go_enter Try.func22, Try.ntmps22
    go_wp2_with (at_builtin; refine Lib.wpList_append_run _ rfl _ _ _ _ rfl _ _ rfl rfl _ _ (HR.out _) ?_)
    go_ret
    refine ⟨_, rfl, ⟨by simp, .inr ⟨_, _, _, rfl, Nat.le_refl _, heap_new w.drew _, by simp, by unfold maxLen; omega, by simpa using HC.out, by simp⟩⟩, ((Below.refl _ _).drew).alloc (Nat.le_refl _) _⟩

theorem flat_len (ls : List (List UInt8)) (k : Nat) (h : k < ls.length) : (ls.take (k + 1)).flatten.length = (ls.take k).flatten.length + (ls.getD k []).length := by
  rw [take_flat ls k h, List.length_append]
theorem flat_le (ls : List (List UInt8)) (k : Nat) : (ls.take k).flatten.length ≤ ls.flatten.length := by
  have := congrArg List.length (congrArg List.flatten (List.take_append_drop k ls))
  rw [List.flatten_append, List.length_append] at this
  omega

set_option maxHeartbeats 1000000 in
theorem concat_any (b off len cap : Nat) (ls : List (List UInt8)) (w : World) (hlen : ls.length = len) (hm : ls.flatten.length ≤ 70368744177664) (hl9 : len ≤ 1000)
    (hc : ∀ i, i < len → ∃ a n c, w.cell? ⟨b, off + i, none⟩ = some (.slice a n c) ∧ IsB w a n c (ls.getD i []) ∧ n ≤ 140737488351232) :
    Calls Try.prog 15 #[.slice (some ⟨b, off, none⟩) len cap] w fun e w' => ∃ v', e = .returned v' ∧ OwnB w' w.heap.size 5 v' ls.flatten ∧ Below w.heap.size w w' := by
  have HC := Lib.hid hc; clear hc
  have HL := Lib.hid hlen; clear hlen
  go_enter Try.func15, Try.ntmps15
  go_wp2_with fail
  go_loop [3, 11] (fun c i => ∃ k : Nat, k ≤ len ∧ i = .int .i64 (k : Int) ∧ c = .int .i64 (((ls.take k).flatten.length : Nat) : Int)) (fun _ i => len - (intOf i).toNat)
  case atStart => exact ⟨0, Nat.zero_le _, rfl, rfl⟩
  case round =>
    obtain ⟨k, hk, rfl, rfl⟩ := hrel
    by_cases hlt : k < len
    · obtain ⟨a, n, c, hcell, hb, hn⟩ := HC.out k hlt
      have hfl := flat_len ls k (by rw [HL.out]; exact hlt)
      have hbl := hb.len
      have hle := flat_le ls (k + 1)
      rw [hbl] at hfl
      rw [hfl] at hle
      generalize (ls.take k).flatten.length = q at hfl hle
      have HF := Lib.hid hfl
      have hq : q + n ≤ 70368744177664 := by omega
      clear hb hfl hbl hle
      go_wp2_with fail
      go_round
      case rel => exact ⟨k + 1, by omega, by go_num, by rw [HF.out]; go_num⟩
      case measure => simp [intOf]; omega
    · obtain rfl : k = len := by omega
      rw [List.take_of_length_le (by rw [HL.out]; exact Nat.le_refl _)]
      generalize hq : ls.flatten.length = q at hm
      have HQ := Lib.hid hq; clear hq
      go_wp2_with fail
      refine (grow_any q _ hm).mono ?_
      rintro e w1 ⟨v1, rfl, hown1, hb1⟩
      have HO := Lib.hid hown1; clear hown1
      go_wp2_with fail
      go_loopw [6, 27] (fun v i wr => ∃ j : Nat, j ≤ k ∧ i = .int .i64 (j : Int) ∧ OwnB wr w.heap.size 5 v (ls.take j).flatten ∧ Below w.heap.size w wr) (fun _ i _ => k - (intOf i).toNat)
      case atStart => exact ⟨0, Nat.zero_le _, rfl, HO.out, hb1⟩
      case round =>
        clear hb1 HO
        obtain ⟨j, hj, rfl, hown, hbl⟩ := hrel
        by_cases hlt2 : j < k
        · obtain ⟨a, n, c, hcell0, hb, hn⟩ := HC.out j hlt2
          have hcell := cell_later hbl hcell0
          have hfl := flat_len ls j (by rw [HL.out]; exact hlt2)
          have hft := take_flat ls j (by rw [HL.out]; exact hlt2)
          have hbn := hb.len
          have hle := flat_le ls (j + 1)
          have hz := hbl.size
          have hc1 : (ls.take j).flatten.length + n ≤ 140737488355328 := by rw [hbn] at hfl; rw [HQ.out] at hle; omega
          have HB := Lib.hid (hb.below hbl)
          have HT := Lib.hid hft
          have HO := Lib.hid hown
          clear hb hfl hft hbn hle hown hcell0
          go_wp2_with (at_builtin; refine wpList_append_bytes rfl _ _ 23 rfl w.heap.size 5 Try.underlying23 info5 _ _ rfl HO.out _ _ _ _ rfl HB.out hc1 hz ?_; intro v2 w2 hown2 hgr2 hb2; clear hgr2)
          go_roundw
          case rel => exact ⟨j + 1, by omega, by go_num, by rw [HT.out]; exact hown2, hbl.trans hb2⟩
          case measure => simp [intOf]; omega
        · obtain rfl : j = k := by omega
          rw [List.take_of_length_le (by rw [HL.out]; exact Nat.le_refl _)] at hown
          go_wp2_with fail
          go_ret
          exact ⟨_, rfl, hown, hbl⟩
end Go.Proofs.Ytdmbllokajolhaa
