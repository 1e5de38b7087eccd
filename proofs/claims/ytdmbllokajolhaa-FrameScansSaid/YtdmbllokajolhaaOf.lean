/-
  crc.Of and the reference Crc return the sum of the bytes that they are given, and write nothing. Condition: each slice has at most 140737488351232 elements.
-/
import Derived.Test.YtdmbllokajolhaaRows
import Derived.Test.YtdmbllokajolhaaCrc
import Derived.Test.YtdmbllokajolhaaKit
namespace Go.Proofs.Ytdmbllokajolhaa
open Go.RowKit

theorem bits_xor32 (a b : BitVec 32) : bits .xor .u32 (a.toNat : Int) (b.toNat : Int) = ((a ^^^ b).toNat : Int) := by
  rw [u32_xor_nat _ _ a.isLt b.isLt, BitVec.toNat_xor]
theorem bits_and32 (a b : BitVec 32) : bits .and .u32 (a.toNat : Int) (b.toNat : Int) = ((a &&& b).toNat : Int) := by
  rw [u32_and_nat _ _ a.isLt b.isLt, BitVec.toNat_and]
theorem stp_walk (c : BitVec 32) : bits .xor .u32 ((c.toNat : Int) / 2) (bits .and .u32 3988292384 (-bits .and .u32 (c.toNat : Int) 1 % 4294967296)) = ((Crc.stp c).toNat : Int) := by
  have h1 := bits_and32 c 1#32
  have h2 : ((1#32).toNat : Int) = 1 := rfl
  rw [h2] at h1
  have h3 : -((c &&& 1#32).toNat : Int) % 4294967296 = ((0#32 - (c &&& 1#32)).toNat : Int) := by
    have := (c &&& 1#32).isLt
    rw [BitVec.toNat_sub]
    simp only [BitVec.toNat_ofNat]
    omega
  have h4 := bits_and32 3988292384#32 (0#32 - (c &&& 1#32))
  have h5 : ((3988292384#32).toNat : Int) = 3988292384 := rfl
  rw [h5] at h4
  have h6 : (c.toNat : Int) / (2 : Int) = ((c >>> 1).toNat : Int) := by
    rw [BitVec.toNat_ushiftRight, Nat.shiftRight_eq_div_pow]; omega
  rw [h1, h3, h4, h6, bits_xor32]
  rfl
theorem byt_walk (c : BitVec 32) (x : UInt8) : bits .xor .u32 (c.toNat : Int) ((x.toNat : Int) % 4294967296) = ((c ^^^ Crc.emb x).toNat : Int) := by
  have hx := x.toNat_lt
  have : (x.toNat : Int) % 4294967296 = ((Crc.emb x).toNat : Int) := by
    unfold Crc.emb
    rw [BitVec.toNat_ofNat]; omega
  rw [this, bits_xor32]
theorem not_walk (c : BitVec 32) : bits .xor .u32 IntKind.u32.max (c.toNat : Int) = ((~~~ c).toNat : Int) := by
  have h := bits_xor32 (~~~ 0#32) c
  have h5 : (((~~~ 0#32 : BitVec 32)).toNat : Int) = IntKind.u32.max := by decide
  rw [h5] at h
  rw [h, Crc.not_eq c, BitVec.xor_comm]; rfl

theorem take_flat (ls : List (List UInt8)) (k : Nat) (h : k < ls.length) : (ls.take (k + 1)).flatten = (ls.take k).flatten ++ ls.getD k [] := by
  rw [List.take_succ_eq_append_getElem h, List.flatten_append]
  simp [h]
theorem take_one (l : List UInt8) (k : Nat) (h : k < l.length) : l.take (k + 1) = l.take k ++ [l.getD k 0] := by
  rw [List.take_succ_eq_append_getElem h]
  simp [h]
theorem u32_eq {a b : Int} (h : a = b) : Value.int .u32 a = Value.int .u32 b := by rw [h]
theorem ret_u32 {a b : Int} (h : a = b) : Ending.returned (Value.int .u32 a) = .returned (Value.int .u32 b) := by rw [h]

set_option maxHeartbeats 400000 in
theorem of_some (len : Nat) (ls : List (List UInt8)) (b off cap : Nat) (w : World) (hlen : ls.length = len) (hm : len ≤ 140737488351232)
    (hc : ∀ i, i < len → ∃ a n c, w.cell? ⟨b, off + i, none⟩ = some (.slice a n c) ∧ IsB w a n c (ls.getD i []) ∧ n ≤ 140737488351232) :
    Calls Try.prog 16 #[.slice (some ⟨b, off, none⟩) len cap] w fun e w' => e = .returned (.int .u32 ((Crc.crc ls.flatten).toNat : Int)) ∧ w = w' := by
  have HL := Lib.hid hlen; clear hlen
  go_enter Try.func16, Try.ntmps16
  go_wp2
  go_loop [3, 10] (fun c i => ∃ k : Nat, k ≤ len ∧ i = .int .i64 k ∧ c = .int .u32 ((Crc.go Crc.ini (ls.take k).flatten).toNat : Int)) (fun _ i => len - (intOf i).toNat)
  case atStart => exact ⟨0, Nat.zero_le _, rfl, rfl⟩
  case round =>
    obtain ⟨k, hk, rfl, rfl⟩ := hrel
    by_cases hlt : k < len
    · obtain ⟨a, n, c, hcell, hb, hn⟩ := hc k hlt
      have hfl := take_flat ls k (by rw [HL.out]; exact hlt)
      generalize ls.getD k [] = l at hb hfl
      have HF := Lib.hid hfl
      have HB := Lib.hid hb
      clear hb hfl
      go_wp2
      go_loop [3, 16] (fun c i => ∃ j : Nat, j ≤ n ∧ i = .int .i64 j ∧ c = .int .u32 ((Crc.go (Crc.go Crc.ini (ls.take k).flatten) (l.take j)).toNat : Int)) (fun _ i => n - (intOf i).toNat)
      case atStart => exact ⟨0, Nat.zero_le _, rfl, rfl⟩
      case round =>
        obtain ⟨j, hj, rfl, rfl⟩ := hrel
        by_cases hltj : j < n
        · obtain ⟨hbl, _, hba⟩ := HB.out
          rcases hba with h0 | ⟨b1, off1, rfl, hcb⟩
          · omega
          have hcj := hcb j hltj
          have ht := take_one _ j (by rw [hbl]; exact hltj)
          generalize l.getD j 0 = x at hcj ht
          have HT := Lib.hid ht
          clear hcb hbl ht
          go_wp2
          go_loop [3, 24] (fun c i => ∃ t : Nat, t ≤ 8 ∧ i = .int .i64 t ∧ c = .int .u32 ((Crc.turns t (Crc.go (Crc.go Crc.ini (ls.take k).flatten) (l.take j) ^^^ Crc.emb x)).toNat : Int)) (fun _ i => 8 - (intOf i).toNat)
          case atStart => exact ⟨0, by omega, rfl, u32_eq (byt_walk _ _)⟩
          case round =>
            obtain ⟨t, ht, rfl, rfl⟩ := hrel
            by_cases hlt8 : t < 8
            · go_wp2
              go_round
              case rel => exact ⟨t + 1, by omega, by go_num, u32_eq (by rw [stp_walk, Crc.turns_succ])⟩
              case measure => simp [intOf]; omega
            · go_wp2
              go_round
              case rel =>
                obtain rfl : t = 8 := by omega
                exact ⟨j + 1, by omega, by go_num, u32_eq (by rw [HT.out, Crc.go_append]; rfl)⟩
              case measure => simp [intOf]; omega
        · go_wp2
          go_round
          case rel =>
            obtain rfl : j = n := by omega
            exact ⟨k + 1, by omega, by go_num, u32_eq (by rw [HF.out, Crc.go_append, List.take_of_length_le (l := l) (by rw [HB.out.len]; exact Nat.le_refl _)])⟩
          case measure => simp [intOf]; omega
    · go_wp2
      go_ret
      obtain rfl : k = len := by omega
      exact ⟨ret_u32 (by rw [not_walk, List.take_of_length_le (by rw [HL.out]; exact Nat.le_refl _)]; rfl), rfl⟩

theorem of_none (ao : Option Addr) (cap : Nat) (w : World) :
    Calls Try.prog 16 #[.slice ao 0 cap] w fun e w' => e = .returned (.int .u32 ((Crc.crc []).toNat : Int)) ∧ w = w' := by
  go_enter Try.func16, Try.ntmps16
  go_wp2
  refine wp_loop_rounds 1 ?_
  rw [rounds_succ]
  go_wp2
  go_ret
  exact ⟨ret_u32 (by decide), rfl⟩

/-- the sum of whatever parts: it is the sum of them all, one behind the other; nothing is written -/
theorem of_any (ao : Option Addr) (len cap : Nat) (ls : List (List UInt8)) (w : World) (h : IsBB w ao len ls) (hm : len ≤ 140737488351232) :
    Calls Try.prog 16 #[.slice ao len cap] w fun e w' => e = .returned (.int .u32 ((Crc.crc ls.flatten).toNat : Int)) ∧ w = w' := by
  obtain ⟨h1, h2⟩ := h
  by_cases h0 : len = 0
  · subst h0
    obtain rfl : ls = [] := List.length_eq_zero_iff.1 h1
    exact of_none ao cap w
  · rcases h2 with h2 | ⟨b, off, rfl, hc⟩
    · exact absurd h2 h0
    · exact of_some len ls b off cap w h1 hm hc

theorem stp_odd (c : BitVec 32) (h : (c &&& 1#32) = 1#32) : bits .xor .u32 ((c.toNat : Int) / 2) 3988292384 = ((Crc.stp c).toNat : Int) := by
  have h6 : (c.toNat : Int) / (2 : Int) = ((c >>> 1).toNat : Int) := by
    rw [BitVec.toNat_ushiftRight, Nat.shiftRight_eq_div_pow]; omega
  have h5 : ((3988292384#32).toNat : Int) = 3988292384 := rfl
  rw [h6, ← h5, bits_xor32]
  unfold Crc.stp
  rw [h]
  rfl
theorem stp_even (c : BitVec 32) (h : ¬ (c &&& 1#32) = 1#32) : (c.toNat : Int) / 2 = ((Crc.stp c).toNat : Int) := by
  have h6 : (c.toNat : Int) / (2 : Int) = ((c >>> 1).toNat : Int) := by
    rw [BitVec.toNat_ushiftRight, Nat.shiftRight_eq_div_pow]; omega
  rw [h6]
  unfold Crc.stp
  have h0 : (c &&& 1#32) = 0#32 := by
    apply BitVec.eq_of_toNat_eq
    have h1 : ¬ (c &&& 1#32).toNat = 1 := fun e => h (BitVec.eq_of_toNat_eq e)
    rw [BitVec.toNat_and] at h1 ⊢
    simp only [BitVec.toNat_ofNat] at h1 ⊢
    simp at h1 ⊢
    omega
  rw [h0]
  simp

theorem odd_test (c : BitVec 32) (h : (c &&& 1#32) = 1#32) : (bits .and .u32 (c.toNat : Int) 1 == 1) = true := by
  have h1 := bits_and32 c 1#32
  have h2 : ((1#32).toNat : Int) = 1 := rfl
  rw [h2, h] at h1
  rw [h1]; rfl
theorem even_test (c : BitVec 32) (h : ¬ (c &&& 1#32) = 1#32) : (bits .and .u32 (c.toNat : Int) 1 == 1) = false := by
  have h1 := bits_and32 c 1#32
  have h2 : ((1#32).toNat : Int) = 1 := rfl
  rw [h2] at h1
  rw [h1]
  have h3 : ¬ (c &&& 1#32).toNat = 1 := fun e => h (BitVec.eq_of_toNat_eq e)
  simp only [beq_eq_false_iff_ne, ne_eq]
  omega

set_option maxHeartbeats 400000 in
theorem refcrc_some (len : Nat) (l : List UInt8) (b off cap : Nat) (w : World) (hlen : l.length = len) (hm : len ≤ 140737488351232)
    (hcb : ∀ i, i < len → w.cell? ⟨b, off + i, none⟩ = some (.int .u8 ((l.getD i 0).toNat : Int))) :
    Calls Try.prog 20 #[.slice (some ⟨b, off, none⟩) len cap] w fun e w' => e = .returned (.int .u32 ((Crc.crc l).toNat : Int)) ∧ w = w' := by
  have HL := Lib.hid hlen; clear hlen
  have HC := Lib.hid hcb; clear hcb
  go_enter Try.func20, Try.ntmps20
  go_wp2
  go_loop [3, 4] (fun c i => ∃ j : Nat, j ≤ len ∧ i = .int .i64 j ∧ c = .int .u32 ((Crc.go Crc.ini (l.take j)).toNat : Int)) (fun _ i => len - (intOf i).toNat)
  case atStart => exact ⟨0, Nat.zero_le _, rfl, rfl⟩
  case round =>
    obtain ⟨j, hj, rfl, rfl⟩ := hrel
    by_cases hltj : j < len
    · have hcj := HC.out j hltj
      have ht := take_one _ j (by rw [HL.out]; exact hltj)
      generalize l.getD j 0 = x at hcj ht
      have HT := Lib.hid ht
      clear ht
      go_wp2
      go_loop [3, 5] (fun c i => ∃ t : Nat, t ≤ 8 ∧ i = .int .i64 t ∧ c = .int .u32 ((Crc.turns t (Crc.go Crc.ini (l.take j) ^^^ Crc.emb x)).toNat : Int)) (fun _ i => 8 - (intOf i).toNat)
      case atStart => exact ⟨0, by omega, rfl, u32_eq (byt_walk _ _)⟩
      case round =>
        obtain ⟨t, ht, rfl, rfl⟩ := hrel
        by_cases hlt8 : t < 8
        · generalize hc : Crc.turns t (Crc.go Crc.ini (l.take j) ^^^ Crc.emb x) = c
          have HCc := Lib.hid hc; clear hc
          by_cases hodd : (c &&& 1#32) = 1#32
          · have HO := Lib.hid hodd
            have ho := odd_test c hodd
            clear hodd
            go_wp2
            go_round
            case rel => exact ⟨t + 1, by omega, by go_num, u32_eq (by rw [stp_odd _ HO.out, Crc.turns_succ, HCc.out])⟩
            case measure => simp [intOf]; omega
          · have HO := Lib.hid hodd
            have ho := even_test c hodd
            clear hodd
            go_wp2
            go_round
            case rel => exact ⟨t + 1, by omega, by go_num, u32_eq (by rw [stp_even _ HO.out, Crc.turns_succ, HCc.out])⟩
            case measure => simp [intOf]; omega
        · go_wp2
          go_round
          case rel =>
            obtain rfl : t = 8 := by omega
            exact ⟨j + 1, by omega, by go_num, u32_eq (by rw [HT.out, Crc.go_append]; rfl)⟩
          case measure => simp [intOf]; omega
    · go_wp2
      go_ret
      obtain rfl : j = len := by omega
      exact ⟨ret_u32 (by rw [not_walk, List.take_of_length_le (by rw [HL.out]; exact Nat.le_refl _)]; rfl), rfl⟩

theorem refcrc_none (ao : Option Addr) (cap : Nat) (w : World) :
    Calls Try.prog 20 #[.slice ao 0 cap] w fun e w' => e = .returned (.int .u32 ((Crc.crc []).toNat : Int)) ∧ w = w' := by
  go_enter Try.func20, Try.ntmps20
  go_wp2
  refine wp_loop_rounds 1 ?_
  rw [rounds_succ]
  go_wp2
  go_ret
  exact ⟨ret_u32 (by decide), rfl⟩

/-- the document's own sum, bit by bit; nothing is written -/
theorem refcrc_any (ao : Option Addr) (n cap : Nat) (l : List UInt8) (w : World) (h : IsB w ao n cap l) (hm : n ≤ 140737488351232) :
    Calls Try.prog 20 #[.slice ao n cap] w fun e w' => e = .returned (.int .u32 ((Crc.crc l).toNat : Int)) ∧ w = w' := by
  obtain ⟨h1, _, h2⟩ := h
  by_cases h0 : n = 0
  · subst h0
    obtain rfl : l = [] := List.length_eq_zero_iff.1 h1
    exact refcrc_none ao cap w
  · rcases h2 with h2 | ⟨b, off, rfl, hc⟩
    · exact absurd h2 h0
    · exact refcrc_some n l b off cap w h1 hm hc

end Go.Proofs.Ytdmbllokajolhaa
