/-
  The walk of FrameBits.
-/
import Derived.Test.YtdmbllokajolhaaAw
namespace Go.Proofs.Ytdmbllokajolhaa
open Go.RowKit

theorem lit_i64 {z : Int} (h : (Lit.int .i64 z).wf = true) : -9223372036854775808 ≤ z ∧ z ≤ 9223372036854775807 := by
  simp only [Lit.wf, IntKind.min, IntKind.max, IntKind.signed, IntKind.bits, Bool.and_eq_true, decide_eq_true_eq, if_true] at h
  omega
theorem and7 (k : Nat) (hk : k < 9223372036854775808) : bits .and .i64 (k : Int) 7 = ((k % 8 : Nat) : Int) := by
  show IntKind.i64.wrap ((BitVec.ofInt 64 (k : Int) &&& BitVec.ofInt 64 7).toNat : Int) = _
  rw [BitVec.toNat_and, ofInt_u64 k (by omega), show (BitVec.ofInt 64 7).toNat = 2 ^ 3 - 1 from by decide, Nat.and_two_pow_sub_one_eq_mod, IntKind.wrap_i64]
  omega
/-- one bit turned -/
theorem bit_walk (x : UInt8) (k : Nat) (hk : k < 9223372036854775808) : ∃ y : UInt8, bits .xor .u8 (x.toNat : Int) (2 ^ min (IntKind.u64.wrap (bits .and .i64 (k : Int) 7)).toNat 8 % 256) = (y.toNat : Int) ∧ y ≠ x := by
  rw [and7 k hk]
  have h1 : IntKind.u64.wrap ((k % 8 : Nat) : Int) = ((k % 8 : Nat) : Int) := by
    simp [IntKind.wrap, IntKind.bits, IntKind.signed]
    omega
  rw [h1, Int.toNat_natCast]
  have h8 : k % 8 < 8 := Nat.mod_lt _ (by decide)
  generalize k % 8 = t at h8
  have key : ∀ t, t < 8 → ∃ z : UInt8, ((2 : Int) ^ min t 8 % 256) = (z.toNat : Int) ∧ z ≠ 0 := by
    intro t ht
    rcases (by omega : t = 0 ∨ t = 1 ∨ t = 2 ∨ t = 3 ∨ t = 4 ∨ t = 5 ∨ t = 6 ∨ t = 7) with rfl | rfl | rfl | rfl | rfl | rfl | rfl | rfl
    · exact ⟨1, by decide, by decide⟩
    · exact ⟨2, by decide, by decide⟩
    · exact ⟨4, by decide, by decide⟩
    · exact ⟨8, by decide, by decide⟩
    · exact ⟨16, by decide, by decide⟩
    · exact ⟨32, by decide, by decide⟩
    · exact ⟨64, by decide, by decide⟩
    · exact ⟨128, by decide, by decide⟩
  obtain ⟨z, hz, hz0⟩ := key t h8
  rw [hz]
  refine ⟨x ^^^ z, ?_, ?_⟩
  · rw [u8_xor_nat _ _ x.toNat_lt z.toNat_lt, UInt8.toNat_xor]
  · intro e
    apply hz0
    have : x ^^^ (x ^^^ z) = x ^^^ x := by rw [e]
    rwa [← UInt8.xor_assoc, UInt8.xor_self, UInt8.zero_xor] at this
/-- a frame, and one that is broken behind it -/
theorem scan_broken (a b : List UInt8) (ha : a.length ≤ 20000) (hb : b.length ≤ 20000) (i : Nat) (hi : i < 12 + b.length) (x : UInt8) (hx : x ≠ (frameF b).getD i 0) :
    scanAll ((frameF a ++ frameF b).set (12 + a.length + i) x) = ([a], 12 + a.length, 2) := by
  have hl := frameF_len a
  have hlb := frameF_len b
  rw [List.set_append_right _ _ (by omega), hl, show 12 + a.length + i - (12 + a.length) = i by omega]
  have hn := nextF_changed b hb i hi x hx
  have := scanAll_stop [a] ((frameF b).set i x) (by intro r hr; simp at hr; subst hr; exact ha) (by rw [List.length_set]; omega) (by rw [hn]; decide)
  rw [show frames [a] = frameF a by simp [frames], hn, hl] at this
  exact this

set_option maxHeartbeats 1000000 in
theorem bits_walk (ao : Option Addr) (n c : Nat) (A : List UInt8) (bo : Option Addr) (q c2 : Nat) (B : List UInt8) (bit : Int) (W : World) (h : IsB W ao n c A) (h2 : IsB W bo q c2 B) (hn9 : n ≤ 140737488351232) (hq9 : q ≤ 140737488351232)
    (hb1 : -9223372036854775808 ≤ bit) (hb2 : bit ≤ 9223372036854775807) :
    Calls Try.prog 6 #[.slice ao n c, .slice bo q c2, .int .i64 bit] W fun e w' => e = .returned (.bool true) ∧ Below W.heap.size W w' := by
  by_cases hn : 300 < n
  · go_enter Try.func6, Try.ntmps6
    go_wp2_with fail
    refine (awake_any _).mono ?_
    rintro e w0 ⟨rfl, hb0⟩
    go_wp2_with fail
    go_ret
    exact ⟨rfl, hb0⟩
  by_cases hq : 300 < q
  · go_enter Try.func6, Try.ntmps6
    go_wp2_with fail
    refine (awake_any _).mono ?_
    rintro e w0 ⟨rfl, hb0⟩
    go_wp2_with fail
    go_ret
    exact ⟨rfl, hb0⟩
  by_cases hbit : bit < 0
  · go_enter Try.func6, Try.ntmps6
    go_wp2_with fail
    refine (awake_any _).mono ?_
    rintro e w0 ⟨rfl, hb0⟩
    go_wp2_with fail
    go_ret
    exact ⟨rfl, hb0⟩
  by_cases hbig : 8 * (12 + (q : Int)) ≤ bit
  · go_enter Try.func6, Try.ntmps6
    go_wp2_with fail
    refine (awake_any _).mono ?_
    rintro e w0 ⟨rfl, hb0⟩
    go_wp2_with fail
    go_ret
    exact ⟨rfl, hb0⟩
  obtain ⟨k, rfl⟩ := Int.eq_ofNat_of_zero_le (show 0 ≤ bit by omega)
  have hk : k < 8 * (12 + q) := by omega
  have hlA := h.len
  have hlB := h2.len
  have HA := Lib.hid h; clear h
  have HQ := Lib.hid h2; clear h2
  have HLA := Lib.hid hlA; clear hlA
  have HLB := Lib.hid hlB; clear hlB
  go_enter Try.func6, Try.ntmps6
  go_wp2_with fail
  refine (awake_any _).mono ?_
  rintro e w0 ⟨rfl, hb0⟩
  go_wp2_with fail
  refine (put_ok none 0 0 [] ao n c A _ (isB_nil _) (HA.out.below hb0) (by decide) (by omega)).mono ?_
  rintro e w1 ⟨v1, rfl, hown1, hb1⟩
  rw [List.nil_append] at hown1
  obtain ⟨a1, c1, rfl, hbs1⟩ := own_len hown1 (12 + n) (by rw [frameF_len, HLA.out])
  have hB1 : Below W.heap.size W w1 := hb0.trans (hb1.mono hb0.size)
  have H1 := Lib.hid hbs1
  clear hown1 hb1 hb0 hbs1
  go_wp2_with fail
  refine (put_ok a1 (12 + n) c1 _ bo q c2 B _ H1.out (HQ.out.below hB1) (by omega) (by omega)).mono ?_
  rintro e w2 ⟨v2, rfl, hown2, hb2⟩
  have hB2 : Below W.heap.size W w2 := hB1.trans (hb2.mono hB1.size)
  have hl2 : (frameF A ++ frameF B).length = 24 + n + q := by rw [List.length_append, frameF_len, frameF_len, HLA.out, HLB.out]; omega
  have hz1 := hB1.size
  obtain ⟨g, cap, rfl, hg1, hg2, hcell, hfree⟩ := hown2.form (by omega)
  rw [hl2]
  clear hb2 hB1
  have hx := hcell (12 + n + k / 8) (by omega)
  have hfr := hfree (12 + n + k / 8)
  have HO := Lib.hid hown2
  clear hown2 hcell hfree
  generalize hxx : (frameF A ++ frameF B).getD (12 + n + k / 8) 0 = x at hx
  have HX := Lib.hid hxx; clear hxx
  go_wp2_with fail
  obtain ⟨y, hy1, hy2⟩ := bit_walk x k (by omega)
  rw [hy1]
  have hset := HO.out.set (12 + n + k / 8) y
  have hxb : (frameF B).getD (k / 8) 0 = x := by
    rw [← HX.out, List.getD_eq_getElem?_getD, List.getD_eq_getElem?_getD, List.getElem?_append_right (by rw [frameF_len, HLA.out]; omega), frameF_len, HLA.out, show 12 + n + k / 8 - (12 + n) = k / 8 by omega]
  have hsc := scan_broken A B (by rw [HLA.out]; omega) (by rw [HLB.out]; omega) (k / 8) (by rw [HLB.out]; omega) y (by rw [hxb]; exact hy2)
  rw [HLA.out] at hsc
  obtain ⟨a3, c3, hv3, hbs3, hc3, hcm3⟩ := own_room hset (24 + n + q) (by rw [List.length_set, hl2])
  obtain ⟨rfl, rfl⟩ : a3 = some ⟨g, 0, none⟩ ∧ c3 = cap := by
    simp only [Value.slice.injEq] at hv3
    exact ⟨hv3.1.symm, hv3.2.2.symm⟩
  have hB3 : Below W.heap.size W (w2.setCell ⟨g, 12 + n + k / 8, none⟩ (.int .u8 (y.toNat : Int))) := hB2.setCell (by simp only; omega) _
  have HS := Lib.hid hsc
  have H3 := Lib.hid hbs3
  clear hset hxb hsc hv3 hbs3 hB2 HO HX hx hfr hy1 hy2 hg1 hg2
  refine (scan_any _ (24 + n + q) _ _ _ H3.out (by omega) hc3 hcm3).mono ?_
  rw [HS.out]
  rintro e w4 ⟨v4, he, hown4, hb4⟩
  unfold Recs at he
  subst he
  have hB4 := hB3.trans (hb4.mono hB3.size)
  obtain ⟨a4, c4, rfl, hbb4, _⟩ := hown4.isBB 1 rfl
  have hA4 := HA.out.below hB4
  have H4 := Lib.hid (fun (o : Obj) => hbb4.below ((Below.refl _ _).alloc (Nat.le_refl _) o))
  have H5 := Lib.hid (isBB_one w4 ao n c A hA4 (by omega) 23 (0, 0) w4.heap.size rfl)
  clear hown4 hb4 hB3 hbb4 hA4 H3 HS
  go_wp2_with fail
  refine (all_any a4 1 c4 _ _ 1 1 _ _ (H4.out _) H5.out (by decide) (by decide)).mono ?_
  rw [show sameL [A] [A] = true from by unfold sameL; simp]
  rintro e w5 ⟨rfl, d, rfl⟩
  have hB5 := below_draws (hB4.alloc hB4.size (.cells #[.slice ao n c] 23)) d
  clear H4 H5 hB4
  go_wp2_with fail
  go_ret
  exact ⟨rfl, hB5⟩
theorem bits_said (ao : Option Addr) (n c : Nat) (A : List UInt8) (bo : Option Addr) (q c2 : Nat) (B : List UInt8) (bit : Int) (W : World) (h : IsB W ao n c A) (hnc : n ≤ c) (hc9 : c ≤ 140737488351232) (h2 : IsB W bo q c2 B) (hqc : q ≤ c2) (hc29 : c2 ≤ 140737488351232) (hb : (Lit.int .i64 bit).wf = true) :
    Calls Try.prog 6 #[.slice ao n c, .slice bo q c2, .int .i64 bit] W fun e w' => e = .returned (.bool true) ∧ Below W.heap.size W w' :=
  bits_walk ao n c A bo q c2 B bit W h h2 (by omega) (by omega) (lit_i64 hb).1 (lit_i64 hb).2
end Go.Proofs.Ytdmbllokajolhaa
