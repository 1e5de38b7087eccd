/-
  The walk of CrcBursts: it returns true, and no memory that was there turns. Condition: the slice has at most 140737488351232 elements.
-/
import Derived.Test.YtmjnfdphpbpaoaaAw
import Derived.BigQuiet
import Derived.Deep.QuietTactic
import Derived.BigRegion
import Derived.OpenShut
import Derived.Lib.SmallJoins
namespace Go.Proofs.Ytmjnfdphpbpaoaa
open Go.RowKit

/-- four bytes as an array's value -/
def arr4 (x0 x1 x2 x3 : UInt8) : Value := .agg #[.int .u8 (x0.toNat : Int), .int .u8 (x1.toNat : Int), .int .u8 (x2.toNat : Int), .int .u8 (x3.toNat : Int)]

set_option maxHeartbeats 400000 in
theorem bursts_long (ao : Option Addr) (n c : Nat) (a : Int) (x0 x1 x2 x3 : UInt8) (w : World) (h1 : decide ((600 : Int) < (n : Int)) = true) :
    Calls Try.prog 5 #[.slice ao n c, .int .i64 a, arr4 x0 x1 x2 x3] w fun e w' => e = .returned (.bool true) ∧ Below w.heap.size w w' := by
  unfold arr4
  go_enter Try.func5, Try.ntmps5
  go_wp2_with fail
  refine (awake_any _).mono ?_
  rintro e w1 ⟨rfl, hb⟩
  go_wp2
  go_ret
  exact ⟨rfl, ((Below.refl _ _).alloc (Nat.le_refl _) _).trans (hb.mono (by simp))⟩

set_option maxHeartbeats 400000 in
theorem bursts_below (ao : Option Addr) (n c : Nat) (a : Int) (x0 x1 x2 x3 : UInt8) (w : World) (h1 : decide ((600 : Int) < (n : Int)) = false) (h2 : decide (a < 0) = true) :
    Calls Try.prog 5 #[.slice ao n c, .int .i64 a, arr4 x0 x1 x2 x3] w fun e w' => e = .returned (.bool true) ∧ Below w.heap.size w w' := by
  unfold arr4
  go_enter Try.func5, Try.ntmps5
  go_wp2_with fail
  refine (awake_any _).mono ?_
  rintro e w1 ⟨rfl, hb⟩
  go_wp2
  go_ret
  exact ⟨rfl, ((Below.refl _ _).alloc (Nat.le_refl _) _).trans (hb.mono (by simp))⟩

set_option maxHeartbeats 400000 in
theorem bursts_above (ao : Option Addr) (n c : Nat) (a : Int) (x0 x1 x2 x3 : UInt8) (w : World) (h0 : n ≤ 600) (h1 : decide ((600 : Int) < (n : Int)) = false) (h2 : decide (a < 0) = false) (h3 : decide ((n : Int) - 4 < a) = true) :
    Calls Try.prog 5 #[.slice ao n c, .int .i64 a, arr4 x0 x1 x2 x3] w fun e w' => e = .returned (.bool true) ∧ Below w.heap.size w w' := by
  unfold arr4
  go_enter Try.func5, Try.ntmps5
  go_wp2_with fail
  refine (awake_any _).mono ?_
  rintro e w1 ⟨rfl, hb⟩
  go_wp2
  go_ret
  exact ⟨rfl, ((Below.refl _ _).alloc (Nat.le_refl _) _).trans (hb.mono (by simp))⟩

theorem run_eq_arr4 (d : Nat) (a0 a1 a2 a3 b0 b1 b2 b3 : Int) (w : World) :
    (Op.equalIn (d + 2) 29 (.agg #[.int .u8 a0, .int .u8 a1, .int .u8 a2, .int .u8 a3]) (.agg #[.int .u8 b0, .int .u8 b1, .int .u8 b2, .int .u8 b3])).run Try.prog w = .ok (a0 == b0 && (a1 == b1 && (a2 == b2 && a3 == b3))) w := by
  have hs : ∀ w, (sizeOf 5).run Try.prog w = .ok 1 w := fun w => by kernel_rfl
  have e0 : ∀ (c0 c1 c2 c3 : Int) (w : World), (part 5 #[.int .u8 c0, .int .u8 c1, .int .u8 c2, .int .u8 c3] 0).run Try.prog w = .ok (.int .u8 c0) w := fun c0 c1 c2 c3 w => by kernel_rfl
  have e1 : ∀ (c0 c1 c2 c3 : Int) (w : World), (part 5 #[.int .u8 c0, .int .u8 c1, .int .u8 c2, .int .u8 c3] 1).run Try.prog w = .ok (.int .u8 c1) w := fun c0 c1 c2 c3 w => by kernel_rfl
  have e2 : ∀ (c0 c1 c2 c3 : Int) (w : World), (part 5 #[.int .u8 c0, .int .u8 c1, .int .u8 c2, .int .u8 c3] 2).run Try.prog w = .ok (.int .u8 c2) w := fun c0 c1 c2 c3 w => by kernel_rfl
  have e3 : ∀ (c0 c1 c2 c3 : Int) (w : World), (part 5 #[.int .u8 c0, .int .u8 c1, .int .u8 c2, .int .u8 c3] 3).run Try.prog w = .ok (.int .u8 c3) w := fun c0 c1 c2 c3 w => by kernel_rfl
  rw [Op.equalIn]
  simp [run_underlying Try.underlying29, hs, List.range'_succ, e0, e1, e2, e3, run_equalIn_int w d 5 .u8 .u8 _ _ Try.underlying5]
  cases h0 : a0 == b0 <;> cases h1 : a1 == b1 <;> cases h2 : a2 == b2 <;> cases h3 : a3 == b3 <;> simp_all
theorem u8_zero (x : UInt8) : ((x.toNat : Int) == 0) = decide (x = 0) := by
  rw [Bool.eq_iff_iff]
  simp only [beq_iff_eq, decide_eq_true_eq]
  constructor
  · intro h; exact UInt8.toNat_inj.1 (by show x.toNat = 0; omega)
  · rintro rfl; rfl

theorem eq_zeros (x0 x1 x2 x3 : UInt8) (t : Bool) (ht : decide (x0 = 0 ∧ x1 = 0 ∧ x2 = 0 ∧ x3 = 0) = t) (w : World) :
    (Op.equalIn 10000 29 (.agg #[.int .u8 (x0.toNat : Int), .int .u8 (x1.toNat : Int), .int .u8 (x2.toNat : Int), .int .u8 (x3.toNat : Int)]) (.agg #[.int .u8 0, .int .u8 0, .int .u8 0, .int .u8 0])).run Try.prog w = .ok t w := by
  rw [run_eq_arr4 9998]
  rw [u8_zero, u8_zero, u8_zero, u8_zero, ← ht]
  simp

/-- the four bytes as they lie in a block -/
def lies4 (w : World) (B : Nat) (x0 x1 x2 x3 : UInt8) : Prop :=
  w.cell? ⟨B, 0, none⟩ = some (.int .u8 (x0.toNat : Int)) ∧ w.cell? ⟨B, 1, none⟩ = some (.int .u8 (x1.toNat : Int)) ∧ w.cell? ⟨B, 2, none⟩ = some (.int .u8 (x2.toNat : Int)) ∧ w.cell? ⟨B, 3, none⟩ = some (.int .u8 (x3.toNat : Int))
theorem lies4_new (w : World) (x0 x1 x2 x3 : UInt8) (t : TypeId) : lies4 (w.alloc (.cells #[.int .u8 (x0.toNat : Int), .int .u8 (x1.toNat : Int), .int .u8 (x2.toNat : Int), .int .u8 (x3.toNat : Int)] t)) w.heap.size x0 x1 x2 x3 := by
  refine ⟨?_, ?_, ?_, ?_⟩ <;> rw [World.cell?_alloc_mark] <;> rfl
theorem lies4.below {w w' : World} {B : Nat} {x0 x1 x2 x3 : UInt8} (h : lies4 w B x0 x1 x2 x3) (hb : Below w.heap.size w w') : lies4 w' B x0 x1 x2 x3 :=
  ⟨cell_later hb h.1, cell_later hb h.2.1, cell_later hb h.2.2.1, cell_later hb h.2.2.2⟩

/-- the same, by the place -/
theorem lies4.at {w : World} {B : Nat} {x0 x1 x2 x3 : UInt8} (h : lies4 w B x0 x1 x2 x3) (t : Nat) (ht : t < 4) : w.cell? ⟨B, t, none⟩ = some (.int .u8 ((([x0, x1, x2, x3] : List UInt8).getD t 0).toNat : Int)) := by
  obtain ⟨q0, q1, q2, q3⟩ := h
  match t, ht with
  | 0, _ => exact q0
  | 1, _ => exact q1
  | 2, _ => exact q2
  | 3, _ => exact q3

set_option maxHeartbeats 400000 in
theorem bursts_zero (b off n c k : Nat) (x0 x1 x2 x3 : UInt8) (w : World) (h : n ≤ 600) (hk : k + 4 ≤ n) (hx : x0 = 0 ∧ x1 = 0 ∧ x2 = 0 ∧ x3 = 0) :
    Calls Try.prog 5 #[.slice (some ⟨b, off, none⟩) n c, .int .i64 (k : Int), arr4 x0 x1 x2 x3] w fun e w' => e = .returned (.bool true) ∧ Below w.heap.size w w' := by
  unfold arr4
  have h1 : decide ((600 : Int) < (n : Int)) = false := by simp; omega
  have h2 : decide ((k : Int) < 0) = false := by simp
  have h3 : decide ((n : Int) - 4 < (k : Int)) = false := by simp; omega
  have heq := eq_zeros x0 x1 x2 x3 true (decide_eq_true hx)
  clear hx
  go_enter Try.func5, Try.ntmps5
  go_wp2_with fail
  refine (awake_any _).mono ?_
  rintro e w1 ⟨rfl, hb⟩
  have hb1 : Below w.heap.size w w1 := ((Below.refl _ _).alloc (Nat.le_refl _) _).trans (hb.mono (by simp))
  have hL := (lies4_new w x0 x1 x2 x3 29).below hb
  generalize w.heap.size = B at hL
  obtain ⟨q0, q1, q2, q3⟩ := hL
  clear hb
  go_wp2
  go_ret
  exact ⟨rfl, hb1⟩

set_option maxHeartbeats 400000 in
theorem bursts_in (b off n c k : Nat) (l : List UInt8) (x0 x1 x2 x3 : UInt8) (w : World) (hs : IsB w (some ⟨b, off, none⟩) n c l) (h : n ≤ 600) (hk : k + 4 ≤ n) (hx : ¬ (x0 = 0 ∧ x1 = 0 ∧ x2 = 0 ∧ x3 = 0)) :
    Calls Try.prog 5 #[.slice (some ⟨b, off, none⟩) n c, .int .i64 (k : Int), arr4 x0 x1 x2 x3] w fun e w' => e = .returned (.bool true) ∧ Below w.heap.size w w' := by
  unfold arr4
  have h1 : decide ((600 : Int) < (n : Int)) = false := by simp; omega
  have h2 : decide ((k : Int) < 0) = false := by simp
  have h3 : decide ((n : Int) - 4 < (k : Int)) = false := by simp; omega
  have heq := eq_zeros x0 x1 x2 x3 false (decide_eq_false hx)
  have HX := Lib.hid hx
  clear hx
  go_enter Try.func5, Try.ntmps5
  go_wp2_with fail
  refine (awake_any _).mono ?_
  rintro e w1 ⟨rfl, hb⟩
  have hB : w.heap.size < w1.heap.size := by have := hb.size; simp at this; omega
  have hb1 : Below w.heap.size w w1 := ((Below.refl _ _).alloc (Nat.le_refl _) _).trans (hb.mono (by simp))
  have hL := (lies4_new w x0 x1 x2 x3 29).below hb
  have HS := Lib.hid (hs.below hb1)
  have hz := hb1.size
  generalize w.heap.size = B at hL hB
  have HL := Lib.hid hL
  obtain ⟨q0, q1, q2, q3⟩ := hL
  clear hb hs
  have hc1 : ([] : List UInt8).length + n ≤ 140737488355328 := by simp; omega
  have HO := OwnB.new w1 w1.heap.size 5 [] #[] (by rfl) _ rfl (Nat.le_refl _) 0 rfl (by omega)
  have hc2 : w1.heap.size ≤ (w1.alloc (.cells #[] 5)).heap.size := by simp
  go_wp2_with (at_builtin; refine wpList_append_bytes rfl _ _ 25 rfl w1.heap.size 5 Try.underlying25 info5 _ _ rfl HO _ _ _ _ rfl (HS.out.alloc _) hc1 hc2 ?_; intro v' w3 hown' hgr hb2; clear HO)
  rw [List.nil_append] at hown'
  have hbr0 : Below w1.heap.size w1 w3 := ((Below.refl _ _).alloc (Nat.le_refl _) _).trans hb2
  clear q0 q1 q2 q3 hgr hb2 hc1 hc2 heq
  obtain ⟨g, cap, rfl, hg, hgs, hjunk1, hjunk2⟩ := hown'.form (by rw [HS.out.len]; omega)
  clear hjunk1 hjunk2
  have hll : l.length = n := HS.out.len
  rw [hll] at hown'
  rw [hll]
  have HLL := Lib.hid hll
  clear hll
  go_loopw [8] (fun i wr => ∃ t : Nat, t ≤ 4 ∧ i = .int .i64 t ∧ OwnB wr w1.heap.size 5 (.slice (some ⟨g, 0, none⟩) n cap) (Crc.mixTo l k [x0, x1, x2, x3] t) ∧ Below w1.heap.size w1 wr) (fun i _ => 4 - (intOf i).toNat)
  case atStart => exact ⟨0, Nat.zero_le _, rfl, hown', hbr0⟩
  case round =>
    obtain ⟨t, ht, rfl, hownr, hbr⟩ := hrel
    clear hown' hbr0
    by_cases hlt : t < 4
    · have hlm := Crc.mixTo_len l k [x0, x1, x2, x3] t
      have HLM := Lib.hid hlm
      have hll := HLL.out
      obtain ⟨g', cap', hv, hg', hgs', hcell, hfr⟩ := hownr.form (by rw [hlm, hll]; omega)
      rw [hlm, hll] at hv hcell
      simp only [Value.slice.injEq, Option.some.injEq, Addr.mk.injEq, true_and, and_true] at hv
      obtain ⟨rfl, rfl⟩ := hv
      have qb := ((HL.out.below hbr).at t hlt)
      have q1 := hcell (k + t) (by omega)
      have f1 := hfr (k + t)
      generalize hxx : ([x0, x1, x2, x3] : List UInt8).getD t 0 = xt at qb
      generalize hyy : (Crc.mixTo l k [x0, x1, x2, x3] t).getD (k + t) 0 = yt at q1
      have HXX := Lib.hid hxx
      have HYY := Lib.hid hyy
      have HOr := Lib.hid hownr
      clear hxx hyy hcell hfr hownr hlm hll
      have e1 : IntKind.i64.wrap ((k : Int) + (t : Int)) = (k : Int) + (t : Int) := IntWalk.i64_in _ (by omega)
      have e2 : (0 : Int) ≤ (k : Int) + (t : Int) := by omega
      have e3 : (k : Int) + (t : Int) < (n : Int) := by omega
      have e4 : ((k : Int) + (t : Int)).toNat = k + t := by omega
      go_wp2_with fail
      go_region
      have hx8 : bits .xor .u8 (yt.toNat : Int) (xt.toNat : Int) = (((yt ^^^ xt).toNat : Nat) : Int) := by
        have := yt.toNat_lt
        have := xt.toNat_lt
        rw [u8_xor_nat _ _ (by omega) (by omega), UInt8.toNat_xor]
      rw [hx8]
      have hset : (Crc.mixTo l k [x0, x1, x2, x3] t).set (k + t) (yt ^^^ xt) = Crc.mixTo l k [x0, x1, x2, x3] (t + 1) := by rw [Crc.mixTo, HXX.out, HYY.out]
      have ho2 : OwnB (wr.setCell ⟨g, k + t, none⟩ (.int .u8 ((yt ^^^ xt).toNat : Int))).drew w1.heap.size 5 (.slice (some ⟨g, 0, none⟩) n cap) (Crc.mixTo l k [x0, x1, x2, x3] (t + 1)) := by
        have h1 : OwnB wr w1.heap.size 5 (.slice (some ⟨g, 0, none⟩) (Crc.mixTo l k [x0, x1, x2, x3] t).length cap) (Crc.mixTo l k [x0, x1, x2, x3] t) := by rw [HLM.out, HLL.out]; exact HOr.out
        have h2 := (h1.set (k + t) (yt ^^^ xt)).drew
        rw [hset, Crc.mixTo_len, HLL.out] at h2
        exact h2
      have hbr2 : Below w1.heap.size w1 (wr.setCell ⟨g, k + t, none⟩ (.int .u8 ((yt ^^^ xt).toNat : Int))).drew := (hbr.setCell hg _).drew
      generalize (wr.setCell ⟨g, k + t, none⟩ (.int .u8 ((yt ^^^ xt).toNat : Int))).drew = w5 at ho2 hbr2
      clear hset hx8 HOr HXX HYY HLM qb q1 f1 e1 e2 e3 e4
      go_wp2_with fail
      go_roundw
      case rel => exact ⟨t + 1, by omega, by go_num, ho2, hbr2⟩
      case measure => simp [intOf]; omega
    · obtain rfl : t = 4 := by omega
      have i1 : IsB wr (some ⟨b, off, none⟩) n c l := HS.out.below hbr
      have hlm := Crc.mixTo_len l k [x0, x1, x2, x3] 4
      have i2 : IsB wr (some ⟨g, 0, none⟩) n cap (Crc.mixTo l k [x0, x1, x2, x3] 4) := by
        obtain ⟨ao, c', v1, v2⟩ := hownr.isB
        rw [hlm, HLL.out] at v1 v2
        simp only [Value.slice.injEq, true_and] at v1
        obtain ⟨rfl, rfl⟩ := v1
        exact v2
      have hne : (((Crc.crc (Crc.mixTo l k [x0, x1, x2, x3] 4)).toNat : Int) != ((Crc.crc l).toNat : Int)) = true := by
        rw [bne_iff_ne]
        intro e
        exact Crc.crc_burst l k (by rw [HLL.out]; exact hk) x0 x1 x2 x3 HX.out (BitVec.eq_of_toNat_eq (by omega))
      have hb5 : Below w.heap.size w wr := hb1.trans (hbr.mono hz)
      have hz4 := hb5.size
      generalize Crc.mixTo l k [x0, x1, x2, x3] 4 = l' at i2 hne
      clear hownr hbr hb1 HX HS HL HLL hlm h1 h2 h3
      go_wp2_with fail
      refine (of_any _ _ _ [l'] _ (isBB_one _ _ _ _ l' i2 (by omega) _ _ _ rfl) (by omega)).mono ?_
      rintro e w' ⟨rfl, rfl⟩
      rw [show [l'].flatten = l' from by simp]
      go_wp2_with fail
      refine (of_any _ _ _ [l] _ (isBB_one _ _ _ _ l (i1.alloc _) (by omega) _ _ _ (by simp)) (by omega)).mono ?_
      rintro e w' ⟨rfl, rfl⟩
      rw [show [l].flatten = l from by simp]
      go_wp2
      go_ret
      exact ⟨rfl, (hb5.alloc hz4 _).alloc (by simp; omega) _⟩

/-- an array of four bytes that came in -/
theorem open_four {H : Type} {enc : TypeId × Value → H} {W : World} {base : Nat} {v : Value} {d : DataW H} {ps : List MemPlace} (hv : Value.okWide Try.prog W .any base 29 v) (h : DataW.Trod enc Try.prog W 0 (fun _ => true) true 29 v d ps)
    (_ : (DataW.weights Try.prog 29 d).all (· ≤ reachBytes) = true) : ∃ x0 x1 x2 x3 : UInt8, v = arr4 x0 x1 x2 x3 := by
  have hC : Try.prog.cellsOf 29 = 4 := by kernel_rfl
  have hE : Try.prog.cellsOf 5 = 1 := by kernel_rfl
  simp only [Value.okWide, Try.underlying29] at hv
  obtain ⟨cs, rfl, hsz, _⟩ := hv
  obtain ⟨c0, c1, c2, c3, rfl⟩ := Joins.array4 (hsz.trans hC)
  obtain ⟨fuel, hf⟩ := h
  obtain ⟨xs, m, _, _, _, hx, he⟩ := DataW.trod_array Try.underlying29 hf
  rw [hE] at he
  have byte : ∀ (i : Nat) (u : Value), i < 4 → ([c0, c1, c2, c3].drop (i * 1)).take 1 = [u] → ∃ x : UInt8, u = .int .u8 (x.toNat : Int) := by
    intro i u hi hu
    have h1 := he i hi
    have h2 : i < xs.length := by omega
    simp only [Value.cells] at h1
    rw [hu, List.getElem?_eq_getElem h2] at h1
    obtain ⟨z, hz, _, hw⟩ := DataW.trod_int Try.underlying5 h1
    simp [Lit.wf, IntKind.min, IntKind.max, IntKind.signed, IntKind.bits] at hw
    refine ⟨UInt8.ofNat z.toNat, ?_⟩
    simp only [List.cons.injEq, and_true] at hz
    rw [hz]
    congr 1
    simp
    omega
  obtain ⟨x0, e0⟩ := byte 0 c0 (by omega) rfl
  obtain ⟨x1, e1⟩ := byte 1 c1 (by omega) rfl
  obtain ⟨x2, e2⟩ := byte 2 c2 (by omega) rfl
  obtain ⟨x3, e3⟩ := byte 3 c3 (by omega) rfl
  exact ⟨x0, x1, x2, x3, by rw [e0, e1, e2, e3]; rfl⟩

theorem bursts_walk (ao : Option Addr) (n c : Nat) (l : List UInt8) (a : Int) (x0 x1 x2 x3 : UInt8) (w : World) (hs : IsB w ao n c l) (_ : n ≤ c) (_ : c ≤ 140737488351232) (_ : (Lit.int .i64 a).wf = true) :
    Calls Try.prog 5 #[.slice ao n c, .int .i64 a, arr4 x0 x1 x2 x3] w fun e w' => e = .returned (.bool true) ∧ Below w.heap.size w w' := by
  by_cases h : n ≤ 600
  · by_cases ha : a < 0
    · exact bursts_below ao n c a x0 x1 x2 x3 w (by simp; omega) (by simp; omega)
    · by_cases hn : (n : Int) - 4 < a
      · exact bursts_above ao n c a x0 x1 x2 x3 w h (by simp; omega) (by simp; omega) (by simp; omega)
      · obtain ⟨k, rfl⟩ := Int.eq_ofNat_of_zero_le (show 0 ≤ a by omega)
        rcases hs.at_ with h0 | ⟨b, off, rfl, _⟩
        · omega
        · by_cases hx : x0 = 0 ∧ x1 = 0 ∧ x2 = 0 ∧ x3 = 0
          · exact bursts_zero b off n c k x0 x1 x2 x3 w h (by omega) hx
          · exact bursts_in b off n c k l x0 x1 x2 x3 w hs h (by omega) hx
  · exact bursts_long ao n c a x0 x1 x2 x3 w (by simp; omega)

end Go.Proofs.Ytmjnfdphpbpaoaa
