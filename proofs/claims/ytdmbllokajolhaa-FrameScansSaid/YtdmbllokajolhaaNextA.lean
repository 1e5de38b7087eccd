/-
  The next frame of bytes.
-/
import Derived.Test.YtdmbllokajolhaaPut
import Derived.Test.YtdmbllokajolhaaQuiet
import Derived.Deep.RegionWith
import Derived.Deep.DrawnRows
namespace Go.Proofs.Ytdmbllokajolhaa
open Go.RowKit
attribute [local go_sem ↓] Go.wp_at_zero Go.wp_at_succ

/-- how many bytes the next frame has, and what is wrong with it -/
def nextF (l : List UInt8) : Nat × Nat :=
  if l.length < 12 then (0, 1)
  else if at4 l 4 ≠ ~~~ (at4 l 0) ∨ 20000 < (at4 l 0).toNat then (0, 2)
  else if l.length < 12 + (at4 l 0).toNat then (0, 1)
  else if Crc.crc (l.take 8 ++ (l.drop 12).take (at4 l 0).toNat) ≠ at4 l 8 then (0, 2)
  else (12 + (at4 l 0).toNat, 0)

theorem ne32 (a b : BitVec 32) : ((a.toNat : Int) != (b.toNat : Int)) = decide (a ≠ b) := by
  by_cases h : a = b
  · subst h; simp
  · have : ¬ (a.toNat : Int) = (b.toNat : Int) := fun e => h (BitVec.eq_of_toNat_eq (by omega))
    rw [decide_eq_true (show a ≠ b from h), bne_iff_ne]
    exact this

/-- a world that has one block more, whatever was drawn -/
theorem below_one {B : Nat} {w w' : World} (h : Below B w w') (o : Obj) {w2 : World} (hh : w2.heap = (w'.alloc o).heap) (ho : w2.os = w'.os) (ht : w2.tape = w'.tape) (hp : w2.output = w'.output) (hB : B ≤ w'.heap.size := by omega) : Below B w w2 := by
  have h2 := h.alloc hB o
  exact ⟨ho.trans h.os, ht.trans h.tape, hp.trans h.output, by rw [hh]; exact h2.size, fun k hk => by rw [hh]; exact h2.block k hk⟩
theorem below_draws {B : Nat} {w w' : World} (h : Below B w w') (n : Nat) : Below B w (w'.drewN n) := ⟨h.os, h.tape, h.output, h.size, h.block⟩
/-- what next answers in the end: the sum is not what it should be, or it is -/
def Res (r : Bool) (k : Nat) (e : Ending) : Prop := e = .returned (if r then .tuple #[.int .i64 0, .int .i64 2] else .tuple #[.int .i64 (12 + (k : Int)), .int .i64 0])
set_option maxHeartbeats 1000000 in
theorem next_cap (b off n c k : Nat) (l : List UInt8) (nx x8 y : BitVec 32) (w : World) (hn : n ≤ 70368744177664) (hnc : n ≤ c) (h12 : 12 ≤ n) (hk : k ≤ 20000) (hkn : 12 + k ≤ n) (hc : c = 12)
    (HB : Hid (IsB w (some ⟨b, off, none⟩) n c l)) (HX : Hid (bits BinOp.xor IntKind.u32 IntKind.u32.max (k : Int) = (nx.toNat : Int)))
    (A0 : Hid (∀ w', IsB w' (some ⟨b, off, none⟩) n c l → Calls Try.prog 23 #[.slice (some ⟨b, off, none⟩) n c, .int .i64 0] w' fun e w'' => ∃ d, e = .returned (.int .u32 (k : Int)) ∧ w'' = w'.drewN d))
    (A4 : Hid (∀ w', IsB w' (some ⟨b, off, none⟩) n c l → Calls Try.prog 23 #[.slice (some ⟨b, off, none⟩) n c, .int .i64 4] w' fun e w'' => ∃ d, e = .returned (.int .u32 (nx.toNat : Int)) ∧ w'' = w'.drewN d))
    (A8 : Hid (∀ w', IsB w' (some ⟨b, off, none⟩) n c l → Calls Try.prog 23 #[.slice (some ⟨b, off, none⟩) n c, .int .i64 8] w' fun e w'' => ∃ d, e = .returned (.int .u32 (x8.toNat : Int)) ∧ w'' = w'.drewN d))
    (A2H : Hid (∀ w', w'.heap = (w.alloc (.cells #[.slice (some ⟨b, off, none⟩) 8 c, .slice (some ⟨b, off, none⟩) 0 0] 23)).heap →
      Calls Try.prog 16 #[.slice (some ⟨w.heap.size, 0, none⟩) 2 2] w' fun e w'' => e = .returned (.int .u32 (y.toNat : Int)) ∧ w' = w'')) (r : Bool) (hcr : ((y.toNat : Int) != (x8.toNat : Int)) = r) :
    Calls Try.prog 17 #[.slice (some ⟨b, off, none⟩) n c] w fun e w' => Res r k e ∧ Below w.heap.size w w' := by
  have hsg : ¬ (IntKind.u32.signed = true) := by decide
  have g1 : ((nx.toNat : Int) != (nx.toNat : Int)) = false := by simp
  have g2 : (12 : Int) ≤ (n : Int) := by omega
  have g3 : (k : Int) ≤ 20000 := by omega
  have g4 : 12 + (k : Int) ≤ (n : Int) := by omega
  subst hc
  have q1 : 12 + (k : Int) ≤ 12 := by omega
  have q2 : (12 : Int) ≤ max (12 + (k : Int)) 0 := by omega
  go_enter Try.func17, Try.ntmps17
  go_wp2_with fail
  refine (A0.out _ HB.out).mono ?_
  rintro e w1 ⟨d1, rfl, rfl⟩
  go_wp2_with fail
  refine (A4.out _ (by exact HB.out.heapw rfl)).mono ?_
  rintro e w1 ⟨d2, rfl, rfl⟩
  have hx := HX.out
  go_wp2_with fail
  clear hx
  go_region_with (first
    | (go_at_call 23; refine (A8.out _ (by first | exact HB.out.heapw rfl | exact (HB.out.alloc _).heapw rfl)).mono ?_; rintro e w3 ⟨d3, rfl, rfl⟩)
    | (go_at_call 16; refine (A2H.out _ (by exact rfl)).mono ?_; rintro e w3 ⟨rfl, rfl⟩))
  all_goals cases r
  all_goals go_wp2_with fail
  all_goals go_ret2
  all_goals exact ⟨rfl, below_one (Below.refl _ _) _ rfl rfl rfl rfl⟩

set_option maxHeartbeats 1000000 in
theorem next_room (b off n c k : Nat) (l : List UInt8) (nx x8 y : BitVec 32) (w : World) (hn : n ≤ 70368744177664) (hnc : n ≤ c) (h12 : 12 ≤ n) (hk : k ≤ 20000) (hkn : 12 + k ≤ n) (hc12 : ¬ c = 12)
    (HB : Hid (IsB w (some ⟨b, off, none⟩) n c l)) (HX : Hid (bits BinOp.xor IntKind.u32 IntKind.u32.max (k : Int) = (nx.toNat : Int)))
    (A0 : Hid (∀ w', IsB w' (some ⟨b, off, none⟩) n c l → Calls Try.prog 23 #[.slice (some ⟨b, off, none⟩) n c, .int .i64 0] w' fun e w'' => ∃ d, e = .returned (.int .u32 (k : Int)) ∧ w'' = w'.drewN d))
    (A4 : Hid (∀ w', IsB w' (some ⟨b, off, none⟩) n c l → Calls Try.prog 23 #[.slice (some ⟨b, off, none⟩) n c, .int .i64 4] w' fun e w'' => ∃ d, e = .returned (.int .u32 (nx.toNat : Int)) ∧ w'' = w'.drewN d))
    (A8 : Hid (∀ w', IsB w' (some ⟨b, off, none⟩) n c l → Calls Try.prog 23 #[.slice (some ⟨b, off, none⟩) n c, .int .i64 8] w' fun e w'' => ∃ d, e = .returned (.int .u32 (x8.toNat : Int)) ∧ w'' = w'.drewN d))
    (A2H : Hid (∀ w', w'.heap = (w.alloc (.cells #[.slice (some ⟨b, off, none⟩) 8 c, .slice (some ⟨b, off + 12, none⟩) k (c - 12)] 23)).heap →
      Calls Try.prog 16 #[.slice (some ⟨w.heap.size, 0, none⟩) 2 2] w' fun e w'' => e = .returned (.int .u32 (y.toNat : Int)) ∧ w' = w'')) (r : Bool) (hcr : ((y.toNat : Int) != (x8.toNat : Int)) = r) :
    Calls Try.prog 17 #[.slice (some ⟨b, off, none⟩) n c] w fun e w' => Res r k e ∧ Below w.heap.size w w' := by
  have hsg : ¬ (IntKind.u32.signed = true) := by decide
  have g1 : ((nx.toNat : Int) != (nx.toNat : Int)) = false := by simp
  have g2 : (12 : Int) ≤ (n : Int) := by omega
  have g3 : (k : Int) ≤ 20000 := by omega
  have g4 : 12 + (k : Int) ≤ (n : Int) := by omega
  go_enter Try.func17, Try.ntmps17
  go_wp2_with fail
  refine (A0.out _ HB.out).mono ?_
  rintro e w1 ⟨d1, rfl, rfl⟩
  go_wp2_with fail
  refine (A4.out _ (by exact HB.out.heapw rfl)).mono ?_
  rintro e w1 ⟨d2, rfl, rfl⟩
  have hx := HX.out
  go_wp2_with fail
  clear hx
  go_region_with (first
    | (go_at_call 23; refine (A8.out _ (by first | exact HB.out.heapw rfl | exact (HB.out.alloc _).heapw rfl)).mono ?_; rintro e w3 ⟨d3, rfl, rfl⟩)
    | (go_at_call 16; refine (A2H.out _ (by exact rfl)).mono ?_; rintro e w3 ⟨rfl, rfl⟩))
  all_goals cases r
  all_goals go_wp2_with fail
  all_goals go_ret2
  all_goals exact ⟨rfl, below_one (Below.refl _ _) _ rfl rfl rfl rfl⟩

end Go.Proofs.Ytdmbllokajolhaa
