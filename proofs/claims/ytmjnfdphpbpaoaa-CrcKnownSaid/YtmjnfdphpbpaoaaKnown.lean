/-
  The walk of CrcKnown: it returns true, and no memory that was there turns. No condition.
-/
import Derived.Test.YtmjnfdphpbpaoaaAw
namespace Go.Proofs.Ytmjnfdphpbpaoaa
open Go.RowKit

theorem crcA : (((Crc.crc [[0]].flatten).toNat : Int) == 3523407757) = true := by decide +kernel
theorem crcB : (((Crc.crc [[49, 50, 51, 52], [], [53, 54, 55, 56, 57]].flatten).toNat : Int) == 3421780262) = true := by decide +kernel

/-- three slices of bytes in a new block -/
theorem isBB_three (w : World) (a1 a2 a3 : Option Addr) (m1 m2 m3 c1 c2 c3 : Nat) (l1 l2 l3 : List UInt8) (h1 : IsB w a1 m1 c1 l1) (h2 : IsB w a2 m2 c2 l2) (h3 : IsB w a3 m3 c3 l3)
    (k1 : m1 ≤ 140737488351232) (k2 : m2 ≤ 140737488351232) (k3 : m3 ≤ 140737488351232) (t : TypeId) (fr : Nat × Nat) (H : Nat) (hH : H = w.heap.size) :
    IsBB (w.alloc (.cells #[.slice a1 m1 c1, .slice a2 m2 c2, .slice a3 m3 c3] t fr)) (some ⟨H, 0, none⟩) 3 [l1, l2, l3] := by
  subst hH
  refine ⟨rfl, .inr ⟨_, _, rfl, fun i hi => ?_⟩⟩
  match i, hi with
  | 0, _ => exact ⟨a1, m1, c1, by rw [World.cell?_alloc_mark]; rfl, h1.alloc _, k1⟩
  | 1, _ => exact ⟨a2, m2, c2, by rw [World.cell?_alloc_mark]; rfl, h2.alloc _, k2⟩
  | 2, _ => exact ⟨a3, m3, c3, by rw [World.cell?_alloc_mark]; rfl, h3.alloc _, k3⟩

theorem conv_const (w : World) (C : Array Value) (n c H : Nat) (hH : H = w.heap.size) :
    Sem.run Try.prog (_root_.Go.convert 25 25 (.slice (some ⟨H, 0, none⟩) n c)) (w.alloc (.cells C 5)) = .ok (.slice (some ⟨H, 0, none⟩) n c) (w.alloc (.cells C 5 (C.size, C.size + 1))) := by
  subst hH
  exact Lib.run_convert_bytes_const (P := Try.prog) w 25 5 C n c Try.underlying25 Try.underlying5

set_option maxHeartbeats 400000 in
theorem known_walk (w : World) : Calls Try.prog 3 #[] w fun e w' => e = .returned (.bool true) ∧ Below w.heap.size w w' := by
  have kc := conv_const
  go_enter Try.func3, Try.ntmps3
  go_wp2_with fail
  refine (awake_any _).mono ?_
  rintro e w1 ⟨rfl, hb⟩
  go_wp2_with fail
  refine (of_any _ _ _ [[0]] _ (isBB_one _ _ _ _ [0] (isB_new _ _ _ (by rfl) _ _ _ rfl _ rfl _) (by decide) _ _ _ (by simp)) (by omega)).mono ?_
  rintro e w' ⟨rfl, rfl⟩
  have h9 := crcA
  generalize ((Crc.crc [[0]].flatten).toNat : Int) = x at h9
  go_wp2_with fail
  refine (of_any _ _ _ [[49, 50, 51, 52], [], [53, 54, 55, 56, 57]] _ (isBB_three _ _ _ _ _ _ _ _ _ _ _ _ _
    ((isB_new _ [49, 50, 51, 52] _ (by rfl) _ _ _ (by simp) _ rfl _).alloc _) (isB_nil _) (isB_new _ [53, 54, 55, 56, 57] _ (by rfl) _ _ _ (by simp) _ rfl _)
    (by decide) (by decide) (by decide) _ _ _ (by simp)) (by omega)).mono ?_
  rintro e w' ⟨rfl, rfl⟩
  have h8 := crcB
  generalize ((Crc.crc [[49, 50, 51, 52], [], [53, 54, 55, 56, 57]].flatten).toNat : Int) = y at h8
  go_wp2
  go_ret
  have hz := hb.size
  exact ⟨rfl, ((((((hb.alloc hz _).alloc (by simp; omega) _).alloc (by simp; omega) _).alloc (by simp; omega) _).alloc (by simp; omega) _))⟩
end Go.Proofs.Ytmjnfdphpbpaoaa
