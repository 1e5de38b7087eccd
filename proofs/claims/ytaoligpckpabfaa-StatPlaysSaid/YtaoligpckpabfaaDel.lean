/-
  slices.Delete of one text: the library's contract, in this work's words. No condition.
-/
import Derived.Test.YtaoligpckpabfaaInsW
import Derived.Lib.OwnBridge
namespace Go.Proofs.Ytaoligpckpabfaa
open Go.RowKit Go.Sort
def outS (l : List ByteArray) (i : Nat) : List ByteArray := l.take i ++ l.drop (i + 1)
theorem enc_map (l : List ByteArray) : l.map sv = (l.map fun s => s.data.toList).map encStr := by
  rw [List.map_map]
  refine List.map_congr_left fun s _ => ?_
  simp [sv, encStr]
theorem delete_any (base : Nat) (ao : Option Addr) (n c : Nat) (l : List ByteArray) (i : Nat) (w : World) (h : OwnS w base 9 (.slice ao n c) l) (hl : l.length = n) (hi : i < n) (hn : n ≤ 1000000) :
    Calls Try.prog 31 #[.slice ao n c, .int .i64 i, .int .i64 ((i + 1 : Nat) : Int)] w fun e w' => e = .returned (.slice ao (n - 1) c) ∧ OwnS w' base 9 (.slice ao (n - 1) c) (outS l i) ∧ Below base w w' := by
  unfold OwnS at h
  rw [hl, enc_map] at h
  have hne : Value.slice ao n c ≠ .slice none 0 0 := by
    intro e
    simp only [Value.slice.injEq] at e
    omega
  obtain ⟨g, cap, e, hg, hlt, hnc, hcm, hzl, hH⟩ := Lib.holds_of_ownsRow h hne
  simp only [Value.slice.injEq, true_and] at e
  obtain ⟨rfl, rfl⟩ := e
  generalize hzs : (l.map fun s => s.data.toList) = zs at *
  have hlen2 : zs.length = n := hzl
  have hc := Any.slices_Delete_string lays24 g 0 c i (i + 1) zs w hH (by omega) (by unfold maxLen at hcm; omega) (by omega) (by omega)
  rw [hlen2] at hc
  refine hc.mono ?_
  rintro e w' ⟨rfl, q, rfl⟩
  have hys : (zs.take i ++ zs.drop (i + 1) ++ List.replicate (i + 1 - i) ([] : List UInt8)).length = n := by simp; omega
  have hr := Lib.ownsRow_putRow (q := q) (k := n - 1) h hys (by omega)
  have htk : (zs.take i ++ zs.drop (i + 1) ++ List.replicate (i + 1 - i) ([] : List UInt8)).take (n - 1) = (outS l i).map fun s => s.data.toList := by
    rw [List.take_append_of_le_length (by simp; omega), List.take_of_length_le (by simp; omega), ← hzs]
    simp [outS]
  rw [htk, ← enc_map] at hr
  have hol : (outS l i).length = n - 1 := by simp [outS]; omega
  refine ⟨by rw [show i + 1 - i = 1 from by omega], ?_, Lib.below_putRow (Below.refl base w) hg⟩
  unfold OwnS
  rw [hol]
  exact hr
end Go.Proofs.Ytaoligpckpabfaa
