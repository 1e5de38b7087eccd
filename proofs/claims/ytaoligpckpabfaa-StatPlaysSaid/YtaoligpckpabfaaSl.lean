/-
  Searching in texts, copying them: the library's contracts, in this work's words. No condition.
-/
import Derived.Test.YtaoligpckpabfaaLay
import Derived.Test.YtaoligpckpabfaaKitS
import Derived.Test.YtaoligpckpabfaaOnly
namespace Go.Proofs.Ytaoligpckpabfaa
open Go.RowKit
/-- where a text is looked for -/
def seekS (l : List ByteArray) (x : ByteArray) : Nat := Lib.bsGo (fun t => Op.bytesLess (l.getD t ByteArray.empty).toList x.toList) l.length 0 l.length
def hereS (l : List ByteArray) (x : ByteArray) : Bool := decide (seekS l x < l.length ∧ l.getD (seekS l x) ByteArray.empty = x)
theorem below_drew {B : Nat} {a w : World} (h : Below B a w) (d : Nat) : Below B a (w.drewN d) := by
  induction d generalizing w with
  | zero => exact h
  | succ d ih => exact (ih h).drew
theorem search_any (ao : Option Addr) (n c : Nat) (l : List ByteArray) (x : ByteArray) (w : World) (h : IsS w ao n c l) (hn : n ≤ 1000000000) :
    Calls Try.prog 27 #[.slice ao n c, .string x] w fun e w' => e = .returned (.tuple #[.int .i64 (seekS l x : Nat), .bool (hereS l x)]) ∧ ∃ d, w' = w.drewN d := by
  have hl := h.len
  rcases h.at_ with h0 | ⟨b, off, rfl, hc⟩
  · subst h0
    obtain rfl : l = [] := List.length_eq_zero_iff.1 hl
    refine (Any2.slices_BinarySearch_string_empty lays26 ao c x w).mono ?_
    rintro e w' ⟨rfl, rfl⟩
    exact ⟨rfl, 0, rfl⟩
  · refine (Any2.slices_BinarySearch_string lays26 b off n c (fun t => l.getD t ByteArray.empty) x w (by omega) (fun j hj => hc j hj)).mono ?_
    rintro e w' ⟨rfl, d, rfl⟩
    refine ⟨?_, d, rfl⟩
    unfold hereS seekS
    rw [hl]
theorem clone_any (ao : Option Addr) (n c : Nat) (l : List ByteArray) (w : World) (h : IsS w ao n c l) (hn : n ≤ 1000000000) :
    Calls Try.prog 29 #[.slice ao n c] w fun e w' => ∃ v, e = .returned v ∧ OwnS w' w.heap.size 9 v l ∧ Below w.heap.size w w' := by
  have hl := h.len
  cases ao with
  | none =>
    obtain ⟨rfl, rfl⟩ := h.nil rfl
    obtain rfl : l = [] := List.length_eq_zero_iff.1 hl
    refine (Any.slices_Clone_string_nil lays16 0 0 w).mono ?_
    rintro e w' ⟨rfl, rfl⟩
    exact ⟨_, rfl, OwnS.nil _ _ _, Below.refl _ _⟩
  | some ad =>
    rcases h.at_ with h0 | ⟨b, off, e0, hc⟩
    · subst h0
      obtain rfl : l = [] := List.length_eq_zero_iff.1 hl
      refine (Any.slices_Clone_string_zero lays16 ad c w).mono ?_
      rintro e w' ⟨v, rfl, h1, _, h2⟩
      exact ⟨v, rfl, h1, h2⟩
    · cases e0
      refine (Any.slices_Clone_string lays16 b off n c l w (by omega) (by omega) (fun j hj => hc j (by omega))).mono ?_
      rintro e w' ⟨v, rfl, h1, _, h2⟩
      refine ⟨v, rfl, ?_, h2⟩
      rw [List.take_of_length_le (by omega)] at h1
      unfold OwnS
      rw [hl]
      exact h1
end Go.Proofs.Ytaoligpckpabfaa
