/-
  Both readers answer alike. No program here.
-/
import Derived.Test.YtpikdeikcmdcmaaPRf
import Derived.Test.YtpikdeikcmdcmaaPBack
namespace Go.Proofs.Ytpikdeikcmdcmaa
open Go.RowKit

/-- what pack's reader has left, and where the document's own one stands -/
structure Link (B : List UInt8) (l : List UInt8) (k : Nat) (bad : Bool) : Prop where
  no : bad = true → l = []
  yes : bad = false → l = B.drop k
  at_ : k ≤ B.length

theorem link_I {B l : List UInt8} {k : Nat} {bad : Bool} (h : Link B l k bad) :
    (fI B k bad).v = (rI l bad).v ∧ (fI B k bad).bad = (rI l bad).bad ∧ ((rI l bad).bad = true → (rI l bad).v = 0) ∧ Link B (rI l bad).l (fI B k bad).k (rI l bad).bad := by
  obtain ⟨h1, h2, h3⟩ := h
  cases bad
  · obtain rfl := h2 rfl
    unfold fI rI
    by_cases hs : B.length - k < 8
    · rw [if_pos (.inr hs), if_pos (by rw [List.length_drop]; exact hs)]
      exact ⟨rfl, rfl, fun _ => rfl, fun _ => rfl, (fun h => by cases h), h3⟩
    · rw [if_neg (by simp; omega), if_neg (by rw [List.length_drop]; exact hs)]
      exact ⟨rfl, rfl, (fun h => by cases h), (fun h => by cases h), fun _ => by simp, by simp only; omega⟩
  · obtain rfl := h1 rfl
    rw [rI_short _ _ (by decide)]
    unfold fI
    rw [if_pos (.inl rfl)]
    exact ⟨rfl, rfl, fun _ => rfl, fun _ => rfl, (fun h => by cases h), h3⟩
theorem link_C {B l : List UInt8} {k : Nat} {bad : Bool} (h : Link B l k bad) (most : Int) :
    (fC B k bad most).v = (rC l bad most).v ∧ (fC B k bad most).bad = (rC l bad most).bad ∧ ((rC l bad most).bad = true → (rC l bad most).v = 0) ∧ Link B (rC l bad most).l (fC B k bad most).k (rC l bad most).bad := by
  have g := link_I h
  unfold fC rC
  generalize fI B k bad = f at g
  generalize rI l bad = r at g
  obtain ⟨v, k', b'⟩ := f
  obtain ⟨v', l', b''⟩ := r
  obtain ⟨rfl, rfl, g3, g4⟩ := g
  simp only at g3 g4 ⊢
  by_cases hv : v < 0 ∨ most < v
  · rw [if_pos (.inr hv), if_pos hv]
    exact ⟨rfl, rfl, fun _ => rfl, fun _ => rfl, (fun h => by cases h), g4.at_⟩
  · rw [if_neg hv]
    cases b'
    · rw [if_neg (by simpa using hv)]
      exact ⟨rfl, rfl, g3, g4⟩
    · obtain rfl := g3 rfl
      rw [if_pos (.inl rfl)]
      exact ⟨rfl, rfl, fun _ => rfl, g4⟩
theorem link_T {B l : List UInt8} {k : Nat} {bad : Bool} (h : Link B l k bad) (most : Int) :
    (fT B k bad most).v = (rT l bad most).v ∧ (fT B k bad most).bad = (rT l bad most).bad ∧ Link B (rT l bad most).l (fT B k bad most).k (rT l bad most).bad := by
  have g := link_C h most
  have hp := rC_pos l bad most
  unfold fT rT
  generalize fC B k bad most = f at g
  generalize rC l bad most = r at g hp
  obtain ⟨v, k', b'⟩ := f
  obtain ⟨v', l', b''⟩ := r
  obtain ⟨rfl, rfl, g3, g4⟩ := g
  simp only at g3 g4 hp ⊢
  have g5 := g4.at_
  cases b'
  · obtain rfl := g4.yes rfl
    by_cases hv : ((B.drop k').length : Int) < v
    · rw [if_pos (.inr (by rw [List.length_drop] at hv; omega)), if_pos hv]
      exact ⟨rfl, rfl, fun _ => rfl, (fun h => by cases h), g5⟩
    · rw [if_neg (by rw [List.length_drop] at hv; simp only [Bool.false_eq_true, false_or]; omega), if_neg hv]
      rw [List.length_drop] at hv
      exact ⟨rfl, rfl, (fun h => by cases h), fun _ => by simp, by simp only; omega⟩
  · obtain rfl := g3 rfl
    obtain rfl := g4.no rfl
    rw [if_pos (.inl rfl), if_neg (by simp)]
    exact ⟨rfl, rfl, fun _ => rfl, (fun h => by cases h), g5⟩
theorem link_end {B l : List UInt8} {k : Nat} {bad : Bool} (h : Link B l k bad) (n : Nat) (hn : B.length = n) : (!bad && ((k : Int) == (n : Int))) = (!bad && l.isEmpty) := by
  subst hn
  obtain ⟨h1, h2, h3⟩ := h
  cases bad
  · obtain rfl := h2 rfl
    rw [Bool.eq_iff_iff]
    simp
    omega
  · rfl
end Go.Proofs.Ytpikdeikcmdcmaa
