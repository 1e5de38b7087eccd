/-
  The contracts, at sessions that calls have made, all in new memory.
-/
import Derived.Test.YtmlgggcdjknlfaaApart
namespace Go.Proofs.Ytmlgggcdjknlfaa
open Go.RowKit

/-- sessions of the call's own: from block base on, nothing below has turned since w0 -/
structure Ours (w0 w : World) (base a : Nat) (s : Ss) : Prop where
  is : ∃ g, IsSess w base a g s ∧ ∀ j, g = some j → base ≤ j
  below : Below base w0 w
  size : base ≤ w.heap.size
theorem Ours.later {w0 w w' : World} {base a : Nat} {s : Ss} (h : Ours w0 w base a s) (hb : Below w.heap.size w w') : Ours w0 w' base a s := by
  obtain ⟨⟨g, h1, h2⟩, h3, h4⟩ := h
  exact ⟨⟨g, h1.below hb, h2⟩, h3.trans (hb.mono h4), Nat.le_trans h4 hb.size⟩
theorem Ours.draws {w0 w : World} {base a : Nat} {s : Ss} (h : Ours w0 w base a s) (d : Nat) : Ours w0 (w.drewN d) base a s :=
  h.later (below_drew (Below.refl _ _) d)
def openBad (s : Ss) (sp : Int) : Prop := sp < 1 ∨ 10000 < sp
instance (s : Ss) (sp : Int) : Decidable (openBad s sp) := inferInstanceAs (Decidable (_ ∨ _))
def openAny (s : Ss) (sp : Int) : Ss := if openBad s sp then s else if s.room ≤ (s.l.length : Int) then s else openS s sp
def openN (s : Ss) (sp : Int) : Int := if openBad s sp then 0 else if s.room ≤ (s.l.length : Int) then 0 else s.next
def openE (s : Ss) (sp : Int) : Int := if openBad s sp then 1 else if s.room ≤ (s.l.length : Int) then 9 else 0

theorem do_open {w0 w : World} {base a : Nat} {s : Ss} {i : Nat} (sp : Int) (h : Ours w0 w base a s) (hm : Made s i) (hi : i ≤ 100000) (h1 : -9223372036854775808 ≤ sp) (h2 : sp ≤ 9223372036854775807) :
    Calls Try.prog 11 #[.pointer (some ⟨a, 0, none⟩), .int .i64 sp] w fun e w' => e = .returned (.tuple #[.int .i64 (openN s sp), .int .i64 (openE s sp)]) ∧ Ours w0 w' base a (openAny s sp) := by
  unfold openN openE openAny
  have k1 := hm.now0; have k2 := hm.now1; have k3 := hm.next0; have k4 := hm.next1
  by_cases hb : openBad s sp
  · rw [if_pos hb, if_pos hb, if_pos hb]
    refine (open_arg a sp w hb h1 h2).mono ?_
    rintro e w' ⟨rfl, rfl⟩
    exact ⟨rfl, h⟩
  · rw [if_neg hb, if_neg hb, if_neg hb]
    unfold openBad at hb
    obtain ⟨g, hs, hg⟩ := h.is
    by_cases hf : s.room ≤ (s.l.length : Int)
    · rw [if_pos hf, if_pos hf, if_pos hf]
      refine (open_full base a g s sp w hs (by omega) (by omega) hf).mono ?_
      rintro e w' ⟨rfl, d, rfl⟩
      exact ⟨rfl, h.draws d⟩
    · rw [if_neg hf, if_neg hf, if_neg hf]
      refine (open_ok base a g s sp w hs (by omega) (by omega) (by omega) hm.room k1 (by omega) (by omega) (by omega)).mono ?_
      rintro e w' ⟨g', rfl, hs', ho, hg'⟩
      refine ⟨rfl, ⟨g', hs', ?_⟩, h.below.trans (ho.below h.size ?_), Nat.le_trans h.size ho.size⟩
      · intro j hj
        rcases hg' with rfl | ⟨k, hk, hk2⟩
        · exact hg j hj
        · rw [hk] at hj; cases hj; exact Nat.le_trans h.size hk2
      · intro j hj
        simp at hj
        rcases hj with rfl | hj
        · exact hs.ge
        · exact hg j hj
theorem Made.any {s : Ss} {i : Nat} (h : Made s i) (sp : Int) : Made (openAny s sp) (i + 1) := by
  unfold openAny
  split
  · exact h.next
  · rename_i hb
    unfold openBad at hb
    split
    · exact h.next
    · exact h.open_ (by omega) (by omega) (by omega)
theorem Own1.any {s : Ss} {span : Int} (h : Own1 s span) (sp : Int) : Own1 (openAny s sp) span := by
  unfold openAny
  split
  · exact h
  · split
    · exact h
    · exact h.open_ sp
theorem do_tick {w0 w : World} {base a : Nat} {s : Ss} {i : Nat} (h : Ours w0 w base a s) (hm : Made s i) (hi : i ≤ 100000) :
    Calls Try.prog 12 #[.pointer (some ⟨a, 0, none⟩)] w fun e w' => ∃ v, e = .returned v ∧ OwnI w' w.heap.size 2 v (overIds (s.now + 1) s.l) ∧ Ours w0 w' base a (tickS s) ∧ Below base w w' := by
  have k1 := hm.now0; have k2 := hm.now1; have k3 := hm.len; have k4 := hm.room
  obtain ⟨g, hs, hg⟩ := h.is
  refine (tick_any base a g s w hs (by omega) k1 (by omega)).mono ?_
  rintro e w' ⟨v, rfl, hv, hs', ho⟩
  have hb : Below base w w' := ho.below h.size (by
    intro j hj
    simp at hj
    rcases hj with rfl | hj
    · exact hs.ge
    · exact hg j hj)
  exact ⟨v, rfl, hv, ⟨⟨g, hs', hg⟩, h.below.trans hb, Nat.le_trans h.size ho.size⟩, hb⟩
theorem do_touch {w0 w : World} {base a : Nat} {s : Ss} {i : Nat} (q : Int) (h : Ours w0 w base a s) (hm : Made s i) (hi : i ≤ 100000) :
    Calls Try.prog 13 #[.pointer (some ⟨a, 0, none⟩), .int .i64 q] w fun e w' => e = .returned (.int .i64 (if findS s.l q < 0 then 11 else 0)) ∧ Ours w0 w' base a (touchS s q) := by
  have k1 := hm.now0; have k2 := hm.now1; have k3 := hm.len; have k4 := hm.room
  obtain ⟨g, hs, hg⟩ := h.is
  refine (touch_any base a g s q w hs (by omega) k1 (by omega) hm.spans).mono ?_
  rintro e w' ⟨rfl, hs', ho⟩
  refine ⟨rfl, ⟨g, hs', hg⟩, h.below.trans (ho.below h.size ?_), Nat.le_trans h.size ho.size⟩
  intro j hj
  simp at hj
  rcases hj with rfl | hj
  · exact hs.ge
  · exact hg j hj
theorem do_live {w0 w : World} {base a : Nat} {s : Ss} {i : Nat} (q : Int) (h : Ours w0 w base a s) (hm : Made s i) :
    Calls Try.prog 14 #[.pointer (some ⟨a, 0, none⟩), .int .i64 q] w fun e w' => e = .returned (.bool (decide (0 ≤ findS s.l q))) ∧ Ours w0 w' base a s := by
  have k3 := hm.len; have k4 := hm.room
  obtain ⟨g, hs, hg⟩ := h.is
  refine (live_any base a g s q w hs (by omega)).mono ?_
  rintro e w' ⟨rfl, hb⟩
  exact ⟨rfl, h.later hb⟩
end Go.Proofs.Ytmlgggcdjknlfaa
