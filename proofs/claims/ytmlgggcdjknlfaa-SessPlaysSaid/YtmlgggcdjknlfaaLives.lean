/-
  One that is touched often enough lives on; one that is not ends at just its time.
-/
import Derived.Test.YtmlgggcdjknlfaaAwake
namespace Go.Proofs.Ytmlgggcdjknlfaa
open Go.RowKit

/-- one session, alone; and none -/
def alone (now span till : Int) : Ss := ⟨3, now, 2, [⟨1, span, till⟩]⟩
def gone (now : Int) : Ss := ⟨3, now, 2, []⟩
theorem alone_open (span : Int) : openS (newS 3) span = alone 0 span span := by simp [openS, newS, alone]
theorem alone_tick_no (now span till : Int) (h : now + 1 < till) : tickS (alone now span till) = alone (now + 1) span till ∧ overIds (now + 1) (alone now span till).l = [] := by
  have h2 : over (now + 1) ⟨1, span, till⟩ = false := decide_eq_false (by simp; omega)
  simp [tickS, alone, keepers, overIds, List.filter_cons, h2]
theorem alone_tick_yes (now span till : Int) (h : till ≤ now + 1) : tickS (alone now span till) = gone (now + 1) ∧ overIds (now + 1) (alone now span till).l = [1] := by
  have h2 : over (now + 1) ⟨1, span, till⟩ = true := decide_eq_true h
  simp [tickS, alone, gone, keepers, overIds, List.filter_cons, h2]
theorem gone_tick (now : Int) : tickS (gone now) = gone (now + 1) ∧ overIds (now + 1) (gone now).l = [] := by simp [tickS, gone, keepers, overIds]
theorem alone_find (now span till : Int) : findS (alone now span till).l 1 = 0 := by simp [findS, alone, isId]
theorem gone_find (now : Int) : findS (gone now).l 1 = -1 := by simp [findS, gone]
theorem alone_touch (now span till : Int) : touchS (alone now span till) 1 = alone now span (now + span) := by
  unfold touchS
  rw [alone_find]
  simp [alone, liveOn]
/-- what a tick tells and leaves, k ticks behind the last touch at t -/
def after (t span k : Int) : Ss := if k < span then alone (t + k) span (t + span) else gone (t + k)
theorem after_tick (t span k : Int) : tickS (after t span k) = after t span (k + 1) ∧ overIds ((after t span k).now + 1) (after t span k).l = if k + 1 = span then [1] else [] := by
  unfold after
  by_cases h1 : k < span
  · rw [if_pos h1]
    by_cases h2 : k + 1 = span
    · rw [if_neg (by omega), if_pos h2]
      have := alone_tick_yes (t + k) span (t + span) (by omega)
      rw [show t + k + 1 = t + (k + 1) by omega] at this
      exact ⟨this.1, by rw [← this.2]; congr 1; show t + k + 1 = _; omega⟩
    · rw [if_pos (by omega), if_neg h2]
      have := alone_tick_no (t + k) span (t + span) (by omega)
      rw [show t + k + 1 = t + (k + 1) by omega] at this
      exact ⟨this.1, by rw [← this.2]; congr 1; show t + k + 1 = _; omega⟩
  · rw [if_neg h1, if_neg (by omega), if_neg (by omega)]
    have := gone_tick (t + k)
    rw [show t + k + 1 = t + (k + 1) by omega] at this
    exact ⟨this.1, by rw [← this.2]; congr 1; show t + k + 1 = _; omega⟩

/-- the contracts, at one session alone -/
theorem at_tick (base a : Nat) (g : Option Nat) (t span k : Int) (w0 w : World) (h : IsSess w base a g (after t span k)) (hb : Below base w0 w) (hg : ∀ j, g = some j → base ≤ j) (hB : base ≤ w.heap.size) (h0 : 0 ≤ t) (h1 : t ≤ 100000) (h2 : 0 ≤ k) (h3 : k ≤ 100000) :
    Calls Try.prog 12 #[.pointer (some ⟨a, 0, none⟩)] w fun e w' => ∃ ao c, e = .returned (.slice ao (if k + 1 = span then 1 else 0) c) ∧ IsSess w' base a g (after t span (k + 1)) ∧ Below base w0 w' ∧ base ≤ w'.heap.size := by
  have hnow : (after t span k).now = t + k := by unfold after; split <;> rfl
  have hlen : (after t span k).l.length ≤ 1000000 := by unfold after; split <;> simp [alone, gone]
  refine (tick_any base a g (after t span k) w h hlen (by omega) (by omega)).mono ?_
  rintro e w' ⟨v, rfl, hv, hs, ho⟩
  obtain ⟨ao, c, rfl, _⟩ := hv.isI
  rw [(after_tick t span k).1] at hs
  refine ⟨ao, c, ?_, hs, hb.trans (ho.below hB ?_), Nat.le_trans hB ho.size⟩
  · rw [(after_tick t span k).2]
    split <;> rfl
  · intro j hj
    simp at hj
    rcases hj with rfl | hj
    · exact h.ge
    · exact hg j hj
theorem at_touch (base a : Nat) (g : Option Nat) (now span till : Int) (w0 w : World) (h : IsSess w base a g (alone now span till)) (hb : Below base w0 w) (hg : ∀ j, g = some j → base ≤ j) (hB : base ≤ w.heap.size) (h0 : 0 ≤ now) (h1 : now ≤ 100000) (h2 : 0 ≤ span) (h3 : span ≤ 10000) :
    Calls Try.prog 13 #[.pointer (some ⟨a, 0, none⟩), .int .i64 1] w fun e w' => e = .returned (.int .i64 0) ∧ IsSess w' base a g (alone now span (now + span)) ∧ Below base w0 w' ∧ base ≤ w'.heap.size := by
  refine (touch_any base a g (alone now span till) 1 w h (by simp [alone]) h0 (by simp [alone]; omega) (by simpa [alone] using ⟨h2, h3⟩)).mono ?_
  rintro e w' ⟨rfl, hs, ho⟩
  rw [alone_touch] at hs
  refine ⟨by rw [alone_find]; rfl, hs, hb.trans (ho.below hB ?_), Nat.le_trans hB ho.size⟩
  intro j hj
  simp at hj
  rcases hj with rfl | hj
  · exact h.ge
  · exact hg j hj
theorem at_live (base a : Nat) (g : Option Nat) (t span k : Int) (w : World) (h : IsSess w base a g (after t span k)) :
    Calls Try.prog 14 #[.pointer (some ⟨a, 0, none⟩), .int .i64 1] w fun e w' => e = .returned (.bool (decide (k < span))) ∧ Below w.heap.size w w' := by
  have hlen : (after t span k).l.length ≤ 1000000 := by unfold after; split <;> simp [alone, gone]
  refine (live_any base a g (after t span k) 1 w h hlen).mono ?_
  rintro e w' ⟨rfl, hb⟩
  refine ⟨?_, hb⟩
  unfold after
  by_cases hk : k < span
  · rw [if_pos hk, alone_find, decide_eq_true hk]; rfl
  · rw [if_neg hk, gone_find, decide_eq_false hk]; rfl
end Go.Proofs.Ytmlgggcdjknlfaa
