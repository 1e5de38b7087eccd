/-
  Sessions that calls have made are good; two sessions side by side.
-/
import Derived.Test.YtmlgggcdjknlfaaGet
namespace Go.Proofs.Ytmlgggcdjknlfaa
open Go.RowKit

/-- what stands of a session that lives -/
structure Fits (now : Int) (x : Se) : Prop where
  sp1 : 1 ≤ x.span
  sp2 : x.span ≤ 10000
  t1 : now < x.till
  t2 : x.till - now ≤ x.span
  t3 : x.span ≤ x.till
structure Fit (s : Ss) (i : Nat) : Prop where
  made : Made s i
  rise : Rise (idsOf s) s.next
  fits : ∀ x ∈ s.l, Fits s.now x
  room1 : 1 ≤ s.room
theorem fit_new (room : Int) (h1 : 1 ≤ room) (h2 : room ≤ 64) (i : Nat) : Fit (newS room) i :=
  ⟨⟨by show (0 : Int) ≤ 0; omega, by show (0 : Int) ≤ i; omega, by show (1 : Int) ≤ 1; omega, by show (1 : Int) ≤ i + 1; omega, by simp [newS]; omega, h2, by simp [newS]⟩, ⟨by simp [newS, idsOf], by simp [newS, idsOf]⟩, by simp [newS], h1⟩
theorem Fit.next {s : Ss} {i : Nat} (h : Fit s i) : Fit s (i + 1) := ⟨h.made.next, h.rise, h.fits, h.room1⟩
theorem Fit.any {s : Ss} {i : Nat} (h : Fit s i) (sp : Int) : Fit (openAny s sp) (i + 1) := by
  have hmd := h.made.any sp
  unfold openAny at hmd ⊢
  by_cases hb : openBad s sp
  · rw [if_pos hb] at hmd ⊢; exact h.next
  · rw [if_neg hb] at hmd ⊢
    by_cases hf : s.room ≤ (s.l.length : Int)
    · rw [if_pos hf] at hmd ⊢; exact h.next
    · rw [if_neg hf] at hmd ⊢
      have h0 := h.made.now0
      refine ⟨hmd, by rw [ids_open]; exact h.rise.more h.made.next0, ?_, h.room1⟩
      intro x hx
      simp only [openS, List.mem_append, List.mem_singleton] at hx
      unfold openBad at hb
      rcases hx with hx | rfl
      · exact h.fits x hx
      · exact ⟨by show 1 ≤ sp; omega, by show sp ≤ 10000; omega, by show s.now < s.now + sp; omega, by show s.now + sp - s.now ≤ sp; omega, by show sp ≤ s.now + sp; omega⟩
theorem Fit.touch {s : Ss} {i : Nat} (h : Fit s i) (q : Int) : Fit (touchS s q) (i + 1) := by
  have e : (touchS s q).next = s.next ∧ (touchS s q).room = s.room ∧ (touchS s q).now = s.now := by unfold touchS; split <;> exact ⟨rfl, rfl, rfl⟩
  refine ⟨h.made.touch q, by rw [ids_touch, e.1]; exact h.rise, ?_, by rw [e.2.1]; exact h.room1⟩
  rw [e.2.2]
  have h0 := h.made.now0
  intro x hx
  unfold touchS at hx
  split at hx
  · exact h.fits x hx
  · rcases mem_modify hx with hx | ⟨hk, rfl⟩
    · exact h.fits x hx
    · have hy := h.fits _ (List.getElem_mem hk)
      have h1 := hy.sp1
      have h2 := hy.sp2
      exact ⟨h1, h2, by simp only [liveOn]; omega, by simp only [liveOn]; omega, by simp only [liveOn]; omega⟩
theorem Fit.close {s : Ss} {i : Nat} (h : Fit s i) (q : Int) : Fit (closeS s q) (i + 1) := by
  have e : (closeS s q).next = s.next ∧ (closeS s q).room = s.room ∧ (closeS s q).now = s.now := by unfold closeS; split <;> exact ⟨rfl, rfl, rfl⟩
  refine ⟨h.made.close q, by rw [e.1]; exact h.rise.sub (ids_close s q), ?_, by rw [e.2.1]; exact h.room1⟩
  rw [e.2.2]
  intro x hx
  unfold closeS at hx
  split at hx
  · exact h.fits x hx
  · exact h.fits x ((List.eraseIdx_sublist ..).subset hx)
theorem Fit.tick {s : Ss} {i : Nat} (h : Fit s i) : Fit (tickS s) (i + 1) := by
  refine ⟨h.made.tick, h.rise.sub (ids_tick s), ?_, h.room1⟩
  intro x hx
  obtain ⟨h1, h2⟩ := List.mem_filter.1 hx
  have hf := h.fits x h1
  have : ¬ x.till ≤ s.now + 1 := by simpa [over] using h2
  have e1 := hf.t2
  exact ⟨hf.sp1, hf.sp2, by show s.now + 1 < x.till; omega, by show x.till - (s.now + 1) ≤ x.span; omega, hf.t3⟩
theorem Fit.good {s : Ss} {i : Nat} (h : Fit s i) (hi : i ≤ 100000) : Good s := by
  have hm := h.made
  have k1 := hm.now0; have k2 := hm.now1; have k3 := hm.next0; have k4 := hm.next1
  have hid : ∀ k, k < s.l.length → (idsOf s).getD k 0 = (s.l.getD k ⟨0, 0, 0⟩).id := fun k hk => by simp [idsOf, hk]
  have hil : (idsOf s).length = s.l.length := by simp [idsOf]
  refine ⟨h.room1, hm.room, k1, by omega, k3, by omega, hm.len, ?_, ?_⟩
  · intro k hk
    obtain ⟨h1, h2, h3, h4⟩ := h.rise.at_ (k := k) (by omega)
    rw [hid k hk] at h1 h4
    unfold prevId
    split
    · omega
    · have := h4 (by omega)
      rwa [hid (k - 1) (by omega)] at this
  · intro k hk
    obtain ⟨h1, h2, h3, h4⟩ := h.rise.at_ (k := k) (by omega)
    rw [hid k hk] at h2
    have hf := h.fits (s.l.getD k ⟨0, 0, 0⟩) (by rw [List.getD_eq_getElem?_getD, List.getElem?_eq_getElem hk]; exact List.getElem_mem hk)
    exact ⟨h2, hf.sp1, hf.sp2, hf.t1, hf.t2, hf.t3⟩

/-- two sessions side by side, all in new memory -/
structure Pair (w0 W : World) (a b : Nat) (g1 g2 : Option Nat) (s t : Ss) : Prop where
  one : IsSess W w0.heap.size a g1 s
  two : IsSess W w0.heap.size b g2 t
  ab : a ≠ b
  g1b : g1 ≠ some b
  g2a : g2 ≠ some a
  gg : ∀ j, g1 = some j → g2 ≠ some j
  below : Below w0.heap.size w0 W
section
variable {w0 W W' : World} {a b : Nat} {g1 g2 g1' : Option Nat} {s t s' : Ss}
theorem Pair.symm (h : Pair w0 W a b g1 g2 s t) : Pair w0 W b a g2 g1 t s :=
  ⟨h.two, h.one, h.ab.symm, h.g2a, h.g1b, fun j hj e => h.gg j e hj, h.below⟩
theorem Pair.later (h : Pair w0 W a b g1 g2 s t) (hb : Below W.heap.size W W') : Pair w0 W' a b g1 g2 s t :=
  ⟨h.one.below hb, h.two.below hb, h.ab, h.g1b, h.g2a, h.gg, h.below.trans (hb.mono h.below.size)⟩
theorem Pair.step (h : Pair w0 W a b g1 g2 s t) (h1 : IsSess W' w0.heap.size a g1' s') (ho : Only (a :: g1.toList) W W') (hg : g1' = g1 ∨ ∃ k, g1' = some k ∧ W.heap.size ≤ k) : Pair w0 W' a b g1' g2 s' t := by
  have hb := h.two.lt
  have hg2 := h.two.glt
  refine ⟨h1, h.two.keep ho ?_ ?_, h.ab, ?_, h.g2a, ?_, h.below.trans (ho.below h.below.size ?_)⟩
  · intro hm
    simp at hm
    rcases hm with hm | hm
    · exact h.ab hm.symm
    · exact h.g1b hm
  · intro j hj hm
    simp at hm
    rcases hm with hm | hm
    · exact h.g2a (hm ▸ hj)
    · exact h.gg j hm hj
  · rcases hg with rfl | ⟨k, rfl, hk⟩
    · exact h.g1b
    · simp; omega
  · intro j hj
    rcases hg with rfl | ⟨k, rfl, hk⟩
    · exact h.gg j hj
    · intro e
      have := (hg2 j e).2
      simp at hj
      omega
  · intro k hk
    simp at hk
    rcases hk with rfl | hk
    · exact h.one.ge
    · exact (h.one.glt k hk).1

theorem two_open (h : Pair w0 W a b g1 g2 s t) {i : Nat} (hm : Made s i) (hi : i ≤ 100000) (sp : Int) (h1 : -9223372036854775808 ≤ sp) (h2 : sp ≤ 9223372036854775807) :
    Calls Try.prog 11 #[.pointer (some ⟨a, 0, none⟩), .int .i64 sp] W fun e W' => e = .returned (.tuple #[.int .i64 (openN s sp), .int .i64 (openE s sp)]) ∧ ∃ g1', Pair w0 W' a b g1' g2 (openAny s sp) t := by
  unfold openN openE openAny
  have k1 := hm.now0; have k2 := hm.now1; have k3 := hm.next0; have k4 := hm.next1
  by_cases hb : openBad s sp
  · rw [if_pos hb, if_pos hb, if_pos hb]
    refine (open_arg a sp W hb h1 h2).mono ?_
    rintro e w' ⟨rfl, rfl⟩
    exact ⟨rfl, g1, h⟩
  · rw [if_neg hb, if_neg hb, if_neg hb]
    unfold openBad at hb
    by_cases hf : s.room ≤ (s.l.length : Int)
    · rw [if_pos hf, if_pos hf, if_pos hf]
      refine (open_full w0.heap.size a g1 s sp W h.one (by omega) (by omega) hf).mono ?_
      rintro e w' ⟨rfl, d, rfl⟩
      exact ⟨rfl, g1, h.later (below_drew (Below.refl _ _) d)⟩
    · rw [if_neg hf, if_neg hf, if_neg hf]
      refine (open_ok w0.heap.size a g1 s sp W h.one (by omega) (by omega) (by omega) hm.room k1 (by omega) (by omega) (by omega)).mono ?_
      rintro e w' ⟨g', rfl, hs', ho, hg'⟩
      exact ⟨rfl, g', h.step hs' ho hg'⟩
theorem two_tick (h : Pair w0 W a b g1 g2 s t) {i : Nat} (hm : Made s i) (hi : i ≤ 100000) :
    Calls Try.prog 12 #[.pointer (some ⟨a, 0, none⟩)] W fun e W' => ∃ v, e = .returned v ∧ OwnI W' W.heap.size 2 v (overIds (s.now + 1) s.l) ∧ Pair w0 W' a b g1 g2 (tickS s) t ∧ Only (a :: g1.toList) W W' := by
  have k1 := hm.now0; have k2 := hm.now1; have k3 := hm.len; have k4 := hm.room
  refine (tick_any w0.heap.size a g1 s W h.one (by omega) k1 (by omega)).mono ?_
  rintro e w' ⟨v, rfl, hv, hs', ho⟩
  exact ⟨v, rfl, hv, h.step hs' ho (.inl rfl), ho⟩
theorem two_touch (h : Pair w0 W a b g1 g2 s t) {i : Nat} (hm : Made s i) (hi : i ≤ 100000) (q : Int) :
    Calls Try.prog 13 #[.pointer (some ⟨a, 0, none⟩), .int .i64 q] W fun e W' => e = .returned (.int .i64 (if findS s.l q < 0 then 11 else 0)) ∧ Pair w0 W' a b g1 g2 (touchS s q) t := by
  have k1 := hm.now0; have k2 := hm.now1; have k3 := hm.len; have k4 := hm.room
  refine (touch_any w0.heap.size a g1 s q W h.one (by omega) k1 (by omega) hm.spans).mono ?_
  rintro e w' ⟨rfl, hs', ho⟩
  exact ⟨rfl, h.step hs' ho (.inl rfl)⟩
theorem OwnI.only {w w' : World} {base : Nat} {e : TypeId} {v : Value} {l : List Int} (h : OwnI w base e v l) {S : List Nat} (ho : Only S w w') (hs : ∀ k ∈ S, k < base) : OwnI w' base e v l :=
  rows_only h ho (fun b hb hm => by have := (OwnI.lt h b hb).1; have := hs _ hm; omega)
end
end Go.Proofs.Ytmlgggcdjknlfaa
