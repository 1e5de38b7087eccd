/-
  Sessions beside the document's.
-/
import Derived.Test.YtmlgggcdjknlfaaFit
import Derived.Test.YtmlgggcdjknlfaaApartW
import Derived.Test.YtmlgggcdjknlfaaBackW
import Derived.Test.YtmlgggcdjknlfaaRefC
namespace Go.Proofs.Ytmlgggcdjknlfaa
open Go.RowKit

theorem IsSess.kinds {w : World} {base a : Nat} {g : Option Nat} {s : Ss} (h : IsSess w base a g s) : ∀ k ∈ a :: g.toList, ∃ cs ty, w.heap[k]? = some (.cells cs ty (0, 0)) ∧ (ty = 52 ∨ ty = 54) := by
  intro k hk
  obtain ⟨⟨v, h1, h2, h3⟩, _, _⟩ := h
  simp at hk
  rcases hk with rfl | hk
  · exact ⟨_, _, h1, .inl rfl⟩
  · obtain ⟨_, cur, hc⟩ := rows_block h2 (h3.trans hk)
    exact ⟨_, _, hc, .inr rfl⟩
theorem IsRef.kinds {w : World} {base a : Nat} {g : Option Nat} {s : Ss} (h : IsRef w base a g s) : ∀ k ∈ a :: g.toList, ∃ cs ty, w.heap[k]? = some (.cells cs ty (0, 0)) ∧ (ty = 47 ∨ ty = 64) := by
  intro k hk
  obtain ⟨⟨v, h1, h2, h3⟩, _, _⟩ := h
  simp at hk
  rcases hk with rfl | hk
  · exact ⟨_, _, h1, .inl rfl⟩
  · obtain ⟨_, cur, hc⟩ := rows_block h2 (h3.trans hk)
    exact ⟨_, _, hc, .inr rfl⟩
theorem kinds_ne {w : World} {k : Nat} {cs cs2 : Array Value} {t t2 : TypeId} (h : w.heap[k]? = some (.cells cs t (0, 0))) (h2 : w.heap[k]? = some (.cells cs2 t2 (0, 0))) : t = t2 := by
  rw [h] at h2
  simp at h2
  exact h2.2

/-- sessions, the document's, and the act that is looked at -/
structure Duo (w0 W : World) (X : Nat) (x : Ac) (a b : Nat) (g1 g2 : Option Nat) (s t : Ss) : Prop where
  one : IsSess W w0.heap.size a g1 s
  two : IsRef W w0.heap.size b g2 t
  box : W.heap[X]? = some (.cells #[.int .i64 x.op, .int .i64 x.id, .int .i64 x.span] 36 (0, 0))
  below : Below w0.heap.size w0 W
section
variable {w0 W W' : World} {X : Nat} {x : Ac} {a b : Nat} {g1 g2 g1' g2' : Option Nat} {s t s' t' : Ss}
theorem Duo.later (h : Duo w0 W X x a b g1 g2 s t) (hb : Below W.heap.size W W') : Duo w0 W' X x a b g1 g2 s t :=
  ⟨h.one.below hb, h.two.below hb, (Only.ofBelow hb []).keeps h.box (by simp), h.below.trans (hb.mono h.below.size)⟩
theorem Duo.step1 (h : Duo w0 W X x a b g1 g2 s t) (h1 : IsSess W' w0.heap.size a g1' s') (ho : Only (a :: g1.toList) W W') : Duo w0 W' X x a b g1' g2 s' t := by
  have hk := h.one.kinds
  have hr := h.two.kinds
  refine ⟨h1, h.two.keep ho ?_ ?_, ho.keeps h.box ?_, h.below.trans (ho.below h.below.size ?_)⟩
  · intro hm
    obtain ⟨c1, t1, e1, q1⟩ := hk _ hm
    obtain ⟨c2, t2, e2, q2⟩ := hr b (by simp)
    have e := kinds_ne e1 e2
    rcases q1 with rfl | rfl <;> rcases q2 with rfl | rfl <;> exact absurd e (by decide)
  · intro j hj hm
    obtain ⟨c1, t1, e1, q1⟩ := hk _ hm
    obtain ⟨c2, t2, e2, q2⟩ := hr j (by simp [hj])
    have e := kinds_ne e1 e2
    rcases q1 with rfl | rfl <;> rcases q2 with rfl | rfl <;> exact absurd e (by decide)
  · intro hm
    obtain ⟨c1, t1, e1, q1⟩ := hk _ hm
    have e := kinds_ne e1 h.box
    rcases q1 with rfl | rfl <;> exact absurd e (by decide)
  · intro k hk
    simp at hk
    rcases hk with rfl | hk
    · exact h.one.ge
    · exact (h.one.glt k hk).1
theorem Duo.step2 (h : Duo w0 W X x a b g1 g2 s t) (h1 : IsRef W' w0.heap.size b g2' t') (ho : Only (b :: g2.toList) W W') : Duo w0 W' X x a b g1 g2' s t' := by
  have hk := h.one.kinds
  have hr := h.two.kinds
  refine ⟨h.one.keep ho ?_ ?_, h1, ho.keeps h.box ?_, h.below.trans (ho.below h.below.size ?_)⟩
  · intro hm
    obtain ⟨c1, t1, e1, q1⟩ := hr _ hm
    obtain ⟨c2, t2, e2, q2⟩ := hk a (by simp)
    have e := kinds_ne e1 e2
    rcases q1 with rfl | rfl <;> rcases q2 with rfl | rfl <;> exact absurd e (by decide)
  · intro j hj hm
    obtain ⟨c1, t1, e1, q1⟩ := hr _ hm
    obtain ⟨c2, t2, e2, q2⟩ := hk j (by simp [hj])
    have e := kinds_ne e1 e2
    rcases q1 with rfl | rfl <;> rcases q2 with rfl | rfl <;> exact absurd e (by decide)
  · intro hm
    obtain ⟨c1, t1, e1, q1⟩ := hr _ hm
    have e := kinds_ne e1 h.box
    rcases q1 with rfl | rfl <;> exact absurd e (by decide)
  · intro k hk
    simp at hk
    rcases hk with rfl | hk
    · exact h.two.ge
    · exact (h.two.glt k hk).1
theorem Duo.id (h : Duo w0 W X x a b g1 g2 s t) : W.cell? ⟨X, 1, none⟩ = some (.int .i64 x.id) := by rw [cell_heap h.box]; rfl
theorem Duo.span (h : Duo w0 W X x a b g1 g2 s t) : W.cell? ⟨X, 2, none⟩ = some (.int .i64 x.span) := by rw [cell_heap h.box]; rfl
theorem Duo.op (h : Duo w0 W X x a b g1 g2 s t) : W.cell? ⟨X, 0, none⟩ = some (.int .i64 x.op) := by rw [cell_heap h.box]; rfl
theorem Duo.now (h : Duo w0 W X x a b g1 g2 s t) : W.cell? ⟨b, 1, none⟩ = some (.int .i64 t.now) := by
  obtain ⟨⟨v, h1, h2, h3⟩, _, _⟩ := h.two
  rw [cell_heap h1]; rfl
theorem Duo.size (h : Duo w0 W X x a b g1 g2 s t) : w0.heap.size ≤ W.heap.size := h.below.size

theorem p_open1 (h : Duo w0 W X x a b g1 g2 s t) {i : Nat} (hm : Made s i) (hi : i ≤ 100000) (sp : Int) (h1 : -9223372036854775808 ≤ sp) (h2 : sp ≤ 9223372036854775807) :
    Calls Try.prog 11 #[.pointer (some ⟨a, 0, none⟩), .int .i64 sp] W fun e W' => e = .returned (.tuple #[.int .i64 (openN s sp), .int .i64 (openE s sp)]) ∧ ∃ g1', Duo w0 W' X x a b g1' g2 (openAny s sp) t := by
  unfold openN openE openAny
  have k1 := hm.now0; have k2 := hm.now1; have k3 := hm.next0; have k4 := hm.next1
  by_cases hb : openBad s sp
  · rw [if_pos hb, if_pos hb, if_pos hb]
    refine (open_arg a sp W hb h1 h2).mono ?_
    rintro e w' ⟨rfl, rfl⟩
    exact ⟨rfl, g1, h⟩
  · rw [if_neg hb, if_neg hb, if_neg hb]
    unfold openBad at hb
    by_cases hf : s.room ≤ (s.l.length : Int)
    · rw [if_pos hf, if_pos hf, if_pos hf]
      refine (open_full w0.heap.size a g1 s sp W h.one (by omega) (by omega) hf).mono ?_
      rintro e w' ⟨rfl, d, rfl⟩
      exact ⟨rfl, g1, h.later (below_drew (Below.refl _ _) d)⟩
    · rw [if_neg hf, if_neg hf, if_neg hf]
      refine (open_ok w0.heap.size a g1 s sp W h.one (by omega) (by omega) (by omega) hm.room k1 (by omega) (by omega) (by omega)).mono ?_
      rintro e w' ⟨g', rfl, hs', ho, hg'⟩
      exact ⟨rfl, g', h.step1 hs' ho⟩
theorem p_open2 (h : Duo w0 W X x a b g1 g2 s t) {i : Nat} (hm : Made t i) (hi : i ≤ 100000) (sp : Int) (h1 : -9223372036854775808 ≤ sp) (h2 : sp ≤ 9223372036854775807) :
    Calls Try.prog 20 #[.pointer (some ⟨b, 0, none⟩), .int .i64 sp] W fun e W' => e = .returned (.tuple #[.int .i64 (openN t sp), .int .i64 (openE t sp)]) ∧ ∃ g2', Duo w0 W' X x a b g1 g2' s (openAny t sp) := by
  unfold openN openE openAny
  have k1 := hm.now0; have k2 := hm.now1; have k3 := hm.next0; have k4 := hm.next1
  by_cases hb : openBad t sp
  · rw [if_pos hb, if_pos hb, if_pos hb]
    refine (ropen_arg b sp W hb h1 h2).mono ?_
    rintro e w' ⟨rfl, rfl⟩
    exact ⟨rfl, g2, h⟩
  · rw [if_neg hb, if_neg hb, if_neg hb]
    unfold openBad at hb
    by_cases hf : t.room ≤ (t.l.length : Int)
    · rw [if_pos hf, if_pos hf, if_pos hf]
      refine (ropen_full w0.heap.size b g2 t sp W h.two (by omega) (by omega) hf).mono ?_
      rintro e w' ⟨rfl, d, rfl⟩
      exact ⟨rfl, g2, h.later (below_drew (Below.refl _ _) d)⟩
    · rw [if_neg hf, if_neg hf, if_neg hf]
      refine (ropen_ok w0.heap.size b g2 t sp W h.two (by omega) (by omega) (by omega) hm.room k1 (by omega) (by omega) (by omega) h.size).mono ?_
      rintro e w' ⟨g', rfl, hs', ho, hg'⟩
      exact ⟨rfl, g', h.step2 hs' (ho.mono (by simp))⟩
theorem p_tick1 (h : Duo w0 W X x a b g1 g2 s t) {i : Nat} (hm : Made s i) (hi : i ≤ 100000) :
    Calls Try.prog 12 #[.pointer (some ⟨a, 0, none⟩)] W fun e W' => ∃ v, e = .returned v ∧ OwnI W' W.heap.size 2 v (overIds (s.now + 1) s.l) ∧ Duo w0 W' X x a b g1 g2 (tickS s) t := by
  have k1 := hm.now0; have k2 := hm.now1; have k3 := hm.len; have k4 := hm.room
  refine (tick_any w0.heap.size a g1 s W h.one (by omega) k1 (by omega)).mono ?_
  rintro e w' ⟨v, rfl, hv, hs', ho⟩
  exact ⟨v, rfl, hv, h.step1 hs' ho⟩
theorem p_tick2 (h : Duo w0 W X x a b g1 g2 s t) {i : Nat} (hm : Made t i) (hi : i ≤ 100000) :
    Calls Try.prog 23 #[.pointer (some ⟨b, 0, none⟩)] W fun e W' => ∃ v g2', e = .returned v ∧ OwnI W' W.heap.size 2 v (overIds (t.now + 1) t.l) ∧ Duo w0 W' X x a b g1 g2' s (tickS t) ∧ Only [b] W W' := by
  have k1 := hm.now0; have k2 := hm.now1; have k3 := hm.len; have k4 := hm.room
  refine (rtick_any w0.heap.size b g2 t W h.two (by omega) k1 (by omega) h.size).mono ?_
  rintro e w' ⟨v, g', rfl, hv, hs', ho, hg'⟩
  exact ⟨v, g', rfl, hv, h.step2 hs' (ho.mono (by simp)), ho⟩
theorem p_touch1 (h : Duo w0 W X x a b g1 g2 s t) {i : Nat} (hm : Made s i) (hi : i ≤ 100000) (q : Int) :
    Calls Try.prog 13 #[.pointer (some ⟨a, 0, none⟩), .int .i64 q] W fun e W' => e = .returned (.int .i64 (if findS s.l q < 0 then 11 else 0)) ∧ Duo w0 W' X x a b g1 g2 (touchS s q) t := by
  have k1 := hm.now0; have k2 := hm.now1; have k3 := hm.len; have k4 := hm.room
  refine (touch_any w0.heap.size a g1 s q W h.one (by omega) k1 (by omega) hm.spans).mono ?_
  rintro e w' ⟨rfl, hs', ho⟩
  exact ⟨rfl, h.step1 hs' ho⟩
theorem p_touch2 (h : Duo w0 W X x a b g1 g2 s t) {i : Nat} (hm : Made t i) (hi : i ≤ 100000) (q : Int) :
    Calls Try.prog 21 #[.pointer (some ⟨b, 0, none⟩), .int .i64 q] W fun e W' => e = .returned (.int .i64 (if findS t.l q < 0 then 11 else 0)) ∧ Duo w0 W' X x a b g1 g2 s (touchS t q) := by
  have k1 := hm.now0; have k2 := hm.now1; have k3 := hm.len; have k4 := hm.room
  refine (rtouch_any w0.heap.size b g2 t q W h.two (by omega) k1 (by omega) hm.spans).mono ?_
  rintro e w' ⟨rfl, hs', ho⟩
  exact ⟨rfl, h.step2 hs' ho⟩
theorem p_close1 (h : Duo w0 W X x a b g1 g2 s t) {i : Nat} (hm : Made s i) (q : Int) :
    Calls Try.prog 15 #[.pointer (some ⟨a, 0, none⟩), .int .i64 q] W fun e W' => e = .returned (.int .i64 (if findS s.l q < 0 then 11 else 0)) ∧ Duo w0 W' X x a b g1 g2 (closeS s q) t := by
  have k3 := hm.len; have k4 := hm.room
  refine (close_any w0.heap.size a g1 s q W h.one (by omega)).mono ?_
  rintro e w' ⟨rfl, hs', ho⟩
  exact ⟨rfl, h.step1 hs' ho⟩
theorem p_close2 (h : Duo w0 W X x a b g1 g2 s t) {i : Nat} (hm : Made t i) (q : Int) :
    Calls Try.prog 22 #[.pointer (some ⟨b, 0, none⟩), .int .i64 q] W fun e W' => e = .returned (.int .i64 (if findS t.l q < 0 then 11 else 0)) ∧ ∃ g2', Duo w0 W' X x a b g1 g2' s (closeS t q) := by
  have k3 := hm.len; have k4 := hm.room
  refine (rclose_any w0.heap.size b g2 t q W h.two (by omega) h.size).mono ?_
  rintro e w' ⟨rfl, g', hs', ho, _⟩
  exact ⟨rfl, g', h.step2 hs' (ho.mono (by simp))⟩
theorem p_again (h : Duo w0 W X x a b g1 g2 s t) {i : Nat} (hm : Fit s i) (hi : i ≤ 100000) :
    Calls Try.prog 18 #[.pointer (some ⟨a, 0, none⟩)] W fun e W1 => ∃ v, e = .returned v ∧ Calls Try.prog 17 #[v] W1 fun e W' => ∃ a' g', e = .returned (.tuple #[.pointer (some ⟨a', 0, none⟩), .int .i64 0]) ∧ Duo w0 W' X x a' b g' g2 s t := by
  have hl := hm.made.len; have hr := hm.made.room
  refine (put_any w0.heap.size a g1 s W h.one (by omega)).mono ?_
  rintro e w3 ⟨v, rfl, hown, hb3⟩
  obtain ⟨a3, c3, rfl, hbs⟩ := hown.isB
  refine ⟨_, rfl, ?_⟩
  refine (get_put s (hm.good hi) a3 _ c3 w3 hbs).mono ?_
  rintro e w4 ⟨a', g', rfl, hs4, hb4⟩
  have h4 := (h.later hb3).later hb4
  have hz := h.size
  have hz3 := hb3.size
  refine ⟨a', g', rfl, ?_, h4.two, h4.box, h4.below⟩
  obtain ⟨⟨v, m1, m2, m3⟩, m4, m5⟩ := hs4
  exact ⟨⟨v, m1, rows_mono m2 (by omega), m3⟩, by omega, m5⟩
theorem rall_of {w : World} {base a : Nat} {g : Option Nat} {s : Ss} (h : IsRef w base a g s) (hl : s.l.length ≤ 1000000) :
    ∀ w', Below w.heap.size w w' → Calls Try.prog 24 #[.pointer (some ⟨a, 0, none⟩)] w' fun e w2 => ∃ v, e = .returned v ∧ OwnI w2 w'.heap.size 2 v (idsOf s) ∧ Below w.heap.size w w2 ∧ Below w'.heap.size w' w2 := by
  intro w' hb
  refine (rall_any base a g s w' (h.below hb) hl).mono ?_
  rintro e w2 ⟨v, rfl, hv, hb2⟩
  exact ⟨v, rfl, hv, hb.trans (hb2.mono hb.size), hb2⟩
theorem rput_of {w : World} {base a : Nat} {g : Option Nat} {s : Ss} (h : IsRef w base a g s) (hl : s.l.length ≤ 1000) :
    ∀ w', Below w.heap.size w w' → Calls Try.prog 27 #[.pointer (some ⟨a, 0, none⟩)] w' fun e w2 => ∃ ao n c, e = .returned (.slice ao n c) ∧ (∀ w3, Below w2.heap.size w2 w3 → (convert 40 9 (.slice ao n c)).run Try.prog w3 = .ok (.string (strB (putB s))) w3) ∧ Below w.heap.size w w2 ∧ Below w'.heap.size w' w2 := by
  intro w' hb
  refine (rput_any base a g s w' (h.below hb) hl).mono ?_
  rintro e w2 ⟨v, rfl, hv, hb2⟩
  obtain ⟨ao, n, c, rfl, h1, _⟩ := own_conv hv
  exact ⟨ao, n, c, rfl, fun w3 hb3 => conv_any w3 ao n c _ (h1.below hb3), hb.trans (hb2.mono hb.size), hb2⟩
theorem live_of {w : World} {base a : Nat} {g : Option Nat} {s : Ss} (h : IsSess w base a g s) (hl : s.l.length ≤ 1000000) (q : Int) :
    ∀ w', Below w.heap.size w w' → Calls Try.prog 14 #[.pointer (some ⟨a, 0, none⟩), .int .i64 q] w' fun e w2 => e = .returned (.bool (decide (0 ≤ findS s.l q))) ∧ Below w.heap.size w w2 ∧ Below w'.heap.size w' w2 := by
  intro w' hb
  refine (live_any base a g s q w' (h.below hb) hl).mono ?_
  rintro e w2 ⟨rfl, hb2⟩
  exact ⟨rfl, hb.trans (hb2.mono hb.size), hb2⟩
theorem rlive_of {w : World} {base a : Nat} {g : Option Nat} {s : Ss} (h : IsRef w base a g s) (hl : s.l.length ≤ 1000000) (q : Int) :
    ∀ w', Below w.heap.size w w' → Calls Try.prog 26 #[.pointer (some ⟨a, 0, none⟩), .int .i64 q] w' fun e w2 => e = .returned (.bool (decide (0 ≤ findS s.l q))) ∧ w' = w2 :=
  fun w' hb => rlive_any base a g s q w' (h.below hb) hl
theorem now_of {w : World} {base a : Nat} {g : Option Nat} {s : Ss} (h : IsSess w base a g s) :
    ∀ w', Below w.heap.size w w' → Calls Try.prog 25 #[.pointer (some ⟨a, 0, none⟩)] w' fun e w2 => e = .returned (.int .i64 s.now) ∧ w' = w2 :=
  fun w' hb => now_any base a g s w' (h.below hb)
end
end Go.Proofs.Ytmlgggcdjknlfaa
