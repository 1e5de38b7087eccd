/-
  A session that is touched by nobody ends at its own time: the plain law.
-/
import Derived.Test.YtmlgggcdjknlfaaActs
namespace Go.Proofs.Ytmlgggcdjknlfaa
open Go.RowKit

/-- what stands of sessions that calls have made, i calls in all -/
structure Made (s : Ss) (i : Nat) : Prop where
  now0 : 0 ≤ s.now
  now1 : s.now ≤ i
  next0 : 1 ≤ s.next
  next1 : s.next ≤ i + 1
  len : (s.l.length : Int) ≤ s.room
  room : s.room ≤ 64
  spans : ∀ x ∈ s.l, 0 ≤ x.span ∧ x.span ≤ 10000
theorem mem_modify {l : List Se} {k : Nat} {f : Se → Se} {y : Se} (h : y ∈ l.modify k f) : y ∈ l ∨ (∃ hk : k < l.length, y = f l[k]) := by
  obtain ⟨j, hj, rfl⟩ := List.getElem_of_mem h
  rw [List.length_modify] at hj
  rw [List.getElem_modify]
  by_cases e : k = j
  · subst e; rw [if_pos rfl]; exact .inr ⟨hj, rfl⟩
  · rw [if_neg e]; exact .inl (List.getElem_mem hj)
theorem Made.next {s : Ss} {i : Nat} (h : Made s i) : Made s (i + 1) :=
  ⟨h.now0, by have := h.now1; omega, h.next0, by have := h.next1; omega, h.len, h.room, h.spans⟩
theorem Made.open_ {s : Ss} {i : Nat} (h : Made s i) {span : Int} (h1 : 1 ≤ span) (h2 : span ≤ 10000) (hf : (s.l.length : Int) < s.room) : Made (openS s span) (i + 1) := by
  refine ⟨h.now0, by have := h.now1; show s.now ≤ _; omega, by have := h.next0; show 1 ≤ s.next + 1; omega, by have := h.next1; show s.next + 1 ≤ _; omega, by simp [openS]; omega, h.room, ?_⟩
  intro x hx
  simp only [openS, List.mem_append, List.mem_singleton] at hx
  rcases hx with hx | rfl
  · exact h.spans x hx
  · exact ⟨by show 0 ≤ span; omega, h2⟩
theorem Made.touch {s : Ss} {i : Nat} (h : Made s i) (q : Int) : Made (touchS s q) (i + 1) := by
  unfold touchS
  split
  · exact h.next
  · refine ⟨h.now0, by have := h.now1; show s.now ≤ _; omega, h.next0, by have := h.next1; show s.next ≤ _; omega, by simpa using h.len, h.room, ?_⟩
    intro x hx
    rcases mem_modify hx with hx | ⟨hk, rfl⟩
    · exact h.spans x hx
    · exact h.spans s.l[(findS s.l q).toNat] (List.getElem_mem hk)
theorem Made.tick {s : Ss} {i : Nat} (h : Made s i) : Made (tickS s) (i + 1) := by
  refine ⟨by have := h.now0; show 0 ≤ s.now + 1; omega, by have := h.now1; show s.now + 1 ≤ _; omega, h.next0, by have := h.next1; show s.next ≤ _; omega, ?_, h.room, ?_⟩
  · have h1 := h.len
    have h2 : (tickS s).l.length ≤ s.l.length := List.length_filter_le _ _
    show ((tickS s).l.length : Int) ≤ s.room
    omega
  · intro x hx
    exact h.spans x (List.mem_filter.1 hx).1

/-- the session 1 has its own time, and lives till then -/
structure Own1 (s : Ss) (span : Int) : Prop where
  till : ∀ x ∈ s.l, x.id = 1 → x.till = span
  lives : (∃ x ∈ s.l, x.id = 1) ↔ s.now < span
  next : 2 ≤ s.next
theorem find_iff (l : List Se) (q : Int) : 0 ≤ findS l q ↔ ∃ x ∈ l, x.id = q := by
  unfold findS
  by_cases h : l.findIdx (isId q) < l.length
  · rw [if_pos h]
    refine ⟨fun _ => ?_, fun _ => by omega⟩
    obtain ⟨x, hx, h2⟩ := List.findIdx_lt_length.1 h
    exact ⟨x, hx, by simpa [isId] using h2⟩
  · rw [if_neg h]
    refine ⟨fun h2 => by omega, fun ⟨x, hx, h2⟩ => ?_⟩
    exact absurd (List.findIdx_lt_length.2 ⟨x, hx, by simpa [isId] using h2⟩) h
theorem Own1.open_ {s : Ss} {span : Int} (h : Own1 s span) (sp : Int) : Own1 (openS s sp) span := by
  have hn := h.next
  refine ⟨?_, ?_, by show 2 ≤ s.next + 1; omega⟩
  · intro x hx h1
    simp only [openS, List.mem_append, List.mem_singleton] at hx
    rcases hx with hx | rfl
    · exact h.till x hx h1
    · simp at h1; omega
  · rw [show (openS s sp).now = s.now from rfl, ← h.lives]
    constructor
    · rintro ⟨x, hx, h1⟩
      simp only [openS, List.mem_append, List.mem_singleton] at hx
      rcases hx with hx | rfl
      · exact ⟨x, hx, h1⟩
      · simp at h1; omega
    · rintro ⟨x, hx, h1⟩
      exact ⟨x, by simp [openS, hx], h1⟩
theorem Own1.tick {s : Ss} {span : Int} (h : Own1 s span) : Own1 (tickS s) span := by
  refine ⟨fun x hx h1 => h.till x (List.mem_filter.1 hx).1 h1, ?_, h.next⟩
  rw [show (tickS s).now = s.now + 1 from rfl]
  constructor
  · rintro ⟨x, hx, h1⟩
    obtain ⟨h2, h3⟩ := List.mem_filter.1 hx
    have := h.till x h2 h1
    simp [over] at h3
    omega
  · intro hlt
    obtain ⟨x, hx, h1⟩ := h.lives.2 (by omega)
    refine ⟨x, List.mem_filter.2 ⟨hx, ?_⟩, h1⟩
    have := h.till x hx h1
    simp [over]
    omega
theorem Own1.touch {s : Ss} {span : Int} (h : Own1 s span) (q : Int) (hq : q ≠ 1) : Own1 (touchS s q) span := by
  unfold touchS
  split
  · exact h
  · rename_i hf
    have hlt := findS_lt s.l q
    have hid : ∀ hk : (findS s.l q).toNat < s.l.length, (s.l[(findS s.l q).toNat]).id = q := by
      intro hk
      have h1 : s.l.findIdx (isId q) < s.l.length := by
        unfold findS at hf
        by_cases h : s.l.findIdx (isId q) < s.l.length
        · exact h
        · rw [if_neg h] at hf; omega
      have h2 : (findS s.l q).toNat = s.l.findIdx (isId q) := by unfold findS; rw [if_pos h1]; rfl
      have h3 := List.findIdx_getElem (w := h1)
      simp only [isId, beq_iff_eq] at h3
      simpa [h2] using h3
    refine ⟨?_, ?_, h.next⟩
    · intro x hx h1
      rcases mem_modify hx with hx | ⟨hk, rfl⟩
      · exact h.till x hx h1
      · exact absurd ((hid hk).symm.trans h1) hq
    · show (∃ x ∈ s.l.modify _ _, x.id = 1) ↔ s.now < span
      rw [← h.lives]
      have hids : (s.l.modify (findS s.l q).toNat (liveOn s.now)).map Se.id = s.l.map Se.id := by
        apply List.ext_getElem
        · simp
        · intro j h1 h2
          simp only [List.getElem_map, List.getElem_modify]
          split <;> rfl
      have hm : ∀ l : List Se, (∃ x ∈ l, x.id = 1) ↔ (1 : Int) ∈ l.map Se.id := fun l => by simp [List.mem_map]
      rw [hm, hm, hids]
end Go.Proofs.Ytmlgggcdjknlfaa
