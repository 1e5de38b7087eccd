/-
  Sessions have numbers that rise: the plain law; closing and telling all, at sessions that calls have made.
-/
import Derived.Test.YtmlgggcdjknlfaaDo
import Derived.Test.YtmlgggcdjknlfaaClose
namespace Go.Proofs.Ytmlgggcdjknlfaa
open Go.RowKit

theorem Made.close {s : Ss} {i : Nat} (h : Made s i) (q : Int) : Made (closeS s q) (i + 1) := by
  unfold closeS
  split
  · exact h.next
  · have h1 := h.len
    have h2 : (s.l.eraseIdx (findS s.l q).toNat).length ≤ s.l.length := List.length_eraseIdx_le ..
    refine ⟨h.now0, by have := h.now1; show s.now ≤ _; omega, h.next0, by have := h.next1; show s.next ≤ _; omega, by show ((s.l.eraseIdx (findS s.l q).toNat).length : Int) ≤ s.room; omega, h.room, ?_⟩
    intro x hx
    exact h.spans x ((List.eraseIdx_sublist ..).subset hx)
theorem do_close {w0 w : World} {base a : Nat} {s : Ss} {i : Nat} (q : Int) (h : Ours w0 w base a s) (hm : Made s i) :
    Calls Try.prog 15 #[.pointer (some ⟨a, 0, none⟩), .int .i64 q] w fun e w' => e = .returned (.int .i64 (if findS s.l q < 0 then 11 else 0)) ∧ Ours w0 w' base a (closeS s q) := by
  have k3 := hm.len; have k4 := hm.room
  obtain ⟨g, hs, hg⟩ := h.is
  refine (close_any base a g s q w hs (by omega)).mono ?_
  rintro e w' ⟨rfl, hs', ho⟩
  refine ⟨rfl, ⟨g, hs', hg⟩, h.below.trans (ho.below h.size ?_), Nat.le_trans h.size ho.size⟩
  intro j hj
  simp at hj
  rcases hj with rfl | hj
  · exact hs.ge
  · exact hg j hj
theorem do_all {w0 w : World} {base a : Nat} {s : Ss} {i : Nat} (h : Ours w0 w base a s) (hm : Made s i) :
    Calls Try.prog 16 #[.pointer (some ⟨a, 0, none⟩)] w fun e w' => ∃ v, e = .returned v ∧ OwnI w' w.heap.size 2 v (s.l.map Se.id) ∧ Ours w0 w' base a s ∧ Below w.heap.size w w' := by
  have k3 := hm.len; have k4 := hm.room
  obtain ⟨g, hs, hg⟩ := h.is
  refine (all_any base a g s w hs (by omega)).mono ?_
  rintro e w' ⟨v, rfl, hv, hb⟩
  exact ⟨v, rfl, hv, h.later hb, hb⟩

/-- numbers that rise, all ahead of the next one -/
structure Rise (m : List Int) (next : Int) : Prop where
  from1 : ∀ z ∈ m, 1 ≤ z ∧ z < next
  up : m.Pairwise (· < ·)
theorem Rise.sub {m m' : List Int} {next : Int} (h : Rise m next) (hs : m'.Sublist m) : Rise m' next :=
  ⟨fun z hz => h.from1 z (hs.subset hz), h.up.sublist hs⟩
theorem Rise.more {m : List Int} {next : Int} (h : Rise m next) (h1 : 1 ≤ next) : Rise (m ++ [next]) (next + 1) := by
  refine ⟨fun z hz => ?_, ?_⟩
  · rcases List.mem_append.1 hz with hz | hz
    · have := h.from1 z hz; omega
    · simp at hz; omega
  · rw [List.pairwise_append]
    refine ⟨h.up, by simp, fun x hx y hy => ?_⟩
    simp at hy
    have := h.from1 x hx
    omega
def idsOf (s : Ss) : List Int := s.l.map Se.id
theorem ids_touch (s : Ss) (q : Int) : idsOf (touchS s q) = idsOf s := by
  unfold touchS idsOf
  split
  · rfl
  · apply List.ext_getElem
    · simp
    · intro j h1 h2
      simp only [List.getElem_map, List.getElem_modify]
      split <;> rfl
theorem ids_tick (s : Ss) : (idsOf (tickS s)).Sublist (idsOf s) := List.Sublist.map _ List.filter_sublist
theorem ids_close (s : Ss) (q : Int) : (idsOf (closeS s q)).Sublist (idsOf s) := by
  unfold closeS
  split
  · exact List.Sublist.refl _
  · exact List.Sublist.map _ (List.eraseIdx_sublist ..)
theorem ids_open (s : Ss) (sp : Int) : idsOf (openS s sp) = idsOf s ++ [s.next] := by simp [idsOf, openS]
theorem live_ids (s : Ss) (q : Int) : 0 ≤ findS s.l q ↔ q ∈ idsOf s := by rw [find_iff]; simp [idsOf, List.mem_map]
theorem openE_cases (s : Ss) (sp : Int) : (openE s sp = 0 ∧ openAny s sp = openS s sp ∧ openN s sp = s.next) ∨ ((openE s sp != 0) = true ∧ (openE s sp == 0) = false ∧ openAny s sp = s) := by
  unfold openE openAny openN
  split
  · exact .inr ⟨by decide, by decide, rfl⟩
  · split
    · exact .inr ⟨by decide, by decide, rfl⟩
    · exact .inl ⟨rfl, rfl, rfl⟩
/-- what stands of the sessions of SessNumbers -/
structure Nums (s : Ss) (i : Nat) : Prop where
  made : Made s i
  rise : Rise (idsOf s) s.next
  room : s.room = 5
theorem Nums.next {s : Ss} {i : Nat} (h : Nums s i) : Nums s (i + 1) := ⟨h.made.next, h.rise, h.room⟩
theorem Nums.any {s : Ss} {i : Nat} (h : Nums s i) (sp : Int) : Nums (openAny s sp) (i + 1) := by
  refine ⟨h.made.any sp, ?_, ?_⟩
  · rcases openE_cases s sp with ⟨_, h1, _⟩ | ⟨_, _, h1⟩
    · rw [h1, ids_open]; exact h.rise.more h.made.next0
    · rw [h1]; exact h.rise
  · rcases openE_cases s sp with ⟨_, h1, _⟩ | ⟨_, _, h1⟩ <;> rw [h1] <;> exact h.room
theorem Nums.touch {s : Ss} {i : Nat} (h : Nums s i) (q : Int) : Nums (touchS s q) (i + 1) := by
  have e : (touchS s q).next = s.next ∧ (touchS s q).room = s.room := by unfold touchS; split <;> exact ⟨rfl, rfl⟩
  exact ⟨h.made.touch q, by rw [ids_touch, e.1]; exact h.rise, by rw [e.2]; exact h.room⟩
theorem Nums.close {s : Ss} {i : Nat} (h : Nums s i) (q : Int) : Nums (closeS s q) (i + 1) := by
  have e : (closeS s q).next = s.next ∧ (closeS s q).room = s.room := by unfold closeS; split <;> exact ⟨rfl, rfl⟩
  exact ⟨h.made.close q, by rw [e.1]; exact h.rise.sub (ids_close s q), by rw [e.2]; exact h.room⟩
theorem Nums.tick {s : Ss} {i : Nat} (h : Nums s i) : Nums (tickS s) (i + 1) :=
  ⟨h.made.tick, h.rise.sub (ids_tick s), h.room⟩
theorem Rise.at_ {m : List Int} {next : Int} (h : Rise m next) {k : Nat} (hk : k < m.length) : 1 ≤ m.getD k 0 ∧ m.getD k 0 < next ∧ m.getD k 0 ∈ m ∧ (0 < k → m.getD (k - 1) 0 < m.getD k 0) := by
  have hm : m.getD k 0 = m[k] := by simp [hk]
  have h1 := h.from1 m[k] (List.getElem_mem hk)
  refine ⟨by rw [hm]; exact h1.1, by rw [hm]; exact h1.2, by rw [hm]; exact List.getElem_mem hk, fun h0 => ?_⟩
  have hm1 : m.getD (k - 1) 0 = m[k - 1] := by simp [show k - 1 < m.length by omega]
  rw [hm, hm1]
  exact List.pairwise_iff_getElem.1 h.up (k - 1) k (by omega) hk (by omega)
theorem do_live2 {w0 w : World} {base a : Nat} {s : Ss} {i : Nat} (q : Int) (h : Ours w0 w base a s) (hm : Made s i) :
    Calls Try.prog 14 #[.pointer (some ⟨a, 0, none⟩), .int .i64 q] w fun e w' => e = .returned (.bool (decide (0 ≤ findS s.l q))) ∧ Ours w0 w' base a s ∧ Below w.heap.size w w' := by
  have k3 := hm.len; have k4 := hm.room
  obtain ⟨g, hs, hg⟩ := h.is
  refine (live_any base a g s q w hs (by omega)).mono ?_
  rintro e w' ⟨rfl, hb⟩
  exact ⟨rfl, h.later hb, hb⟩
end Go.Proofs.Ytmlgggcdjknlfaa
