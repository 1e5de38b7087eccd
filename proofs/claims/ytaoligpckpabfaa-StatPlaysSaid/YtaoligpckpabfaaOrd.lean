/-
  The plain law of names that rise. No program here.
-/
import Derived.Test.YtaoligpckpabfaaNd2
namespace Go.Proofs.Ytaoligpckpabfaa
open Go.RowKit
def ltB (a b : ByteArray) : Bool := Op.bytesLess a.toList b.toList
def leB (a b : ByteArray) : Bool := Op.bytesLess a.toList b.toList || a.toList == b.toList
theorem toList_inj {x y : ByteArray} (h : x.toList = y.toList) : x = y := by
  rw [ByteArray.toList_eq, ByteArray.toList_eq] at h
  cases x; cases y
  simp at h
  rw [h]
theorem less_dec (x y : List UInt8) : Op.bytesLess x y = decide (x < y) := by
  induction x generalizing y with
  | nil => cases y <;> simp [Op.bytesLess]
  | cons a x ih =>
    cases y with
    | nil => simp [Op.bytesLess]
    | cons b y =>
      rw [Op.bytesLess, ih y]
      rw [Bool.eq_iff_iff]
      simp only [List.cons_lt_cons_iff, Bool.or_eq_true, Bool.and_eq_true, decide_eq_true_eq]
      by_cases h1 : a < b
      · simp [h1]
      · by_cases h2 : a = b <;> simp [h1, h2]
theorem ltB_iff (a b : ByteArray) : ltB a b = true ↔ a.toList < b.toList := by
  unfold ltB; rw [less_dec]; simp
theorem ltB_irrefl (a : ByteArray) : ltB a a = false := by
  rw [Bool.eq_false_iff]; intro h; rw [ltB_iff] at h; exact List.lt_irrefl _ h
theorem ltB_trans {a b c : ByteArray} (h : ltB a b = true) (k : ltB b c = true) : ltB a c = true := by
  rw [ltB_iff] at *; exact List.lt_trans h k
theorem ltB_total {a b : ByteArray} (h : ltB a b = false) (hne : b ≠ a) : ltB b a = true := by
  rw [Bool.eq_false_iff, ne_eq, ltB_iff] at h
  rw [ltB_iff]
  rcases List.le_total b.toList a.toList with h1 | h1
  · rcases Decidable.em (b.toList < a.toList) with h2 | h2
    · exact h2
    · exact absurd (toList_inj (List.le_antisymm h1 h2)) hne
  · exact absurd (toList_inj (List.le_antisymm h h1)) hne
theorem leB_eq (a b : ByteArray) : leB a b = !ltB b a := by
  unfold leB
  by_cases h1 : ltB b a = true
  · rw [h1]
    have h2 : ltB a b = false := by
      rw [Bool.eq_false_iff]; intro h; have := ltB_trans h h1; rw [ltB_irrefl] at this; cases this
    have h3 : (a.toList == b.toList) = false := by
      rw [Bool.eq_false_iff]; intro h
      have := toList_inj (eq_of_beq h)
      subst this
      rw [ltB_irrefl] at h1; cases h1
    rw [show Op.bytesLess a.toList b.toList = false from h2, h3]; rfl
  · have h1' : ltB b a = false := by simpa using h1
    rw [h1']
    by_cases h2 : a = b
    · subst h2; simp
    · have h3 := ltB_total h1' h2
      rw [show Op.bytesLess a.toList b.toList = true from h3]; rfl
/-- names that rise -/
def Ris (l : List ByteArray) : Prop := l.Pairwise fun a b => ltB a b = true
def risS (l : List ByteArray) : Bool := decide (∀ i, i < l.length - 1 → leB (l.getD (i + 1) ByteArray.empty) (l.getD i ByteArray.empty) = false)
theorem ris_step {l : List ByteArray} (h : ∀ i, i < l.length - 1 → leB (l.getD (i + 1) ByteArray.empty) (l.getD i ByteArray.empty) = false) (i k : Nat) (hk : i + 1 + k < l.length) : ltB (l.getD i ByteArray.empty) (l.getD (i + 1 + k) ByteArray.empty) = true := by
  induction k with
  | zero =>
    have := h i (by omega)
    rw [leB_eq] at this
    simpa using this
  | succ k ih =>
    have h1 := ih (by omega)
    have h2 := h (i + 1 + k) (by omega)
    rw [leB_eq] at h2
    have h3 : ltB (l.getD (i + 1 + k) ByteArray.empty) (l.getD (i + 1 + (k + 1)) ByteArray.empty) = true := by simpa [Nat.add_assoc] using h2
    exact ltB_trans h1 h3
theorem risS_iff (l : List ByteArray) : risS l = true ↔ Ris l := by
  unfold risS Ris
  rw [decide_eq_true_iff, List.pairwise_iff_getElem]
  constructor
  · intro h i j hi hj hij
    have := ris_step h i (j - (i + 1)) (by omega)
    rw [show i + 1 + (j - (i + 1)) = j from by omega] at this
    simpa [hi, hj] using this
  · intro h i hi
    have := h i (i + 1) (by omega) (by omega) (by omega)
    rw [leB_eq]
    simp [show i < l.length by omega, show i + 1 < l.length by omega, this]
theorem bsGo_in (f g : Nat → Bool) (n : Nat) (h : ∀ t, t < n → f t = g t) : ∀ (q lo hi : Nat), hi ≤ n → Lib.bsGo f q lo hi = Lib.bsGo g q lo hi := by
  intro q
  induction q with
  | zero => intro lo hi _; rfl
  | succ q ih =>
    intro lo hi hn
    unfold Lib.bsGo
    by_cases hlt : lo < hi
    · rw [if_pos hlt, if_pos hlt, h _ (by omega), ih _ _ hn, ih _ ((lo + hi) / 2) (by omega)]
    · rw [if_neg hlt, if_neg hlt]
/-- where a name stands, or would -/
def placeS (l : List ByteArray) (x : ByteArray) : Nat := l.findIdx fun y => !ltB y x
theorem placeS_le (l : List ByteArray) (x : ByteArray) : placeS l x ≤ l.length := List.findIdx_le_length
theorem place_low (l : List ByteArray) (x : ByteArray) (t : Nat) (h : t < placeS l x) : ltB (l.getD t ByteArray.empty) x = true := by
  have h1 := List.not_of_lt_findIdx h
  have h2 := placeS_le l x
  simpa [show t < l.length by omega] using h1
theorem place_at (l : List ByteArray) (x : ByteArray) (h : placeS l x < l.length) : ltB (l.getD (placeS l x) ByteArray.empty) x = false := by
  have h1 := List.findIdx_getElem (p := fun y => !ltB y x) (xs := l) (w := h)
  simp only [Bool.not_eq_true'] at h1
  simp only [List.getD_eq_getElem?_getD, List.getElem?_eq_getElem h, Option.getD_some]
  exact h1
theorem place_high {l : List ByteArray} (hr : Ris l) (x : ByteArray) (t : Nat) (h : placeS l x ≤ t) (ht : t < l.length) : ltB (l.getD t ByteArray.empty) x = false := by
  have h1 := place_at l x (by omega)
  by_cases he : placeS l x = t
  · rw [← he]; exact h1
  · have h2 := (List.pairwise_iff_getElem.1 hr) (placeS l x) t (by omega) ht (by omega)
    rw [Bool.eq_false_iff]
    intro h3
    have h4 : ltB l[placeS l x] x = true := ltB_trans h2 (by simpa [ht] using h3)
    have h5 : ltB l[placeS l x] x = false := by simpa [show placeS l x < l.length by omega] using h1
    rw [h4] at h5; cases h5
theorem seekS_eq {l : List ByteArray} (hr : Ris l) (x : ByteArray) : seekS l x = placeS l x := by
  unfold seekS
  rw [bsGo_in _ (fun t => decide (t < l.length) && ltB (l.getD t ByteArray.empty) x) l.length (fun t ht => by simp [ht, ltB]) _ _ _ (Nat.le_refl _)]
  refine Lib.bsGo_spec _ (placeS l x) (fun t ht => ?_) (fun t ht => ?_) _ _ _ (by omega) (Nat.zero_le _) (placeS_le l x)
  · rw [place_low l x t ht]; have := placeS_le l x; simp; omega
  · by_cases h : t < l.length
    · rw [place_high hr x t ht h]; simp
    · simp [h]
theorem hereS_iff {l : List ByteArray} (hr : Ris l) (x : ByteArray) : hereS l x = true ↔ x ∈ l := by
  unfold hereS
  rw [decide_eq_true_iff, seekS_eq hr]
  constructor
  · rintro ⟨h1, h2⟩
    rw [← h2]; simp [h1]
  · intro h
    obtain ⟨t, ht, rfl⟩ := List.getElem_of_mem h
    have h1 : placeS l l[t] ≤ t := by
      rcases Nat.lt_or_ge t (placeS l l[t]) with h2 | h2
      · have := place_low l l[t] t h2
        simp [ht] at this
        rw [ltB_irrefl] at this; cases this
      · exact h2
    refine ⟨by omega, ?_⟩
    by_cases he : placeS l l[t] = t
    · rw [he]; simp [ht]
    · have h2 := (List.pairwise_iff_getElem.1 hr) (placeS l l[t]) t (by omega) ht (by omega)
      have h3 := place_at l l[t] (by omega)
      simp only [List.getD_eq_getElem?_getD, List.getElem?_eq_getElem (show placeS l l[t] < l.length by omega), Option.getD_some] at h3
      rw [h2] at h3; cases h3
theorem insS_ris {l : List ByteArray} (hr : Ris l) {x : ByteArray} (hx : x ∉ l) : Ris (insS l (seekS l x) x) := by
  rw [seekS_eq hr]
  unfold insS Ris
  rw [List.pairwise_append]
  have h1 : ∀ a ∈ l.take (placeS l x), ltB a x = true := by
    intro a ha
    obtain ⟨t, ht, rfl⟩ := List.getElem_of_mem ha
    rw [List.length_take] at ht
    have := place_low l x t (by omega)
    rw [List.getElem_take]
    simpa [show t < l.length by omega] using this
  have h2 : ∀ b ∈ l.drop (placeS l x), ltB x b = true := by
    intro b hb
    have hm := List.mem_of_mem_drop hb
    obtain ⟨t, ht, rfl⟩ := List.getElem_of_mem hb
    rw [List.length_drop] at ht
    have h3 := place_high hr x (placeS l x + t) (by omega) (by omega)
    rw [List.getElem_drop] at hm ⊢
    refine ltB_total (by simpa [show placeS l x + t < l.length by omega] using h3) (fun e => hx (e ▸ hm))
  refine ⟨hr.sublist (List.take_sublist _ _), List.pairwise_cons.2 ⟨h2, hr.sublist (List.drop_sublist _ _)⟩, ?_⟩
  intro a ha b hb
  rcases List.mem_cons.1 hb with rfl | hb
  · exact h1 a ha
  · exact ltB_trans (h1 a ha) (h2 b hb)
theorem outS_ris {l : List ByteArray} (hr : Ris l) (i : Nat) : Ris (outS l i) := by
  have : (outS l i).Sublist l := by
    unfold outS
    have h := (List.Sublist.refl (l.take i)).append (List.drop_sublist 1 (l.drop i))
    rwa [List.take_append_drop, List.drop_drop] at h
  exact hr.sublist this
theorem ris_nil : Ris [] := List.Pairwise.nil
theorem insS_mem (l : List ByteArray) (i : Nat) (x y : ByteArray) : y ∈ insS l i x ↔ y = x ∨ y ∈ l := by
  unfold insS
  rw [List.mem_append, List.mem_cons]
  constructor
  · rintro (h | h | h)
    · exact .inr (List.mem_of_mem_take h)
    · exact .inl h
    · exact .inr (List.mem_of_mem_drop h)
  · rintro (h | h)
    · exact .inr (.inl h)
    · rw [← List.take_append_drop i l, List.mem_append] at h
      rcases h with h | h
      · exact .inl h
      · exact .inr (.inr h)
/-- what a node made by calls is like -/
theorem addZ_ris {s : Nd} (h : Ris s.names) (x : ByteArray) : Ris (addZ s x).names := by
  unfold addZ
  by_cases hh : hereS s.names x = true
  · rw [if_pos hh]; exact h
  · rw [if_neg hh]; exact insS_ris h (fun hm => hh ((hereS_iff h x).2 hm))
theorem removeZ_ris {s : Nd} (h : Ris s.names) (x : ByteArray) : Ris (removeZ s x).names := by
  unfold removeZ
  split
  · exact outS_ris h _
  · exact h
theorem addZ_len (s : Nd) (x : ByteArray) : (addZ s x).names.length ≤ s.names.length + 1 := by
  unfold addZ
  split
  · omega
  · have := insS_len s.names (seekS s.names x) x (seekS_le _ _); simp only; omega
theorem removeZ_len (s : Nd) (x : ByteArray) : (removeZ s x).names.length ≤ s.names.length := by
  unfold removeZ
  split
  · simp only [outS, List.length_append, List.length_take, List.length_drop]; omega
  · omega
end Go.Proofs.Ytaoligpckpabfaa
