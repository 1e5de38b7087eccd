/-
  A text is laid into texts that the call owns. No condition.
-/
import Derived.Test.YtaoligpckpabfaaSl
import Derived.Deep.MidRow
namespace Go.Proofs.Ytaoligpckpabfaa
open Go.RowKit
theorem ins_at {α : Type} (cs : List α) (s : α) (i j : Nat) (hi : i ≤ cs.length) : (cs.take i ++ s :: cs.drop i)[j]? = if j < i then cs[j]? else if j = i then some s else cs[j - 1]? := by
  by_cases h1 : j < i
  · rw [if_pos h1, List.getElem?_append_left (by rw [List.length_take]; omega), List.getElem?_take, if_pos h1]
  · rw [if_neg h1, List.getElem?_append_right (by rw [List.length_take]; omega), List.length_take, Nat.min_eq_left hi]
    by_cases h2 : j = i
    · subst h2; simp
    · rw [if_neg h2, show j - i = (j - i - 1) + 1 from by omega, List.getElem?_cons_succ, List.getElem?_drop, show i + (j - i - 1) = j - 1 from by omega]
theorem ins_cells (b n i : Nat) (cs : List Value) (s : Value) (W : World) (hi : i ≤ n) (hcl : cs.length = n) (hs : ∀ j, j < n + 1 → (W.cell? ⟨b, j, none⟩).isSome = true) (hc : ∀ j, j < i → W.cell? ⟨b, j, none⟩ = cs[j]?) :
    ∀ j, j < n + 1 → ((W.setCells b (i + 1) (cs.drop i)).setCells b i [s]).cell? ⟨b, j, none⟩ = (cs.take i ++ s :: cs.drop i)[j]? := by
  intro j hj
  rw [ins_at cs s i j (by omega)]
  by_cases h1 : j < i
  · rw [if_pos h1, World.cell?_setCells_out b _ _ _ _ (fun _ _ => Or.inl h1), World.cell?_setCells_out b _ _ _ _ (fun _ _ => Or.inl (by simp; omega))]
    exact hc j h1
  · rw [if_neg h1]
    by_cases h2 : j = i
    · subst h2
      rw [if_pos rfl]
      have h3 := World.cell?_setCells_in b [s] j (W.setCells b (j + 1) (cs.drop j)) (fun q hq => by
        obtain rfl : q = 0 := by simpa using hq
        exact World.isSome_setCells b _ _ _ _ (hs j hj)) 0 (by simp)
      simpa using h3
    · rw [if_neg h2, World.cell?_setCells_out b _ _ _ _ (fun _ _ => Or.inr (by simp; omega))]
      have h3 := World.cell?_setCells_in b (cs.drop i) (i + 1) W (fun q hq => by
        rw [List.length_drop] at hq
        exact hs (i + 1 + q) (by omega)) (j - (i + 1)) (by rw [List.length_drop]; omega)
      rw [show i + 1 + (j - (i + 1)) = j from by omega] at h3
      rw [h3, List.getElem_drop, List.getElem?_eq_getElem (by omega)]
      congr 2
      omega
theorem ins_cells2 (b n i : Nat) (cs : List Value) (s : Value) (W : World) (hi : i ≤ n) (hcl : cs.length = n) (hs : ∀ j, j < n + 1 → (W.cell? ⟨b, j, none⟩).isSome = true) (hc : ∀ j, j < i → W.cell? ⟨b, j, none⟩ = cs[j]?) :
    ∀ j, j < n + 1 → ((W.setCells b i [s]).setCells b (i + 1) (cs.drop i)).cell? ⟨b, j, none⟩ = (cs.take i ++ s :: cs.drop i)[j]? := by
  intro j hj
  rw [ins_at cs s i j (by omega)]
  by_cases h1 : j < i
  · rw [if_pos h1, World.cell?_setCells_out b _ _ _ _ (fun _ _ => Or.inl (by simp; omega)), World.cell?_setCells_out b _ _ _ _ (fun _ _ => Or.inl h1)]
    exact hc j h1
  · rw [if_neg h1]
    by_cases h2 : j = i
    · subst h2
      rw [if_pos rfl, World.cell?_setCells_out b _ _ _ _ (fun _ _ => Or.inl (by simp))]
      have h3 := World.cell?_setCells_in b [s] j W (fun q hq => by
        obtain rfl : q = 0 := by simpa using hq
        exact hs j hj) 0 (by simp)
      simpa using h3
    · rw [if_neg h2]
      have h3 := World.cell?_setCells_in b (cs.drop i) (i + 1) (W.setCells b i [s]) (fun q hq => by
        rw [List.length_drop] at hq
        exact World.isSome_setCells b _ _ _ _ (hs (i + 1 + q) (by omega))) (j - (i + 1)) (by rw [List.length_drop]; omega)
      rw [show i + 1 + (j - (i + 1)) = j from by omega] at h3
      rw [h3, List.getElem_drop, List.getElem?_eq_getElem (by omega)]
      congr 2
      omega
def insS (l : List ByteArray) (i : Nat) (s : ByteArray) : List ByteArray := l.take i ++ s :: l.drop i
theorem insS_len (l : List ByteArray) (i : Nat) (s : ByteArray) (hi : i ≤ l.length) : (insS l i s).length = l.length + 1 := by
  simp [insS]; omega
/-- cells that show texts, as a slice -/
theorem isS_of_cells {w : World} {b n c : Nat} {l : List ByteArray} (hl : l.length = n) (h : ∀ j, j < n → w.cell? ⟨b, j, none⟩ = (l.map sv)[j]?) : IsS w (some ⟨b, 0, none⟩) n c l := by
  refine ⟨hl, (fun e => by cases e), .inr ⟨b, 0, rfl, fun j hj => ?_⟩⟩
  rw [Nat.zero_add, h j hj]
  have : j < l.length := by omega
  simp [this, sv]
theorem sv_ones (l : List ByteArray) : ∀ v ∈ l.map sv, v.oneCell' = true := by
  intro v hv
  obtain ⟨s, _, rfl⟩ := List.mem_map.1 hv
  rfl
theorem insS_map (l : List ByteArray) (i : Nat) (s : ByteArray) : (insS l i s).map sv = (l.map sv).take i ++ sv s :: (l.map sv).drop i := by simp [insS]
end Go.Proofs.Ytaoligpckpabfaa
