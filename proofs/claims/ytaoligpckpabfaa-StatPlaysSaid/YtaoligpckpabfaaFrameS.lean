/-
  For whatever program: how slices of texts that came in are read. No condition.
-/
import Derived.Test.YtaoligpckpabfaaFrameG
import Derived.Test.YtaoligpckpabfaaKitS
import Derived.SliceStrings
namespace Go.Proofs.Ytaoligpckpabfaa
open Go.ChangeShapes Go.WideShapes Go.ChangeAt Go.RowKit

section
variable {H : Type} {enc : TypeId × Value → H} {P : Program}

/-- a slice of texts that came in, as its cell shows it -/
theorem open_texts_cells {W : World} {t e : TypeId} {fuel : Nat} {cs : List Value} {d : DataW H} {ps : List MemPlace} (ht : P.underlying t = some (.slice e)) (he : P.underlying e = some .string) (hc : P.cellsOf e = 1) (hbu : P.bytesOf e = 16)
    (h : DataW.trod enc P W 0 (fun _ => true) true fuel t cs = some (d, ps)) (hsz : (DataW.weights P t d).all (· ≤ reachBytes) = true) :
    ∃ ao n c l, cs = [.slice ao n c] ∧ IsS W ao n c l ∧ n ≤ c ∧ c * 16 ≤ 140737488351232 ∧ ∀ s ∈ l, s.size ≤ 140737488351232 := by
  rcases open_strings ht he hc h with ⟨hcs, hx⟩ | ⟨ad, n, c, zs, hcs, _, hle, _, hz, hx, hcell, hwf⟩
  · exact ⟨none, 0, 0, [], hcs, ⟨rfl, fun _ => ⟨rfl, rfl⟩, .inl rfl⟩, Nat.le_refl _, by omega, fun z hz => by cases hz⟩
  · have hz' : zs.length = c := by simpa using hz
    refine ⟨some ad, n, c, zs.take n, hcs, ⟨by simp; omega, (fun h => by cases h), ?_⟩, hle, ?_, ?_⟩
    · by_cases h0 : n = 0
      · exact .inl h0
      · right
        obtain ⟨b, off, spot⟩ := ad
        have hspot : spot = none := by
          have := hcell 0 (by omega)
          simpa [Addr.add] using World.cell?_spot this
        subst hspot
        refine ⟨b, off, rfl, fun i hi => ?_⟩
        have h1 := hcell i (by omega)
        rw [Addr.add_lit] at h1
        rw [h1]
        have hi' : i < zs.length := by omega
        simp [hi, hi']
    · obtain ⟨rfl, rfl⟩ := Prod.mk.inj hx
      simp only [DataW.weights, ht, List.all_cons, Bool.and_eq_true, hbu, strs, List.length_map, List.length_take, List.length_drop, reachBytes] at hsz
      have := of_decide_eq_true hsz.1
      omega
    · intro z hz
      obtain ⟨rfl, rfl⟩ := Prod.mk.inj hx
      have hz2 : z ∈ zs.take n := hz
      simp only [DataW.weights, ht, List.all_cons, List.all_append, Bool.and_eq_true] at hsz
      have h3 : (DataW.weightsAll P e (strs (zs.take n) : List (DataW H))).all (· ≤ reachBytes) = true := hsz.2.1
      have h4 := weights_elem h3 (d := .lit (.string z.data.toList)) (List.mem_map.2 ⟨z, hz2, rfl⟩)
      simp [DataW.weights, reachBytes] at h4
      exact of_decide_eq_true h4

/-- a slice of texts that came in -/
theorem open_texts {W : World} {t e : TypeId} {v : Value} {d : DataW H} {ps : List MemPlace} (ht : P.underlying t = some (.slice e)) (he : P.underlying e = some .string) (hc : P.cellsOf e = 1) (hbu : P.bytesOf e = 16)
    (hv : ∃ a n c, v = .slice a n c) (h : DataW.Trod enc P W 0 (fun _ => true) true t v d ps) (hsz : (DataW.weights P t d).all (· ≤ reachBytes) = true) :
    ∃ ao n c l, v = .slice ao n c ∧ IsS W ao n c l ∧ n ≤ c ∧ c * 16 ≤ 140737488351232 ∧ ∀ s ∈ l, s.size ≤ 140737488351232 := by
  obtain ⟨a, n, c, rfl⟩ := hv
  obtain ⟨fuel, hf⟩ := h
  obtain ⟨ao, n', c', l, h1, h2⟩ := open_texts_cells ht he hc hbu hf hsz
  simp [Value.cells] at h1
  obtain ⟨rfl, rfl, rfl⟩ := h1
  exact ⟨_, _, _, _, rfl, h2⟩
end

end Go.Proofs.Ytaoligpckpabfaa
