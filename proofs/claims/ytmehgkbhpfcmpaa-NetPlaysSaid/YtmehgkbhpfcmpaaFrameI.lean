/-
  For whatever program: how slices of numbers that came in are read. No condition.
-/
import Derived.Test.YtmehgkbhpfcmpaaFrameG
import Derived.Test.YtmehgkbhpfcmpaaKitI
namespace Go.Proofs.Ytmehgkbhpfcmpaa
open Go.ChangeShapes Go.WideShapes Go.ChangeAt Go.RowKit

section
variable {H : Type} {enc : TypeId × Value → H} {P : Program}

/-- a slice of numbers that came in, as its cell shows it -/
theorem open_nums_cells {W : World} {t e : TypeId} {fuel : Nat} {cs : List Value} {d : DataW H} {ps : List MemPlace} (ht : P.underlying t = some (.slice e)) (he : P.underlying e = some (.int .i64)) (hc : P.cellsOf e = 1) (hbu : P.bytesOf e = 8)
    (h : DataW.trod enc P W 0 (fun _ => true) true fuel t cs = some (d, ps)) (hsz : (DataW.weights P t d).all (· ≤ reachBytes) = true) :
    ∃ ao n c l, cs = [.slice ao n c] ∧ IsI W ao n c l ∧ n ≤ c ∧ c * 8 ≤ 140737488351232 ∧ ∀ z ∈ l, -9223372036854775808 ≤ z ∧ z ≤ 9223372036854775807 := by
  rcases open_ints ht he hc h with ⟨hcs, hx⟩ | ⟨ad, n, c, zs, hcs, _, hle, _, hz, hx, hcell, hwf⟩
  · exact ⟨none, 0, 0, [], hcs, ⟨rfl, fun _ => ⟨rfl, rfl⟩, .inl rfl⟩, Nat.le_refl _, by omega, fun z hz => by cases hz⟩
  · have hz' : zs.length = c := by simpa using hz
    refine ⟨some ad, n, c, zs.take n, hcs, ⟨by simp; omega, (fun h => by cases h), ?_⟩, hle, ?_, ?_⟩
    · by_cases h0 : n = 0
      · exact .inl h0
      · right
        obtain ⟨b, off, spot⟩ := ad
        have hspot : spot = none := by
          have := hcell 0 (by omega)
          simpa [Addr.add] using World.cell?_spot this
        subst hspot
        refine ⟨b, off, rfl, fun i hi => ?_⟩
        have h1 := hcell i (by omega)
        rw [Addr.add_lit] at h1
        rw [h1]
        have hi' : i < zs.length := by omega
        simp [hi, hi']
    · obtain ⟨rfl, rfl⟩ := Prod.mk.inj hx
      simp only [DataW.weights, ht, List.all_cons, Bool.and_eq_true, hbu, lits, List.length_map, List.length_take, List.length_drop, reachBytes] at hsz
      have := of_decide_eq_true hsz.1
      omega
    · intro z hz
      have := hwf z (List.mem_of_mem_take hz)
      simp [Lit.wf, IntKind.min, IntKind.max, IntKind.signed, IntKind.bits] at this
      omega

/-- a slice of numbers that came in -/
theorem open_nums {W : World} {t e : TypeId} {v : Value} {d : DataW H} {ps : List MemPlace} (ht : P.underlying t = some (.slice e)) (he : P.underlying e = some (.int .i64)) (hc : P.cellsOf e = 1) (hbu : P.bytesOf e = 8)
    (hv : ∃ a n c, v = .slice a n c) (h : DataW.Trod enc P W 0 (fun _ => true) true t v d ps) (hsz : (DataW.weights P t d).all (· ≤ reachBytes) = true) :
    ∃ ao n c l, v = .slice ao n c ∧ IsI W ao n c l ∧ n ≤ c ∧ c * 8 ≤ 140737488351232 ∧ ∀ z ∈ l, -9223372036854775808 ≤ z ∧ z ≤ 9223372036854775807 := by
  obtain ⟨a, n, c, rfl⟩ := hv
  obtain ⟨fuel, hf⟩ := h
  obtain ⟨ao, n', c', l, h1, h2⟩ := open_nums_cells ht he hc hbu hf hsz
  simp [Value.cells] at h1
  obtain ⟨rfl, rfl, rfl⟩ := h1
  exact ⟨_, _, _, _, rfl, h2⟩
end

end Go.Proofs.Ytmehgkbhpfcmpaa
