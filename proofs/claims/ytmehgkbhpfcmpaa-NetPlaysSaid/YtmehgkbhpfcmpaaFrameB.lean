/-
  For whatever program: how slices of bytes, and slices of those, that came in are read. No condition.
-/
import Derived.Test.YtmehgkbhpfcmpaaFrameG
import Derived.Test.YtmehgkbhpfcmpaaKit
namespace Go.Proofs.Ytmehgkbhpfcmpaa
open Go.ChangeShapes Go.WideShapes Go.ChangeAt Go.RowKit

section
variable {H : Type} {enc : TypeId × Value → H} {P : Program}

/-- the bytes of numbers -/
def bytesOf (zs : List Int) : List UInt8 := zs.map fun z : Int => UInt8.ofNat z.toNat

/-- a slice of bytes that came in, as its cell shows it -/
theorem open_bytes_cells {W : World} {t e : TypeId} {fuel : Nat} {cs : List Value} {d : DataW H} {ps : List MemPlace} (ht : P.underlying t = some (.slice e)) (he : P.underlying e = some (.int .u8)) (hc : P.cellsOf e = 1) (hbu : P.bytesOf e = 1)
    (h : DataW.trod enc P W 0 (fun _ => true) true fuel t cs = some (d, ps)) (hsz : (DataW.weights P t d).all (· ≤ reachBytes) = true) :
    ∃ ao n c l, cs = [.slice ao n c] ∧ IsB W ao n c l ∧ n ≤ c ∧ c ≤ 140737488351232 := by
  rcases open_ints ht he hc h with ⟨hcs, hx⟩ | ⟨ad, n, c, zs, hcs, _, hle, _, hz, hx, hcell, hwf⟩
  · exact ⟨none, 0, 0, [], hcs, ⟨rfl, fun _ => ⟨rfl, rfl⟩, .inl rfl⟩, Nat.le_refl _, by omega⟩
  · have hz' : zs.length = c := by simpa using hz
    refine ⟨some ad, n, c, bytesOf (zs.take n), hcs, ⟨by simp [bytesOf]; omega, (fun h => by cases h), ?_⟩, hle, ?_⟩
    · by_cases h0 : n = 0
      · exact .inl h0
      · right
        obtain ⟨b, off, spot⟩ := ad
        have hspot : spot = none := by
          have := hcell 0 (by omega)
          simpa [Addr.add] using World.cell?_spot this
        subst hspot
        refine ⟨b, off, rfl, fun i hi => ?_⟩
        have h1 := hcell i (by omega)
        rw [Addr.add_lit] at h1
        rw [h1]
        have hi' : i < zs.length := by omega
        have hw := hwf (zs.getD i 0) (by simp [hi'])
        simp [Lit.wf, IntKind.min, IntKind.max, IntKind.signed, IntKind.bits] at hw
        have h2 : (bytesOf (zs.take n)).getD i 0 = UInt8.ofNat (zs.getD i 0).toNat := by
          simp [bytesOf, hi, hi']
        rw [h2]
        congr 2
        simp [hi'] at hw ⊢
        omega
    · obtain ⟨rfl, rfl⟩ := Prod.mk.inj hx
      simp only [DataW.weights, ht, List.all_cons, Bool.and_eq_true, hbu, lits, List.length_map, List.length_take, List.length_drop, reachBytes] at hsz
      have := of_decide_eq_true hsz.1
      omega

/-- a slice of bytes that came in -/
theorem open_bytes {W : World} {t e : TypeId} {v : Value} {d : DataW H} {ps : List MemPlace} (ht : P.underlying t = some (.slice e)) (he : P.underlying e = some (.int .u8)) (hc : P.cellsOf e = 1) (hbu : P.bytesOf e = 1)
    (hv : ∃ a n c, v = .slice a n c) (h : DataW.Trod enc P W 0 (fun _ => true) true t v d ps) (hsz : (DataW.weights P t d).all (· ≤ reachBytes) = true) :
    ∃ ao n c l, v = .slice ao n c ∧ IsB W ao n c l ∧ n ≤ c ∧ c ≤ 140737488351232 := by
  obtain ⟨a, n, c, rfl⟩ := hv
  obtain ⟨fuel, hf⟩ := h
  obtain ⟨ao, n', c', l, h1, h2⟩ := open_bytes_cells ht he hc hbu hf hsz
  simp [Value.cells] at h1
  obtain ⟨rfl, rfl, rfl⟩ := h1
  exact ⟨_, _, _, _, rfl, h2⟩

/-- a slice of slices of bytes that came in -/
theorem open_bytess {W : World} {t e u : TypeId} {v : Value} {d : DataW H} {ps : List MemPlace} (ht : P.underlying t = some (.slice e)) (he : P.underlying e = some (.slice u)) (hu : P.underlying u = some (.int .u8)) (hce : P.cellsOf e = 1) (hcu : P.cellsOf u = 1)
    (hbe : P.bytesOf e = 24) (hbu : P.bytesOf u = 1) (hv : ∃ a n c, v = .slice a n c) (h : DataW.Trod enc P W 0 (fun _ => true) true t v d ps) (hsz : (DataW.weights P t d).all (· ≤ reachBytes) = true) :
    ∃ ao n c ls, v = .slice ao n c ∧ IsBB W ao n ls ∧ n ≤ c ∧ c * 24 ≤ 140737488351232 := by
  obtain ⟨a, n, c, rfl⟩ := hv
  obtain ⟨fuel, hf⟩ := h
  rcases Deep.open_slice1 ht hce hf with ⟨hcs, hx⟩ | ⟨ad, n', c', m, k, V, D, Pl, hcs, _, hle, _, hm, hx, hcell⟩
  · simp [Value.cells] at hcs
    obtain ⟨rfl, rfl, rfl⟩ := hcs
    exact ⟨_, _, _, [], rfl, ⟨rfl, .inl rfl⟩, Nat.le_refl _, by omega⟩
  · simp [Value.cells] at hcs
    obtain ⟨rfl, rfl, rfl⟩ := hcs
    obtain rfl : m = c := by simpa using hm
    obtain ⟨rfl, rfl⟩ := Prod.mk.inj hx
    simp only [DataW.weights, ht, List.all_cons, List.all_append, Bool.and_eq_true, List.length_map, List.length_range, hbe, reachBytes] at hsz
    obtain ⟨hs1', hs2, hs3⟩ := hsz
    have hs1 := of_decide_eq_true hs1'
    have hw : ∀ i, i < n → (DataW.weights P e (D i)).all (· ≤ reachBytes) = true := by
      intro i hi
      refine List.all_eq_true.2 fun x hx => ?_
      refine List.all_eq_true.1 hs2 x ?_
      have hall : ∀ (l : List (DataW H)) (d : DataW H), d ∈ l → x ∈ DataW.weights P e d → x ∈ DataW.weightsAll P e l := by
        intro l
        induction l with
        | nil => intro d hd; cases hd
        | cons y l ih =>
          intro d hd hxd
          simp only [DataW.weightsAll, List.mem_append]
          rcases List.mem_cons.1 hd with rfl | hd
          · exact .inl hxd
          · exact .inr (ih d hd hxd)
      exact hall _ (D i) (List.mem_map.2 ⟨i, List.mem_range.2 hi, rfl⟩) hx
    have hex : ∀ i, i < n → ∃ l : List UInt8, ∃ a m c, W.cell? (ad.add i) = some (.slice a m c) ∧ IsB W a m c l ∧ m ≤ 140737488351232 := by
      intro i hi
      obtain ⟨h1, h2⟩ := hcell i (by omega)
      obtain ⟨ao, q, c, l, h3, h4, h5, h6⟩ := open_bytes_cells he hu hcu hbu h2 (hw i hi)
      have h3' : V i = .slice ao q c := by simpa using h3
      exact ⟨l, ao, q, c, by rw [h1, h3'], h4, by omega⟩
    obtain ⟨L, hL⟩ := Deep.choose_lt hex
    refine ⟨some ad, n, m, (List.range n).map L, rfl, ⟨by simp, ?_⟩, hle, by omega⟩
    by_cases h0 : n = 0
    · exact .inl h0
    · right
      obtain ⟨b, off, spot⟩ := ad
      have hspot : spot = none := by
        obtain ⟨_, _, _, h1, _⟩ := hL 0 (by omega)
        simpa [Addr.add] using World.cell?_spot h1
      subst hspot
      refine ⟨b, off, rfl, fun i hi => ?_⟩
      obtain ⟨a, q, c, h1, h2, h3⟩ := hL i hi
      rw [Addr.add_lit] at h1
      exact ⟨a, q, c, h1, by simpa [hi] using h2, h3⟩
end

end Go.Proofs.Ytmehgkbhpfcmpaa
