/-
  How acts that came in are read.
-/
import Derived.Test.YtmlgggcdjknlfaaLivesW
import Derived.Test.YtmlgggcdjknlfaaFrameI
import Derived.Deep.Strs
namespace Go.Proofs.Ytmlgggcdjknlfaa
open Go.RowKit

/-- an act -/
structure Ac where
  op : Int
  id : Int
  span : Int
def Ac.ok (x : Ac) : Prop := (-9223372036854775808 ≤ x.op ∧ x.op ≤ 9223372036854775807) ∧ (-9223372036854775808 ≤ x.id ∧ x.id ≤ 9223372036854775807) ∧ (-9223372036854775808 ≤ x.span ∧ x.span ≤ 9223372036854775807)
instance : Inhabited Ac := ⟨⟨0, 0, 0⟩⟩
/-- a slice of acts that reads as l -/
structure IsActs (w : World) (ao : Option Addr) (n : Nat) (l : List Ac) : Prop where
  len : l.length = n
  at_ : n = 0 ∨ ∃ b off, ao = some ⟨b, off, none⟩ ∧ ∀ i, i < n → w.cell? ⟨b, off + i * 3, none⟩ = some (.int .i64 (l.getD i ⟨0, 0, 0⟩).op) ∧ w.cell? ⟨b, off + i * 3 + 1, none⟩ = some (.int .i64 (l.getD i ⟨0, 0, 0⟩).id) ∧ w.cell? ⟨b, off + i * 3 + 2, none⟩ = some (.int .i64 (l.getD i ⟨0, 0, 0⟩).span) ∧ (l.getD i ⟨0, 0, 0⟩).ok
theorem IsActs.below {w w' : World} {ao : Option Addr} {n : Nat} {l : List Ac} (h : IsActs w ao n l) (hb : Below w.heap.size w w') : IsActs w' ao n l := by
  refine ⟨h.len, ?_⟩
  rcases h.at_ with h0 | ⟨b, off, h1, h2⟩
  · exact .inl h0
  · exact .inr ⟨b, off, h1, fun i hi => ⟨cell_later hb (h2 i hi).1, cell_later hb (h2 i hi).2.1, cell_later hb (h2 i hi).2.2.1, (h2 i hi).2.2.2⟩⟩

section
variable {H : Type} {enc : TypeId × Value → H}
open Go.ChangeShapes Go.WideShapes Go.ChangeAt

/-- acts that came in -/
theorem open_acts {W : World} {base : Nat} {v : Value} {d : DataW H} {ps : List MemPlace} (hv : Value.okWide Try.prog W .any base 34 v) (h : DataW.Trod enc Try.prog W 0 (fun _ => true) true 34 v d ps)
    (hsz : (DataW.weights Try.prog 34 d).all (· ≤ reachBytes) = true) : ∃ ao n c l, v = .slice ao n c ∧ IsActs W ao n l ∧ n ≤ c := by
  obtain ⟨a, n, c, rfl⟩ := okWide_slice Try.underlying34 hv
  obtain ⟨fuel, hf⟩ := h
  have hE : Try.prog.cellsOf 36 = 3 := by kernel_rfl
  have h3 : Try.prog.cellsOf 3 = 1 := by kernel_rfl
  have h2 : Try.prog.cellsOf 2 = 1 := by kernel_rfl
  rcases Deep.open_slice Try.underlying34 hf with ⟨hcs, hx⟩ | ⟨ad, n', c', m, k, D, Pl, hcs, _, hle, _, hm, hx, hcell⟩
  · simp [Value.cells] at hcs
    obtain ⟨rfl, rfl, rfl⟩ := hcs
    exact ⟨_, _, _, [], rfl, ⟨rfl, .inl rfl⟩, Nat.le_refl _⟩
  · simp [Value.cells] at hcs
    obtain ⟨rfl, rfl, rfl⟩ := hcs
    obtain rfl : m = c := by simpa using hm
    rw [hE] at hcell
    have hex : ∀ i, i < n → ∃ x : Ac, W.cell? (ad.add (i * 3)) = some (.int .i64 x.op) ∧ W.cell? ((ad.add (i * 3)).add 1) = some (.int .i64 x.id) ∧ W.cell? ((ad.add (i * 3)).add 2) = some (.int .i64 x.span) ∧ x.ok := by
      intro i hi
      obtain ⟨cs, hcs1, htr⟩ := hcell i (by omega)
      obtain ⟨_, hlen, hget⟩ := World.cells?_some hcs1
      obtain ⟨x0, x1, x2, rfl⟩ : ∃ x0 x1 x2, cs = [x0, x1, x2] := by
        match cs, hlen with
        | [x0, x1, x2], _ => exact ⟨x0, x1, x2, rfl⟩
      obtain ⟨y0, y1, y2, kk, hD, _, t0, t1, t2⟩ := Deep.trod_struct3 Try.underlying36 htr
      rw [show Try.prog.cellsOf 3 = 1 from h3] at t0
      rw [show Try.prog.cellsOf 2 = 1 from h2] at t1 t2
      obtain ⟨z0, e0, _, f0⟩ := DataW.trod_int Try.underlying3 t0
      obtain ⟨z1, e1, _, f1⟩ := DataW.trod_int Try.underlying2 t1
      obtain ⟨z2, e2, _, f2⟩ := DataW.trod_int Try.underlying2 t2
      refine ⟨⟨z0, z1, z2⟩, ?_, ?_, ?_, lit_sc f0, lit_sc f1, lit_sc f2⟩
      · have := hget 0 (by omega)
        simp at e0
        simpa [Addr.add, e0] using this
      · rw [hget 1 (by omega)]
        simp at e1
        simp [e1]
      · rw [hget 2 (by omega)]
        simp at e2
        simp [e2]
    obtain ⟨L, hL⟩ := Deep.choose_lt hex
    refine ⟨some ad, n, m, (List.range n).map L, rfl, ⟨by simp, ?_⟩, hle⟩
    by_cases h0 : n = 0
    · exact .inl h0
    · right
      obtain ⟨b, off, spot⟩ := ad
      have hspot : spot = none := by
        obtain ⟨h1, _⟩ := hL 0 (by omega)
        simpa [Addr.add] using World.cell?_spot h1
      subst hspot
      refine ⟨b, off, rfl, fun i hi => ?_⟩
      obtain ⟨g0, g1, g2, g3⟩ := hL i (by simpa using hi)
      simp only [Addr.add_lit] at g0 g1 g2
      have hgd : ((List.range n).map L).getD i ⟨0, 0, 0⟩ = L i := by simp [List.getD_eq_getElem?_getD, hi]
      rw [hgd]
      exact ⟨g0, g1, g2, g3⟩
end
end Go.Proofs.Ytmlgggcdjknlfaa
