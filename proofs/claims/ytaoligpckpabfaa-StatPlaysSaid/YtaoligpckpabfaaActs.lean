/-
  How acts that came in are read; what each does. No condition.
-/
import Derived.Test.YtaoligpckpabfaaMade
import Derived.Test.YtaoligpckpabfaaFrameI
import Derived.Deep.Strs
namespace Go.Proofs.Ytaoligpckpabfaa
open Go.RowKit
theorem lit_sc {z : Int} (h : (Lit.int .i64 z).wf = true) : -9223372036854775808 ≤ z ∧ z ≤ 9223372036854775807 := by
  simp only [Lit.wf, IntKind.min, IntKind.max, IntKind.signed, IntKind.bits, Bool.and_eq_true, decide_eq_true_eq, if_true] at h
  omega
def Ac.ok (x : Ac) : Prop := (-9223372036854775808 ≤ x.op ∧ x.op ≤ 9223372036854775807) ∧ (-9223372036854775808 ≤ x.n ∧ x.n ≤ 9223372036854775807)
/-- a slice of acts that reads as l -/
structure IsActs (w : World) (ao : Option Addr) (n : Nat) (l : List Ac) : Prop where
  len : l.length = n
  at_ : n = 0 ∨ ∃ b off, ao = some ⟨b, off, none⟩ ∧ ∀ i, i < n → w.cell? ⟨b, off + i * 3, none⟩ = some (.int .i64 (l.getD i default).op) ∧ w.cell? ⟨b, off + i * 3 + 1, none⟩ = some (.int .i64 (l.getD i default).n) ∧ w.cell? ⟨b, off + i * 3 + 2, none⟩ = some (.string (l.getD i default).s) ∧ (l.getD i default).ok
theorem IsActs.below {w w' : World} {ao : Option Addr} {n : Nat} {l : List Ac} (h : IsActs w ao n l) (hb : Below w.heap.size w w') : IsActs w' ao n l := by
  refine ⟨h.len, ?_⟩
  rcases h.at_ with h0 | ⟨b, off, h1, h2⟩
  · exact .inl h0
  · exact .inr ⟨b, off, h1, fun i hi => ⟨cell_later hb (h2 i hi).1, cell_later hb (h2 i hi).2.1, cell_later hb (h2 i hi).2.2.1, (h2 i hi).2.2.2⟩⟩

section
variable {H : Type} {enc : TypeId × Value → H}
open Go.ChangeShapes Go.WideShapes Go.ChangeAt

/-- acts that came in -/
theorem open_acts {W : World} {base : Nat} {v : Value} {d : DataW H} {ps : List MemPlace} (hv : Value.okWide Try.prog W .any base 33 v) (h : DataW.Trod enc Try.prog W 0 (fun _ => true) true 33 v d ps)
    (hsz : (DataW.weights Try.prog 33 d).all (· ≤ reachBytes) = true) : ∃ ao n c l, v = .slice ao n c ∧ IsActs W ao n l ∧ n ≤ c := by
  obtain ⟨a, n, c, rfl⟩ := okWide_slice Try.underlying33 hv
  obtain ⟨fuel, hf⟩ := h
  have hE : Try.prog.cellsOf 39 = 3 := by kernel_rfl
  have h3 : Try.prog.cellsOf 3 = 1 := by kernel_rfl
  have h2 : Try.prog.cellsOf 2 = 1 := by kernel_rfl
  have h9 : Try.prog.cellsOf 9 = 1 := by kernel_rfl
  rcases Deep.open_slice Try.underlying33 hf with ⟨hcs, hx⟩ | ⟨ad, n', c', m, k, D, Pl, hcs, _, hle, _, hm, hx, hcell⟩
  · simp [Value.cells] at hcs
    obtain ⟨rfl, rfl, rfl⟩ := hcs
    exact ⟨_, _, _, [], rfl, ⟨rfl, .inl rfl⟩, Nat.le_refl _⟩
  · simp [Value.cells] at hcs
    obtain ⟨rfl, rfl, rfl⟩ := hcs
    obtain rfl : m = c := by simpa using hm
    rw [hE] at hcell
    have hex : ∀ i, i < n → ∃ x : Ac, W.cell? (ad.add (i * 3)) = some (.int .i64 x.op) ∧ W.cell? ((ad.add (i * 3)).add 1) = some (.int .i64 x.n) ∧ W.cell? ((ad.add (i * 3)).add 2) = some (.string x.s) ∧ x.ok := by
      intro i hi
      obtain ⟨cs, hcs1, htr⟩ := hcell i (by omega)
      obtain ⟨_, hlen, hget⟩ := World.cells?_some hcs1
      obtain ⟨x0, x1, x2, rfl⟩ : ∃ x0 x1 x2, cs = [x0, x1, x2] := by
        match cs, hlen with
        | [x0, x1, x2], _ => exact ⟨x0, x1, x2, rfl⟩
      obtain ⟨y0, y1, y2, kk, hD, _, t0, t1, t2⟩ := Deep.trod_struct3 Try.underlying39 htr
      rw [show Try.prog.cellsOf 3 = 1 from h3] at t0
      rw [show Try.prog.cellsOf 2 = 1 from h2] at t1
      rw [show Try.prog.cellsOf 9 = 1 from h9] at t2
      obtain ⟨z0, e0, _, f0⟩ := DataW.trod_int Try.underlying3 t0
      obtain ⟨z1, e1, _, f1⟩ := DataW.trod_int Try.underlying2 t1
      obtain ⟨z2, e2, _, _⟩ := DataW.trod_string Try.underlying9 t2
      refine ⟨⟨z0, z1, z2⟩, ?_, ?_, ?_, lit_sc f0, lit_sc f1⟩
      · have := hget 0 (by omega)
        simp at e0
        simpa [Addr.add, e0] using this
      · rw [hget 1 (by omega)]
        simp at e1
        simp [e1]
      · rw [hget 2 (by omega)]
        simp at e2
        simp [e2]
    obtain ⟨L, hL⟩ := Deep.choose_lt hex
    refine ⟨some ad, n, m, (List.range n).map L, rfl, ⟨by simp, ?_⟩, hle⟩
    by_cases h0 : n = 0
    · exact .inl h0
    · right
      obtain ⟨b, off, spot⟩ := ad
      have hspot : spot = none := by
        obtain ⟨h1, _⟩ := hL 0 (by omega)
        simpa [Addr.add] using World.cell?_spot h1
      subst hspot
      refine ⟨b, off, rfl, fun i hi => ?_⟩
      obtain ⟨g0, g1, g2, g3⟩ := hL i (by simpa using hi)
      simp only [Addr.add_lit] at g0 g1 g2
      have hgd : ((List.range n).map L).getD i default = L i := by simp [List.getD_eq_getElem?_getD, hi]
      rw [hgd]
      exact ⟨g0, g1, g2, g3⟩
end
def aggA (x : Ac) : Value := .agg #[.int .i64 x.op, .int .i64 x.n, .string x.s]
set_option maxHeartbeats 1000000 in
theorem turn_any (A : List Nat) (a : Nat) (s : Nd) (k : Nat) (x : Ac) (w : World) (h : IsNd w A a s) (hm : Made s k) (hk : k ≤ 1000) (hA : ∀ b ∈ A, b < w.heap.size) :
    Calls Try.prog 22 #[.pointer (some ⟨a, 0, none⟩), aggA x] w fun e w' => e = .returned (.tuple #[]) ∧ IsNd w' A a (doA s x) ∧ Only [a] w w' := by
  have hla := h.lt
  have hln := hm.len
  have hb0 : Below w.heap.size w (w.alloc (.cells #[.int .i64 x.op, .int .i64 x.n, .string x.s] 39)) := (Below.refl _ _).alloc (Nat.le_refl _) _
  have h1 := h.below hb0
  have hA1 : ∀ b ∈ A, b < (w.alloc (.cells #[.int .i64 x.op, .int .i64 x.n, .string x.s] 39)).heap.size := fun b hb => by have := hA b hb; simp; omega
  have HW := Lib.hid (write_any A a s x.n x.s _ h1 (hm.wf hk))
  have HAD := Lib.hid (add_any A a s x.s _ h1 (hm.wf hk) hA1 (by omega))
  have HR := Lib.hid (remove_any A a s x.s _ h1 (hm.wf hk) hA1 (by omega))
  have HB := Lib.hid hb0
  clear h h1 hA1 hb0
  unfold doA aggA
  by_cases h0 : x.op = 0
  · have g0 : (x.op == 0) = true := by simpa using h0
    rw [if_pos h0]
    clear h0
    go_enter Try.func22, Try.ntmps22
    go_wp2_with fail
    refine HW.out.mono ?_
    rintro e w1 ⟨rfl, hi, ho⟩
    go_wp2_with fail
    go_end0
    exact ⟨rfl, hi, (Only.ofBelow HB.out _).trans ho⟩
  · have g0 : (x.op == 0) = false := by simpa using h0
    rw [if_neg h0]
    by_cases h1 : x.op = 1
    · have g1 : (x.op == 1) = true := by simpa using h1
      rw [if_pos h1]
      clear h0 h1
      go_enter Try.func22, Try.ntmps22
      go_wp2_with fail
      refine HAD.out.mono ?_
      rintro e w1 ⟨rfl, hi, ho⟩
      go_wp2_with fail
      go_end0
      exact ⟨rfl, hi, (Only.ofBelow HB.out _).trans ho⟩
    · have g1 : (x.op == 1) = false := by simpa using h1
      rw [if_neg h1]
      clear h0 h1
      go_enter Try.func22, Try.ntmps22
      go_wp2_with fail
      refine HR.out.mono ?_
      rintro e w1 ⟨rfl, hi, ho⟩
      go_wp2_with fail
      go_end0
      exact ⟨rfl, hi, (Only.ofBelow HB.out _).trans ho⟩
end Go.Proofs.Ytaoligpckpabfaa
