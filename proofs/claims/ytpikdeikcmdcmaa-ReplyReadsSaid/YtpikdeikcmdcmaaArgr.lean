/-
  How results and replies that came in are read.
-/
import Derived.Test.YtpikdeikcmdcmaaFailsW
import Derived.Test.YtpikdeikcmdcmaaFrameG
import Derived.Test.YtpikdeikcmdcmaaFrameS
import Derived.Deep.Strs
namespace Go.Proofs.Ytpikdeikcmdcmaa
open Go.RowKit
/-- a result's numbers are -/
structure IntR (x : Re) : Prop where
  err : In64 x.err
  made : In64 x.made
  changed : In64 x.changed
  version : In64 x.version
  kids : In64 x.kids
  owner : In64 x.owner
  length : In64 x.length
  count : In64 x.count
theorem LightR.good {x : Re} (h : LightR x) (hi : IntR x) : GoodR x :=
  ⟨hi.err, by have := h.path; omega, by have := h.data; omega, by have := h.names; omega, fun s hs => by have := h.each s hs; omega, hi.made, hi.changed, hi.version, hi.kids, hi.owner, hi.length, hi.count⟩
section
variable {H : Type} {enc : TypeId × Value → H}
open Go.ChangeShapes Go.WideShapes Go.ChangeAt
theorem cells_of (t : TypeId) (n : Nat) (h : Try.prog.cellsOf t = n) : Try.prog.cellsOf t = n := h
/-- a result that came in, as its cells show it -/
theorem open_result_cells {W : World} {fuel : Nat} {cs : List Value} {d : DataW H} {ps : List MemPlace} (h : DataW.trod enc Try.prog W 0 (fun _ => true) true fuel 35 cs = some (d, ps)) (hsz : (DataW.weights Try.prog 35 d).all (· ≤ reachBytes) = true) :
    ∃ x v, cs = cellsR x v ∧ NamesAt W v x.names ∧ IntR x := by
  have k2 : Try.prog.cellsOf 2 = 1 := by kernel_rfl
  have k3 : Try.prog.cellsOf 3 = 1 := by kernel_rfl
  have k9 : Try.prog.cellsOf 9 = 1 := by kernel_rfl
  have k23 : Try.prog.cellsOf 23 = 1 := by kernel_rfl
  have k31 : Try.prog.cellsOf 31 = 1 := by kernel_rfl
  have k33 : Try.prog.cellsOf 33 = 7 := by kernel_rfl
  have k35 : Try.prog.cellsOf 35 = 11 := by kernel_rfl
  obtain ⟨xs, n, _, hx, hl, hlen, hf⟩ := DataW.trod_struct Try.underlying35 h
  rw [k35] at hl
  obtain ⟨c0, c1, c2, c3, c4, c5, c6, c7, c8, c9, c10, rfl⟩ : ∃ c0 c1 c2 c3 c4 c5 c6 c7 c8 c9 c10, cs = [c0, c1, c2, c3, c4, c5, c6, c7, c8, c9, c10] := by
    match cs, hl with
    | [c0, c1, c2, c3, c4, c5, c6, c7, c8, c9, c10], _ => exact ⟨c0, c1, c2, c3, c4, c5, c6, c7, c8, c9, c10, rfl⟩
  obtain ⟨y0, y1, y2, y3, y4, rfl⟩ : ∃ y0 y1 y2 y3 y4, xs = [y0, y1, y2, y3, y4] := by
    match xs, hlen with
    | [y0, y1, y2, y3, y4], _ => exact ⟨y0, y1, y2, y3, y4, rfl⟩
  have f0 : DataW.trod enc Try.prog W 0 (fun _ => true) true n 23 [c0] = some y0 := by simpa [k23] using hf 0 _ rfl
  have f1 : DataW.trod enc Try.prog W 0 (fun _ => true) true n 9 [c1] = some y1 := by simpa [k9] using hf 1 _ rfl
  have f2 : DataW.trod enc Try.prog W 0 (fun _ => true) true n 9 [c2] = some y2 := by simpa [k9] using hf 2 _ rfl
  have f3 : DataW.trod enc Try.prog W 0 (fun _ => true) true n 31 [c3] = some y3 := by simpa [k31] using hf 3 _ rfl
  have f4 : DataW.trod enc Try.prog W 0 (fun _ => true) true n 33 [c4, c5, c6, c7, c8, c9, c10] = some y4 := by simpa [k33] using hf 4 _ rfl
  obtain ⟨z0, e0, _, w0⟩ := DataW.trod_int Try.underlying23 f0
  obtain ⟨s1, e1, _, _⟩ := DataW.trod_string Try.underlying9 f1
  obtain ⟨s2, e2, _, _⟩ := DataW.trod_string Try.underlying9 f2
  obtain rfl : d = .agg [y0.1, y1.1, y2.1, y3.1, y4.1] := (Prod.mk.inj hx).1
  have hw : (DataW.weightsEach Try.prog [23, 9, 9, 31, 33] [y0.1, y1.1, y2.1, y3.1, y4.1]).all (· ≤ reachBytes) = true := by
    simp only [DataW.weights, Try.underlying35] at hsz
    exact hsz
  have hw3 := weights_arg hw (j := 3) (t := 31) (d := y3.1) rfl rfl
  obtain ⟨ao, m, c, l, e3, i3, hle, hbound, _⟩ := open_texts_cells Try.underlying31 Try.underlying9 k9 (by kernel_rfl) (d := y3.1) (ps := y3.2) f3 hw3
  obtain ⟨xs2, n2, _, hx2, hl2, hlen2, hg⟩ := DataW.trod_struct Try.underlying33 f4
  obtain ⟨u0, u1, u2, u3, u4, u5, u6, rfl⟩ : ∃ u0 u1 u2 u3 u4 u5 u6, xs2 = [u0, u1, u2, u3, u4, u5, u6] := by
    match xs2, hlen2 with
    | [u0, u1, u2, u3, u4, u5, u6], _ => exact ⟨u0, u1, u2, u3, u4, u5, u6, rfl⟩
  have g0 : DataW.trod enc Try.prog W 0 (fun _ => true) true n2 2 [c4] = some u0 := by simpa [k2] using hg 0 _ rfl
  have g1 : DataW.trod enc Try.prog W 0 (fun _ => true) true n2 2 [c5] = some u1 := by simpa [k2] using hg 1 _ rfl
  have g2 : DataW.trod enc Try.prog W 0 (fun _ => true) true n2 3 [c6] = some u2 := by simpa [k3] using hg 2 _ rfl
  have g3 : DataW.trod enc Try.prog W 0 (fun _ => true) true n2 3 [c7] = some u3 := by simpa [k3] using hg 3 _ rfl
  have g4 : DataW.trod enc Try.prog W 0 (fun _ => true) true n2 2 [c8] = some u4 := by simpa [k2] using hg 4 _ rfl
  have g5 : DataW.trod enc Try.prog W 0 (fun _ => true) true n2 3 [c9] = some u5 := by simpa [k3] using hg 5 _ rfl
  have g6 : DataW.trod enc Try.prog W 0 (fun _ => true) true n2 3 [c10] = some u6 := by simpa [k3] using hg 6 _ rfl
  obtain ⟨a0, r0, _, v0⟩ := DataW.trod_int Try.underlying2 g0
  obtain ⟨a1, r1, _, v1⟩ := DataW.trod_int Try.underlying2 g1
  obtain ⟨a2, r2, _, v2⟩ := DataW.trod_int Try.underlying3 g2
  obtain ⟨a3, r3, _, v3⟩ := DataW.trod_int Try.underlying3 g3
  obtain ⟨a4, r4, _, v4⟩ := DataW.trod_int Try.underlying2 g4
  obtain ⟨a5, r5, _, v5⟩ := DataW.trod_int Try.underlying3 g5
  obtain ⟨a6, r6, _, v6⟩ := DataW.trod_int Try.underlying3 g6
  simp only [List.cons.injEq, and_true] at e0 e1 e2 e3 r0 r1 r2 r3 r4 r5 r6
  subst e0 e1 e2 e3 r0 r1 r2 r3 r4 r5 r6
  exact ⟨⟨z0, s1, s2, l, a0, a1, a2, a3, a4, a5, a6⟩, _, rfl, ⟨ao, m, c, rfl, i3, by omega⟩, lit_i64' w0, lit_i64' v0, lit_i64' v1, lit_i64' v2, lit_i64' v3, lit_i64' v4, lit_i64' v5, lit_i64' v6⟩

/-- a slice of results that came in, as its cell shows it -/
theorem open_results_cells {W : World} {fuel : Nat} {cs : List Value} {d : DataW H} {ps : List MemPlace} (h : DataW.trod enc Try.prog W 0 (fun _ => true) true fuel 24 cs = some (d, ps)) (hsz : (DataW.weights Try.prog 24 d).all (· ≤ reachBytes) = true) :
    ∃ ao n c l, cs = [.slice ao n c] ∧ IsRes W ao n l ∧ n ≤ c ∧ c ≤ 140737488355328 ∧ (ao = none → c = 0) ∧ ∀ x ∈ resL l, IntR x := by
  have k35 : Try.prog.cellsOf 35 = 11 := by kernel_rfl
  rcases Deep.open_slice Try.underlying24 h with ⟨hcs, hx⟩ | ⟨ad, n, c, m, k, D, Pl, hcs, _, hle, hmax, hm, hx, hcell⟩
  · exact ⟨none, 0, 0, [], hcs, ⟨rfl, .inl rfl, fun p hp => by cases hp⟩, Nat.le_refl _, by omega, fun _ => rfl, fun x hx => by cases hx⟩
  · obtain rfl : m = c := by simpa using hm
    rw [k35] at hcell
    obtain rfl : d = _ := (Prod.mk.inj hx).1
    have hwt : ((List.range n).length + ((List.range (m - n)).map fun j => D (n + j)).length) * Try.prog.bytesOf 35 ≤ reachBytes := by
      simp only [DataW.weights, Try.underlying24, List.all_cons, Bool.and_eq_true, List.length_map] at hsz
      simpa using hsz.1
    have hb35 : Try.prog.bytesOf 35 = 120 := by kernel_rfl
    have hmb : m ≤ 140737488355328 := by
      rw [hb35] at hwt
      simp only [List.length_range, List.length_map, reachBytes] at hwt
      omega
    have hwe : ∀ i, i < n → (DataW.weights Try.prog 35 (D i)).all (· ≤ reachBytes) = true := by
      intro i hi
      simp only [DataW.weights, Try.underlying24, List.all_cons, List.all_append, Bool.and_eq_true] at hsz
      exact weights_elem hsz.2.1 (List.mem_map.2 ⟨i, List.mem_range.2 hi, rfl⟩)
    have hex : ∀ i, i < n → ∃ q : Re × Value, (∀ j u, (cellsR q.1 q.2)[j]? = some u → W.cell? ((ad.add (i * 11)).add j) = some u) ∧ NamesAt W q.2 q.1.names ∧ IntR q.1 := by
      intro i hi
      obtain ⟨cs', hcs1, htr⟩ := hcell i (by omega)
      obtain ⟨_, hlen, hget⟩ := World.cells?_some hcs1
      obtain ⟨x, v, rfl, h2, h3⟩ := open_result_cells htr (hwe i hi)
      refine ⟨(x, v), fun j u hj => ?_, h2, h3⟩
      have hj11 : j < 11 := by
        have := (List.getElem?_eq_some_iff.1 hj).1
        simpa [cellsR] using this
      rw [hget j (by omega)]
      exact hj
    obtain ⟨L, hL⟩ := Deep.choose_lt hex
    have hrow : ∀ j u, (rowR ((List.range n).map L))[j]? = some u → ∃ i q, i < n ∧ j = i * 11 + q ∧ (cellsR (L i).1 (L i).2)[q]? = some u := by
      intro j u hj
      have hjl := (List.getElem?_eq_some_iff.1 hj).1
      rw [rowR_len, List.length_map, List.length_range] at hjl
      refine ⟨j / 11, j % 11, by omega, by omega, ?_⟩
      have h1 := rowR_at ((List.range n).map L) (j / 11) (j % 11) (by simp; omega) (by omega)
      rw [show j / 11 * 11 + j % 11 = j from by omega, hj] at h1
      have h2 : ((List.range n).map L).getD (j / 11) default = L (j / 11) := by
        have : j / 11 < n := by omega
        simp [List.getD_eq_getElem?_getD, this]
      rw [h2] at h1
      exact h1.symm
    refine ⟨some ad, n, m, (List.range n).map L, hcs, ⟨by simp, ?_, ?_⟩, hle, hmb, (fun h => by cases h), ?_⟩
    · by_cases h0 : n = 0
      · exact .inl h0
      · right
        obtain ⟨b, off, spot⟩ := ad
        have hspot : spot = none := by
          have := (hL 0 (by omega)).1 0 _ rfl
          simpa [Addr.add] using World.cell?_spot this
        subst hspot
        refine ⟨b, off, rfl, fun j u hj => ?_⟩
        obtain ⟨i, q, hi, rfl, hq⟩ := hrow j u hj
        have := (hL i hi).1 q u hq
        simp only [Addr.add_lit] at this
        rw [← Nat.add_assoc]; exact this
    · intro p hp
      obtain ⟨i, hi, rfl⟩ := List.mem_map.1 hp
      exact (hL i (List.mem_range.1 hi)).2.1
    · intro x hx
      rw [resL, List.map_map] at hx
      obtain ⟨i, hi, rfl⟩ := List.mem_map.1 hx
      exact (hL i (List.mem_range.1 hi)).2.2
/-- results that came in -/
theorem open_results {W : World} {base : Nat} {v : Value} {d : DataW H} {ps : List MemPlace} (hv : Value.okWide Try.prog W .any base 24 v) (h : DataW.Trod enc Try.prog W 0 (fun _ => true) true 24 v d ps)
    (hsz : (DataW.weights Try.prog 24 d).all (· ≤ reachBytes) = true) : ∃ ao n c l, v = .slice ao n c ∧ IsRes W ao n l ∧ n ≤ c ∧ c ≤ 140737488355328 ∧ (ao = none → c = 0) ∧ ∀ x ∈ resL l, IntR x := by
  obtain ⟨a, n, c, rfl⟩ := okWide_slice Try.underlying24 hv
  obtain ⟨fuel, hf⟩ := h
  obtain ⟨ao, n', c', l, h1, h2⟩ := open_results_cells hf hsz
  simp [Value.cells] at h1
  obtain ⟨rfl, rfl, rfl⟩ := h1
  exact ⟨_, _, _, _, rfl, h2⟩
theorem agg_of_cells {v : Value} {n : Nat} (h : v.cells.toList.length = n + 2) : ∃ cs, v = .agg cs := by
  cases v with
  | agg cs => exact ⟨cs, rfl⟩
  | _ => simp [Value.cells] at h
/-- a result that came in -/
theorem open_result {W : World} {base : Nat} {v : Value} {d : DataW H} {ps : List MemPlace} (_ : Value.okWide Try.prog W .any base 35 v) (h : DataW.Trod enc Try.prog W 0 (fun _ => true) true 35 v d ps)
    (hsz : (DataW.weights Try.prog 35 d).all (· ≤ reachBytes) = true) : ∃ x u, v = aggR x u ∧ NamesAt W u x.names ∧ IntR x := by
  obtain ⟨fuel, hf⟩ := h
  obtain ⟨x, u, h1, h2, h3⟩ := open_result_cells hf hsz
  obtain ⟨cs, rfl⟩ := agg_of_cells (v := v) (n := 9) (by rw [h1]; rfl)
  refine ⟨x, u, ?_, h2, h3⟩
  have : cs = (cellsR x u).toArray := by
    have h4 : cs.toList = cellsR x u := h1
    rw [← h4]
  rw [this]; rfl
/-- a reply that came in -/
theorem open_reply {W : World} {base : Nat} {v : Value} {d : DataW H} {ps : List MemPlace} (_ : Value.okWide Try.prog W .any base 26 v) (h : DataW.Trod enc Try.prog W 0 (fun _ => true) true 26 v d ps)
    (hsz : (DataW.weights Try.prog 26 d).all (· ≤ reachBytes) = true) : ∃ a b c e ao n k l, v = aggP a b c e (.slice ao n k) ∧ IsRes W ao n l ∧ n ≤ 140737488355328 ∧ (∀ x ∈ resL l, IntR x) ∧ In64 a ∧ In64 b ∧ In64 c ∧ In64 e := by
  have k2 : Try.prog.cellsOf 2 = 1 := by kernel_rfl
  have k3 : Try.prog.cellsOf 3 = 1 := by kernel_rfl
  have k23 : Try.prog.cellsOf 23 = 1 := by kernel_rfl
  have k24 : Try.prog.cellsOf 24 = 1 := by kernel_rfl
  have k26 : Try.prog.cellsOf 26 = 5 := by kernel_rfl
  obtain ⟨fuel, hfu⟩ := h
  obtain ⟨xs, n, _, hx, hl, hlen, hf⟩ := DataW.trod_struct Try.underlying26 hfu
  rw [k26] at hl
  obtain ⟨cs, rfl⟩ := agg_of_cells (n := 3) hl
  have hl2 : cs.toList.length = 5 := hl
  obtain ⟨c0, c1, c2, c3, c4, hcs⟩ : ∃ c0 c1 c2 c3 c4, cs.toList = [c0, c1, c2, c3, c4] := by
    match hq : cs.toList, hl2 with
    | [c0, c1, c2, c3, c4], _ => exact ⟨c0, c1, c2, c3, c4, rfl⟩
  obtain rfl : cs = #[c0, c1, c2, c3, c4] := by cases cs; simpa using hcs
  obtain ⟨y0, y1, y2, y3, y4, rfl⟩ : ∃ y0 y1 y2 y3 y4, xs = [y0, y1, y2, y3, y4] := by
    match xs, hlen with
    | [y0, y1, y2, y3, y4], _ => exact ⟨y0, y1, y2, y3, y4, rfl⟩
  have f0 : DataW.trod enc Try.prog W 0 (fun _ => true) true n 2 [c0] = some y0 := by simpa [Value.cells, k2] using hf 0 _ rfl
  have f1 : DataW.trod enc Try.prog W 0 (fun _ => true) true n 2 [c1] = some y1 := by simpa [Value.cells, k2] using hf 1 _ rfl
  have f2 : DataW.trod enc Try.prog W 0 (fun _ => true) true n 23 [c2] = some y2 := by simpa [Value.cells, k23] using hf 2 _ rfl
  have f3 : DataW.trod enc Try.prog W 0 (fun _ => true) true n 3 [c3] = some y3 := by simpa [Value.cells, k3] using hf 3 _ rfl
  have f4 : DataW.trod enc Try.prog W 0 (fun _ => true) true n 24 [c4] = some y4 := by simpa [Value.cells, k24] using hf 4 _ rfl
  obtain ⟨a0, r0, _, v0⟩ := DataW.trod_int Try.underlying2 f0
  obtain ⟨a1, r1, _, v1⟩ := DataW.trod_int Try.underlying2 f1
  obtain ⟨a2, r2, _, v2⟩ := DataW.trod_int Try.underlying23 f2
  obtain ⟨a3, r3, _, v3⟩ := DataW.trod_int Try.underlying3 f3
  obtain rfl : d = .agg [y0.1, y1.1, y2.1, y3.1, y4.1] := (Prod.mk.inj hx).1
  have hw : (DataW.weightsEach Try.prog [2, 2, 23, 3, 24] [y0.1, y1.1, y2.1, y3.1, y4.1]).all (· ≤ reachBytes) = true := by
    simp only [DataW.weights, Try.underlying26] at hsz
    exact hsz
  have hw4 := weights_arg hw (j := 4) (t := 24) (d := y4.1) rfl rfl
  obtain ⟨ao, m, c, l, r4, hi, hle, hc, _, hint⟩ := open_results_cells (d := y4.1) (ps := y4.2) f4 hw4
  simp only [List.cons.injEq, and_true] at r0 r1 r2 r3 r4
  subst r0 r1 r2 r3 r4
  exact ⟨a0, a1, a2, a3, ao, m, c, l, rfl, hi, by omega, hint, lit_i64' v0, lit_i64' v1, lit_i64' v2, lit_i64' v3⟩
end
end Go.Proofs.Ytpikdeikcmdcmaa
