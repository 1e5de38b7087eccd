/-
  How acts that came in are read. No condition.
-/
import Derived.Test.YtmehgkbhpfcmpaaGS
import Derived.Test.YtmehgkbhpfcmpaaFrameI
import Derived.Test.YtmehgkbhpfcmpaaFrameB
import Derived.Deep.Strs
namespace Go.Proofs.Ytmehgkbhpfcmpaa.G
open Go.RowKit Go.Proofs.Ytmehgkbhpfcmpaa
structure Ax where
  op : Int
  k : Int
  a : Int
  b : Int
  lost : Bool
  l : List Mg
def ax0 : Ax := ⟨0, 0, 0, 0, false, []⟩
instance : Inhabited Ax := ⟨ax0⟩
instance : Inhabited Mg := ⟨m0⟩
/-- a slice of messages that reads as l -/
structure IsMs (w : World) (ao : Option Addr) (n : Nat) (l : List Mg) : Prop where
  len : l.length = n
  at_ : n = 0 ∨ ∃ b off, ao = some ⟨b, off, none⟩ ∧ ∀ i, i < n → ∃ v u, w.cell? ⟨b, off + i * 5, none⟩ = some (.int .i64 (l.getD i m0).from_) ∧ w.cell? ⟨b, off + i * 5 + 1, none⟩ = some (.int .i64 (l.getD i m0).to_) ∧ w.cell? ⟨b, off + i * 5 + 2, none⟩ = some (.int .i64 (l.getD i m0).kind) ∧ w.cell? ⟨b, off + i * 5 + 3, none⟩ = some v ∧ w.cell? ⟨b, off + i * 5 + 4, none⟩ = some u ∧ IsM w (l.getD i m0) v u
theorem IsMs.below {w w' : World} {ao : Option Addr} {n : Nat} {l : List Mg} (h : IsMs w ao n l) (hb : Below w.heap.size w w') : IsMs w' ao n l := by
  refine ⟨h.len, ?_⟩
  rcases h.at_ with h0 | ⟨b, off, h1, h2⟩
  · exact .inl h0
  · refine .inr ⟨b, off, h1, fun i hi => ?_⟩
    obtain ⟨v, u, e0, e1, e2, e3, e4, e5⟩ := h2 i hi
    exact ⟨v, u, cell_later hb e0, cell_later hb e1, cell_later hb e2, cell_later hb e3, cell_later hb e4, e5.below hb⟩
/-- a slice of acts that reads as l -/
structure IsAx (w : World) (ao : Option Addr) (n : Nat) (l : List Ax) : Prop where
  len : l.length = n
  at_ : n = 0 ∨ ∃ b off, ao = some ⟨b, off, none⟩ ∧ ∀ i, i < n → ∃ lo ln lc, w.cell? ⟨b, off + i * 6, none⟩ = some (.int .i64 (l.getD i ax0).op) ∧ w.cell? ⟨b, off + i * 6 + 1, none⟩ = some (.int .i64 (l.getD i ax0).k) ∧ w.cell? ⟨b, off + i * 6 + 2, none⟩ = some (.int .i64 (l.getD i ax0).a) ∧ w.cell? ⟨b, off + i * 6 + 3, none⟩ = some (.int .i64 (l.getD i ax0).b) ∧ w.cell? ⟨b, off + i * 6 + 4, none⟩ = some (.bool (l.getD i ax0).lost) ∧ w.cell? ⟨b, off + i * 6 + 5, none⟩ = some (.slice lo ln lc) ∧ ln ≤ lc ∧ IsMs w lo ln (l.getD i ax0).l
theorem IsAx.below {w w' : World} {ao : Option Addr} {n : Nat} {l : List Ax} (h : IsAx w ao n l) (hb : Below w.heap.size w w') : IsAx w' ao n l := by
  refine ⟨h.len, ?_⟩
  rcases h.at_ with h0 | ⟨b, off, h1, h2⟩
  · exact .inl h0
  · refine .inr ⟨b, off, h1, fun i hi => ?_⟩
    obtain ⟨lo, ln, lc, e0, e1, e2, e3, e4, e5, e6, e7⟩ := h2 i hi
    exact ⟨lo, ln, lc, cell_later hb e0, cell_later hb e1, cell_later hb e2, cell_later hb e3, cell_later hb e4, cell_later hb e5, e6, e7.below hb⟩
section
variable {H : Type} {enc : TypeId × Value → H}
open Go.ChangeShapes Go.WideShapes Go.ChangeAt
theorem open_msg {W : World} {fuel : Nat} {cs : List Value} {d : DataW H} {ps : List MemPlace} (hl : cs.length = 5) (h : DataW.trod enc Try.prog W 0 (fun _ => true) true fuel 32 cs = some (d, ps))
    (hsz : (DataW.weights Try.prog 32 d).all (· ≤ reachBytes) = true) : ∃ m v u, cs = [.int .i64 m.from_, .int .i64 m.to_, .int .i64 m.kind, v, u] ∧ IsM W m v u := by
  have k3 : Try.prog.cellsOf 3 = 1 := by kernel_rfl
  have k29 : Try.prog.cellsOf 29 = 1 := by kernel_rfl
  have k30 : Try.prog.cellsOf 30 = 1 := by kernel_rfl
  obtain ⟨xs, n, _, hx, _, hlen, hf⟩ := DataW.trod_struct Try.underlying32 h
  obtain ⟨c0, c1, c2, c3, c4, rfl⟩ : ∃ c0 c1 c2 c3 c4, cs = [c0, c1, c2, c3, c4] := by
    match cs, hl with
    | [c0, c1, c2, c3, c4], _ => exact ⟨c0, c1, c2, c3, c4, rfl⟩
  obtain ⟨y0, y1, y2, y3, y4, rfl⟩ : ∃ y0 y1 y2 y3 y4, xs = [y0, y1, y2, y3, y4] := by
    match xs, hlen with
    | [y0, y1, y2, y3, y4], _ => exact ⟨y0, y1, y2, y3, y4, rfl⟩
  have f0 : DataW.trod enc Try.prog W 0 (fun _ => true) true n 3 [c0] = some y0 := by simpa [k3] using hf 0 _ rfl
  have f1 : DataW.trod enc Try.prog W 0 (fun _ => true) true n 3 [c1] = some y1 := by simpa [k3] using hf 1 _ rfl
  have f2 : DataW.trod enc Try.prog W 0 (fun _ => true) true n 3 [c2] = some y2 := by simpa [k3] using hf 2 _ rfl
  have f3 : DataW.trod enc Try.prog W 0 (fun _ => true) true n 29 [c3] = some y3 := by simpa [k29] using hf 3 _ rfl
  have f4 : DataW.trod enc Try.prog W 0 (fun _ => true) true n 30 [c4] = some y4 := by simpa [k30] using hf 4 _ rfl
  obtain rfl : d = .agg [y0.1, y1.1, y2.1, y3.1, y4.1] := (Prod.mk.inj hx).1
  have hw : (DataW.weightsEach Try.prog [3, 3, 3, 29, 30] [y0.1, y1.1, y2.1, y3.1, y4.1]).all (· ≤ reachBytes) = true := by
    simp only [DataW.weights, Try.underlying32] at hsz
    exact hsz
  have hw3 := weights_arg hw (j := 3) (t := 29) (d := y3.1) rfl rfl
  have hw4 := weights_arg hw (j := 4) (t := 30) (d := y4.1) rfl rfl
  obtain ⟨z0, e0, _, _⟩ := DataW.trod_int Try.underlying3 f0
  obtain ⟨z1, e1, _, _⟩ := DataW.trod_int Try.underlying3 f1
  obtain ⟨z2, e2, _, _⟩ := DataW.trod_int Try.underlying3 f2
  obtain ⟨ao, q, c, l, e3, i3, _, _, _⟩ := open_nums_cells Try.underlying29 Try.underlying2 (by kernel_rfl) (by kernel_rfl) f3 hw3
  have hv4 : ∃ a n c, c4 = .slice a n c := by
    rcases Deep.open_slice Try.underlying30 f4 with ⟨hcs, _⟩ | ⟨ad, n', c', m, k, D, Pl, hcs, _⟩
    · exact ⟨none, 0, 0, by simpa using hcs⟩
    · exact ⟨_, _, _, by simpa using hcs⟩
  have f4' : DataW.Trod enc Try.prog W 0 (fun _ => true) true 30 c4 y4.1 y4.2 := by
    obtain ⟨a, n1, c1, rfl⟩ := hv4
    exact ⟨n, by simpa [Value.cells] using f4⟩
  obtain ⟨bo, q2, d2, ls, e4, i4, _, _⟩ := open_bytess Try.underlying30 Try.underlying65 Try.underlying5 (by kernel_rfl) (by kernel_rfl) (by kernel_rfl) (by kernel_rfl) hv4 f4' hw4
  simp only [List.cons.injEq, and_true] at e0 e1 e2 e3
  subst e0 e1 e2 e3 e4
  have hq := i3.len; have hq2 := i4.len
  subst hq hq2
  exact ⟨⟨z0, z1, z2, l, ls⟩, _, _, rfl, ⟨_, _, rfl, i3⟩, ⟨_, _, rfl, i4⟩⟩
theorem open_msgs {W : World} {fuel : Nat} {cs : List Value} {d : DataW H} {ps : List MemPlace} (hf : DataW.trod enc Try.prog W 0 (fun _ => true) true fuel 45 cs = some (d, ps))
    (hsz : (DataW.weights Try.prog 45 d).all (· ≤ reachBytes) = true) : ∃ ao n c l, cs = [.slice ao n c] ∧ IsMs W ao n l ∧ n ≤ c := by
  have hE : Try.prog.cellsOf 32 = 5 := by kernel_rfl
  rcases Deep.open_slice Try.underlying45 hf with ⟨hcs, hx⟩ | ⟨ad, n, c', m, k, D, Pl, hcs, _, hle, _, hm, hx, hcell⟩
  · exact ⟨_, _, _, [], hcs, ⟨rfl, .inl rfl⟩, Nat.le_refl _⟩
  · subst hcs
    obtain rfl : m = c' := by simpa using hm
    rw [hE] at hcell
    obtain ⟨rfl, rfl⟩ := Prod.mk.inj hx
    simp only [DataW.weights, Try.underlying45, List.all_cons, List.all_append, Bool.and_eq_true] at hsz
    obtain ⟨_, hs2, _⟩ := hsz
    have hw : ∀ i, i < n → (DataW.weights Try.prog 32 (D i)).all (· ≤ reachBytes) = true := fun i hi => weights_elem hs2 (List.mem_map.2 ⟨i, List.mem_range.2 hi, rfl⟩)
    have hex : ∀ i, i < n → ∃ x : Mg, ∃ v u, W.cell? (ad.add (i * 5)) = some (.int .i64 x.from_) ∧ W.cell? ((ad.add (i * 5)).add 1) = some (.int .i64 x.to_) ∧ W.cell? ((ad.add (i * 5)).add 2) = some (.int .i64 x.kind) ∧ W.cell? ((ad.add (i * 5)).add 3) = some v ∧ W.cell? ((ad.add (i * 5)).add 4) = some u ∧ IsM W x v u := by
      intro i hi
      obtain ⟨cs, hcs1, htr⟩ := hcell i (by omega)
      obtain ⟨_, hlen, hget⟩ := World.cells?_some hcs1
      obtain ⟨x, v, u, rfl, hm⟩ := open_msg hlen htr (hw i hi)
      refine ⟨x, v, u, ?_, ?_, ?_, ?_, ?_, hm⟩
      · have := hget 0 (by omega)
        simpa [Addr.add] using this
      · rw [hget 1 (by omega)]; rfl
      · rw [hget 2 (by omega)]; rfl
      · rw [hget 3 (by omega)]; rfl
      · rw [hget 4 (by omega)]; rfl
    obtain ⟨L, hL⟩ := Deep.choose_lt hex
    refine ⟨some ad, n, m, (List.range n).map L, rfl, ⟨by simp, ?_⟩, hle⟩
    by_cases h0 : n = 0
    · exact .inl h0
    · right
      obtain ⟨b, off, spot⟩ := ad
      have hspot : spot = none := by
        obtain ⟨_, _, h1, _⟩ := hL 0 (by omega)
        simpa [Addr.add] using World.cell?_spot h1
      subst hspot
      refine ⟨b, off, rfl, fun i hi => ?_⟩
      obtain ⟨v, u, g0, g1, g2, g3, g4, g5⟩ := hL i hi
      simp only [Addr.add_lit] at g0 g1 g2 g3 g4
      have hgd : ((List.range n).map L).getD i m0 = L i := by simp [List.getD_eq_getElem?_getD, hi]
      rw [hgd]
      exact ⟨v, u, g0, g1, g2, g3, g4, g5⟩
theorem k47 : Try.prog.cellsOf 47 = 6 := by kernel_rfl
theorem open_ax {W : World} {base : Nat} {v : Value} {d : DataW H} {ps : List MemPlace} (hv : Value.okWide Try.prog W .any base 38 v) (h : DataW.Trod enc Try.prog W 0 (fun _ => true) true 38 v d ps)
    (hsz : (DataW.weights Try.prog 38 d).all (· ≤ reachBytes) = true) : ∃ ao n c l, v = .slice ao n c ∧ IsAx W ao n l ∧ n ≤ c := by
  obtain ⟨a, n, c, rfl⟩ := okWide_slice Try.underlying38 hv
  obtain ⟨fuel, hf⟩ := h
  have k3 : Try.prog.cellsOf 3 = 1 := by kernel_rfl
  have k4 : Try.prog.cellsOf 4 = 1 := by kernel_rfl
  have k45 : Try.prog.cellsOf 45 = 1 := by kernel_rfl
  rcases Deep.open_slice Try.underlying38 hf with ⟨hcs, hx⟩ | ⟨ad, n', c', m, k, D, Pl, hcs, _, hle, _, hm, hx, hcell⟩
  · simp [Value.cells] at hcs
    obtain ⟨rfl, rfl, rfl⟩ := hcs
    exact ⟨_, _, _, [], rfl, ⟨rfl, .inl rfl⟩, Nat.le_refl _⟩
  · simp [Value.cells] at hcs
    obtain ⟨rfl, rfl, rfl⟩ := hcs
    obtain rfl : m = c := by simpa using hm
    rw [k47] at hcell
    obtain ⟨rfl, rfl⟩ := Prod.mk.inj hx
    simp only [DataW.weights, Try.underlying38, List.all_cons, List.all_append, Bool.and_eq_true] at hsz
    obtain ⟨_, hs2, _⟩ := hsz
    have hw : ∀ i, i < n → (DataW.weights Try.prog 47 (D i)).all (· ≤ reachBytes) = true := fun i hi => weights_elem hs2 (List.mem_map.2 ⟨i, List.mem_range.2 hi, rfl⟩)
    have hex : ∀ i, i < n → ∃ x : Ax, ∃ lo ln lc, W.cell? (ad.add (i * 6)) = some (.int .i64 x.op) ∧ W.cell? ((ad.add (i * 6)).add 1) = some (.int .i64 x.k) ∧ W.cell? ((ad.add (i * 6)).add 2) = some (.int .i64 x.a) ∧ W.cell? ((ad.add (i * 6)).add 3) = some (.int .i64 x.b) ∧ W.cell? ((ad.add (i * 6)).add 4) = some (.bool x.lost) ∧ W.cell? ((ad.add (i * 6)).add 5) = some (.slice lo ln lc) ∧ ln ≤ lc ∧ IsMs W lo ln x.l := by
      intro i hi
      obtain ⟨cs, hcs1, htr⟩ := hcell i (by omega)
      obtain ⟨_, hlen, hget⟩ := World.cells?_some hcs1
      obtain ⟨xs, q, _, hx, _, hlen2, hf⟩ := DataW.trod_struct Try.underlying47 htr
      obtain ⟨c0, c1, c2, c3, c4, c5, rfl⟩ : ∃ c0 c1 c2 c3 c4 c5, cs = [c0, c1, c2, c3, c4, c5] := by
        match cs, hlen with
        | [c0, c1, c2, c3, c4, c5], _ => exact ⟨c0, c1, c2, c3, c4, c5, rfl⟩
      obtain ⟨y0, y1, y2, y3, y4, y5, rfl⟩ : ∃ y0 y1 y2 y3 y4 y5, xs = [y0, y1, y2, y3, y4, y5] := by
        match xs, hlen2 with
        | [y0, y1, y2, y3, y4, y5], _ => exact ⟨y0, y1, y2, y3, y4, y5, rfl⟩
      have f0 : DataW.trod enc Try.prog W 0 (fun _ => true) true q 3 [c0] = some y0 := by simpa [k3] using hf 0 _ rfl
      have f1 : DataW.trod enc Try.prog W 0 (fun _ => true) true q 3 [c1] = some y1 := by simpa [k3] using hf 1 _ rfl
      have f2 : DataW.trod enc Try.prog W 0 (fun _ => true) true q 3 [c2] = some y2 := by simpa [k3] using hf 2 _ rfl
      have f3 : DataW.trod enc Try.prog W 0 (fun _ => true) true q 3 [c3] = some y3 := by simpa [k3] using hf 3 _ rfl
      have f4 : DataW.trod enc Try.prog W 0 (fun _ => true) true q 4 [c4] = some y4 := by simpa [k4] using hf 4 _ rfl
      have f5 : DataW.trod enc Try.prog W 0 (fun _ => true) true q 45 [c5] = some y5 := by simpa [k45] using hf 5 _ rfl
      have hd := hw i hi
      rw [show D i = .agg [y0.1, y1.1, y2.1, y3.1, y4.1, y5.1] from (Prod.mk.inj hx).1] at hd
      have hwe : (DataW.weightsEach Try.prog [3, 3, 3, 3, 4, 45] [y0.1, y1.1, y2.1, y3.1, y4.1, y5.1]).all (· ≤ reachBytes) = true := by
        simp only [DataW.weights, Try.underlying47] at hd
        exact hd
      have hw5 := weights_arg hwe (j := 5) (t := 45) (d := y5.1) rfl rfl
      obtain ⟨z0, e0, _, _⟩ := DataW.trod_int Try.underlying3 f0
      obtain ⟨z1, e1, _, _⟩ := DataW.trod_int Try.underlying3 f1
      obtain ⟨z2, e2, _, _⟩ := DataW.trod_int Try.underlying3 f2
      obtain ⟨z3, e3, _, _⟩ := DataW.trod_int Try.underlying3 f3
      obtain ⟨z4, e4, _⟩ := DataW.trod_bool Try.underlying4 f4
      obtain ⟨lo, ln, lc, l, e5, i5, hle5⟩ := open_msgs f5 hw5
      simp only [List.cons.injEq, and_true] at e0 e1 e2 e3 e4 e5
      subst e0 e1 e2 e3 e4 e5
      refine ⟨⟨z0, z1, z2, z3, z4, l⟩, lo, ln, lc, ?_, ?_, ?_, ?_, ?_, ?_, hle5, i5⟩
      · have := hget 0 (by omega)
        simpa [Addr.add] using this
      · rw [hget 1 (by omega)]; rfl
      · rw [hget 2 (by omega)]; rfl
      · rw [hget 3 (by omega)]; rfl
      · rw [hget 4 (by omega)]; rfl
      · rw [hget 5 (by omega)]; rfl
    obtain ⟨L, hL⟩ := Deep.choose_lt hex
    refine ⟨some ad, n, m, (List.range n).map L, rfl, ⟨by simp, ?_⟩, hle⟩
    by_cases h0 : n = 0
    · exact .inl h0
    · right
      obtain ⟨b, off, spot⟩ := ad
      have hspot : spot = none := by
        obtain ⟨_, _, _, h1, _⟩ := hL 0 (by omega)
        simpa [Addr.add] using World.cell?_spot h1
      subst hspot
      refine ⟨b, off, rfl, fun i hi => ?_⟩
      obtain ⟨lo, ln, lc, g0, g1, g2, g3, g4, g5, g6, g7⟩ := hL i hi
      simp only [Addr.add_lit] at g0 g1 g2 g3 g4 g5
      have hgd : ((List.range n).map L).getD i ax0 = L i := by simp [List.getD_eq_getElem?_getD, hi]
      rw [hgd]
      exact ⟨lo, ln, lc, g0, g1, g2, g3, g4, g5, g6, g7⟩
end
end Go.Proofs.Ytmehgkbhpfcmpaa.G
