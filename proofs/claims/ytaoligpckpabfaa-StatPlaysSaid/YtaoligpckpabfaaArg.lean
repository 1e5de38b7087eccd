/-
  A node that came in; whether it is more than is asked of. No condition.
-/
import Derived.Test.YtaoligpckpabfaaRefW
import Derived.Test.YtaoligpckpabfaaFrameS
namespace Go.Proofs.Ytaoligpckpabfaa
open Go.RowKit
structure WfA (s : Nd) : Prop where
  wf : WfN s
  made : I64 s.made
  changed : I64 s.changed
  owner : I64 s.owner
/-- not long: what that tells -/
def LongP (x : Nd) (b : Bool) : Prop := b = false → x.names.length ≤ 40 ∧ x.data.size ≤ 1200 ∧ ∀ k, k < x.names.length → (getS x.names k).size ≤ 100
def LongR (x : Nd) (w : World) (e : Ending) (w' : World) : Prop := ∃ b, LongP x b ∧ e = .returned (.bool b) ∧ Below w.heap.size w w'
set_option maxHeartbeats 2000000 in
theorem long_any (x : Nd) (ao : Option Addr) (n c : Nat) (w : World) (h : IsS w ao n c x.names) (hn : n ≤ 8796093022208) :
    Calls Try.prog 15 #[aggN x (.slice ao n c)] w (LongR x w) := by
  have HL := Lib.hid h.len
  have HI := Lib.hid h
  clear h
  cases x with
  | mk xa xb xc xg xh xi xj xd xe xn =>
  simp only [aggN, cellsN] at *
  by_cases hn4 : 40 < n
  · have g1 : decide (40 < (n : Int)) = true := by simp; omega
    go_enter Try.func15, Try.ntmps15
    go_wp2_with fail
    go_ret
    exact ⟨true, (fun h => by cases h), rfl, (Below.refl _ _).alloc (Nat.le_refl _) _⟩
  · have g1 : decide (40 < (n : Int)) = false := by simp; omega
    by_cases hd : 1200 < xd.size
    · have g2 : decide (1200 < (xd.size : Int)) = true := by simp; omega
      clear hn4
      go_enter Try.func15, Try.ntmps15
      go_wp2_with fail
      go_ret
      exact ⟨true, (fun h => by cases h), rfl, (Below.refl _ _).alloc (Nat.le_refl _) _⟩
    · have g2 : decide (1200 < (xd.size : Int)) = false := by simp; omega
      have HD := Lib.hid hd
      have HN4 := Lib.hid hn4
      clear hd hn4
      go_enter Try.func15, Try.ntmps15
      go_wp2_with fail
      have hb0 : Below w.heap.size w (w.alloc (.cells #[.int .i64 xa, .int .i64 xb, .int .i64 xc, .int .i64 xg, .int .i64 xh, .int .i64 xi, .int .i64 xj, .string xd, .int .i64 xe, .slice ao n c] 27)) := (Below.refl _ _).alloc (Nat.le_refl _) _
      have hx : (w.alloc (.cells #[.int .i64 xa, .int .i64 xb, .int .i64 xc, .int .i64 xg, .int .i64 xh, .int .i64 xi, .int .i64 xj, .string xd, .int .i64 xe, .slice ao n c] 27)).heap[w.heap.size]? = some (.cells #[.int .i64 xa, .int .i64 xb, .int .i64 xc, .int .i64 xg, .int .i64 xh, .int .i64 xi, .int .i64 xj, .string xd, .int .i64 xe, .slice ao n c] 27 (0, 0)) := heap_new _ _
      have HI1 := Lib.hid (HI.out.below hb0)
      have HB0 := Lib.hid hb0
      generalize (w.alloc (.cells #[.int .i64 xa, .int .i64 xb, .int .i64 xc, .int .i64 xg, .int .i64 xh, .int .i64 xi, .int .i64 xj, .string xd, .int .i64 xe, .slice ao n c] 27)) = w0 at *
      generalize hX : w.heap.size = X at *
      have HXX := Lib.hid hX
      have hc9 : w0.cell? ⟨X, 9, none⟩ = some (.slice ao n c) := by rw [cell_heap hx]; rfl
      have hn40 := HN4.out
      clear hX hb0 hx g1 g2
      go_loopw [3] (fun i wr => wr = w0 ∧ ∃ k : Nat, k ≤ n ∧ i = .int .i64 (k : Int) ∧ ∀ j, j < k → (getS xn j).size ≤ 100) (fun i _ => n - (intOf i).toNat)
      case atStart => exact ⟨rfl, 0, by omega, rfl, fun j hj => by omega⟩
      case round =>
        obtain ⟨rfl, k, hk, rfl, hup⟩ := hrel
        have HU := Lib.hid hup; clear hup
        by_cases hlt : k < n
        · obtain ⟨b, off, rfl⟩ := isS_some HI1.out (by omega)
          have hcs := getS_cell HI1.out hlt
          have HX2 := Lib.hid (show getS xn k = getS xn k from rfl)
          by_cases hs : 100 < (getS xn k).size
          · generalize getS xn k = s at *
            have g3 : decide (100 < (s.size : Int)) = true := by simp; omega
            go_wp2_with fail
            go_ret
            exact ⟨true, (fun h => by cases h), rfl, HXX.out ▸ HB0.out⟩
          · have HS := Lib.hid hs
            generalize hsx : getS xn k = s at *
            have HSX := Lib.hid hsx
            have g3 : decide (100 < (s.size : Int)) = false := by simp; omega
            clear hsx hs HX2
            go_wp2_with fail
            go_roundw
            case rel =>
              refine ⟨trivial, k + 1, by omega, by go_num, fun j hj => ?_⟩
              by_cases hjk : j = k
              · subst hjk; rw [HSX.out]; have := HS.out; omega
              · exact HU.out j (by omega)
            case measure => simp [intOf]; omega
        · obtain rfl : k = n := by omega
          go_wp2_with fail
          go_ret
          exact ⟨false, fun _ => ⟨by simp only; rw [HL.out]; omega, by have := HD.out; simp only; omega, fun j hj => HU.out j (by rw [← HL.out]; exact hj)⟩, rfl, HXX.out ▸ HB0.out⟩
section
variable {H : Type} {enc : TypeId × Value → H}
open Go.ChangeShapes Go.WideShapes Go.ChangeAt
theorem lit_I64 {z : Int} (h : (Lit.int .i64 z).wf = true) : I64 z := lit_sc h
theorem agg_of_cells {v : Value} {n : Nat} (h : v.cells.toList.length = n + 2) : ∃ cs, v = .agg cs := by
  cases v with
  | agg cs => exact ⟨cs, rfl⟩
  | _ => simp [Value.cells] at h
/-- a node that came in -/
theorem open_node {W : World} {base : Nat} {v : Value} {d : DataW H} {ps : List MemPlace} (_ : Value.okWide Try.prog W .any base 27 v) (hh : DataW.Trod enc Try.prog W 0 (fun _ => true) true 27 v d ps)
    (hsz : (DataW.weights Try.prog 27 d).all (· ≤ reachBytes) = true) : ∃ x ao n c, v = aggN x (.slice ao n c) ∧ IsS W ao n c x.names ∧ n ≤ c ∧ c * 16 ≤ 140737488351232 ∧ WfA x := by
  have k2 : Try.prog.cellsOf 2 = 1 := by kernel_rfl
  have k3 : Try.prog.cellsOf 3 = 1 := by kernel_rfl
  have k9 : Try.prog.cellsOf 9 = 1 := by kernel_rfl
  have k22 : Try.prog.cellsOf 22 = 1 := by kernel_rfl
  have k25 : Try.prog.cellsOf 25 = 7 := by kernel_rfl
  have k27 : Try.prog.cellsOf 27 = 10 := by kernel_rfl
  obtain ⟨fuel, h⟩ := hh
  obtain ⟨xs, n, _, hx, hl, hlen, hf⟩ := DataW.trod_struct Try.underlying27 h
  rw [k27] at hl
  obtain ⟨cs, rfl⟩ := agg_of_cells (n := 8) hl
  have hl2 : cs.toList.length = 10 := hl
  obtain ⟨c0, c1, c2, c3, c4, c5, c6, c7, c8, c9, hcs⟩ : ∃ c0 c1 c2 c3 c4 c5 c6 c7 c8 c9, cs.toList = [c0, c1, c2, c3, c4, c5, c6, c7, c8, c9] := by
    match hq : cs.toList, hl2 with
    | [c0, c1, c2, c3, c4, c5, c6, c7, c8, c9], _ => exact ⟨c0, c1, c2, c3, c4, c5, c6, c7, c8, c9, rfl⟩
  obtain rfl : cs = #[c0, c1, c2, c3, c4, c5, c6, c7, c8, c9] := by cases cs; simpa using hcs
  obtain ⟨y0, y1, y2, y3, rfl⟩ : ∃ y0 y1 y2 y3, xs = [y0, y1, y2, y3] := by
    match xs, hlen with
    | [y0, y1, y2, y3], _ => exact ⟨y0, y1, y2, y3, rfl⟩
  have f0 : DataW.trod enc Try.prog W 0 (fun _ => true) true n 25 [c0, c1, c2, c3, c4, c5, c6] = some y0 := by simpa [Value.cells, k25] using hf 0 _ rfl
  have f1 : DataW.trod enc Try.prog W 0 (fun _ => true) true n 9 [c7] = some y1 := by simpa [Value.cells, k9] using hf 1 _ rfl
  have f2 : DataW.trod enc Try.prog W 0 (fun _ => true) true n 3 [c8] = some y2 := by simpa [Value.cells, k3] using hf 2 _ rfl
  have f3 : DataW.trod enc Try.prog W 0 (fun _ => true) true n 22 [c9] = some y3 := by simpa [Value.cells, k22] using hf 3 _ rfl
  obtain ⟨s1, e1, _, _⟩ := DataW.trod_string Try.underlying9 f1
  obtain ⟨z2, e2, _, w2⟩ := DataW.trod_int Try.underlying3 f2
  obtain rfl : d = .agg [y0.1, y1.1, y2.1, y3.1] := (Prod.mk.inj hx).1
  have hw : (DataW.weightsEach Try.prog [25, 9, 3, 22] [y0.1, y1.1, y2.1, y3.1]).all (· ≤ reachBytes) = true := by
    simp only [DataW.weights, Try.underlying27] at hsz
    exact hsz
  have hw3 := weights_arg hw (j := 3) (t := 22) (d := y3.1) rfl rfl
  obtain ⟨ao, m, c, l, e3, i3, hle, hbound, _⟩ := open_texts_cells Try.underlying22 Try.underlying9 k9 (by kernel_rfl) (d := y3.1) (ps := y3.2) f3 hw3
  obtain ⟨xs2, n2, _, hx2, hl2', hlen2, hg⟩ := DataW.trod_struct Try.underlying25 f0
  obtain ⟨u0, u1, u2, u3, u4, u5, u6, rfl⟩ : ∃ u0 u1 u2 u3 u4 u5 u6, xs2 = [u0, u1, u2, u3, u4, u5, u6] := by
    match xs2, hlen2 with
    | [u0, u1, u2, u3, u4, u5, u6], _ => exact ⟨u0, u1, u2, u3, u4, u5, u6, rfl⟩
  have g0 : DataW.trod enc Try.prog W 0 (fun _ => true) true n2 2 [c0] = some u0 := by simpa [k2] using hg 0 _ rfl
  have g1 : DataW.trod enc Try.prog W 0 (fun _ => true) true n2 2 [c1] = some u1 := by simpa [k2] using hg 1 _ rfl
  have g2 : DataW.trod enc Try.prog W 0 (fun _ => true) true n2 3 [c2] = some u2 := by simpa [k3] using hg 2 _ rfl
  have g3 : DataW.trod enc Try.prog W 0 (fun _ => true) true n2 3 [c3] = some u3 := by simpa [k3] using hg 3 _ rfl
  have g4 : DataW.trod enc Try.prog W 0 (fun _ => true) true n2 2 [c4] = some u4 := by simpa [k2] using hg 4 _ rfl
  have g5 : DataW.trod enc Try.prog W 0 (fun _ => true) true n2 3 [c5] = some u5 := by simpa [k3] using hg 5 _ rfl
  have g6 : DataW.trod enc Try.prog W 0 (fun _ => true) true n2 3 [c6] = some u6 := by simpa [k3] using hg 6 _ rfl
  obtain ⟨a0, r0, _, v0⟩ := DataW.trod_int Try.underlying2 g0
  obtain ⟨a1, r1, _, v1⟩ := DataW.trod_int Try.underlying2 g1
  obtain ⟨a2, r2, _, v2⟩ := DataW.trod_int Try.underlying3 g2
  obtain ⟨a3, r3, _, v3⟩ := DataW.trod_int Try.underlying3 g3
  obtain ⟨a4, r4, _, v4⟩ := DataW.trod_int Try.underlying2 g4
  obtain ⟨a5, r5, _, v5⟩ := DataW.trod_int Try.underlying3 g5
  obtain ⟨a6, r6, _, v6⟩ := DataW.trod_int Try.underlying3 g6
  simp only [List.cons.injEq, and_true] at e1 e2 e3 r0 r1 r2 r3 r4 r5 r6
  subst e1 e2 e3 r0 r1 r2 r3 r4 r5 r6
  exact ⟨⟨a0, a1, a2, a3, a4, a5, a6, s1, z2, l⟩, ao, m, c, rfl, i3, hle, hbound, ⟨⟨lit_I64 v2, lit_I64 v3, lit_I64 w2⟩, lit_I64 v0, lit_I64 v1, lit_I64 v4⟩⟩
end
end Go.Proofs.Ytaoligpckpabfaa
