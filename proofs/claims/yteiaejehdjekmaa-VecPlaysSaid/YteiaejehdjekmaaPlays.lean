/-
  The walk of VecPlays, and how acts that came in are read: it returns true, and no memory that was there turns. No condition.
-/
import Derived.Test.YteiaejehdjekmaaPlaysA
import Derived.Test.YteiaejehdjekmaaFrameI
import Derived.Lib.SmallJoins
namespace Go.Proofs.Yteiaejehdjekmaa
open Go.RowKit

set_option maxRecDepth 100000 in
set_option maxHeartbeats 400000 in
/-- no acts -/
theorem plays_none (s : Nat) (ao : Option Addr) (c : Nat) (w : World) (h1 : 1 ≤ s) (h4 : s ≤ 4) :
    Calls Try.prog 5 #[.int .i64 (s : Int), .slice ao 0 c] w fun e w' => e = .returned (.bool true) ∧ Below w.heap.size w w' := by
  have d1 : decide ((s : Int) < 1) = false := by simp; omega
  have d2 : decide (4 < (s : Int)) = false := by simp; omega
  go_enter Try.func5, Try.ntmps5
  go_wp2_with fail
  refine (awake_any _).mono ?_
  rintro e w1 ⟨rfl, hb⟩
  go_wp2_with fail
  refine (new_ok s _ h1 h4).mono ?_
  rintro e w2 ⟨rfl, hv, ho, hs⟩
  have hb2 : Below w.heap.size w w2 := hb.trans (ho.below hb.size (by intro q hq; cases hq))
  have hmk := run_make_row' (P := Try.prog) 22 2 (.int .i64 0) 8 Try.underlying22 (by kernel_rfl) rfl .i64 .i64 s (by omega) (by omega)
  clear hb ho hs hv
  go_wp2_with fail
  refine wp_loop_rounds 1 ?_
  rw [rounds_succ]
  go_wp2
  go_ret
  exact ⟨rfl, (hb2.alloc hb2.size _).alloc (by have := hb2.size; simp; omega) _⟩

section
variable {H : Type} {enc : TypeId × Value → H}
open Go.ChangeShapes Go.WideShapes Go.ChangeAt

instance : Inhabited Act' := ⟨⟨0, 0, 0, []⟩⟩

/-- acts that came in -/
theorem open_acts {W : World} {base : Nat} {v : Value} {d : DataW H} {ps : List MemPlace} (hv : Value.okWide Try.prog W .any base 35 v) (h : DataW.Trod enc Try.prog W 0 (fun _ => true) true 35 v d ps)
    (hsz : (DataW.weights Try.prog 35 d).all (· ≤ reachBytes) = true) : ∃ ao n c l, v = .slice ao n c ∧ IsActs W ao n l := by
  obtain ⟨a, n, c, rfl⟩ := okWide_slice Try.underlying35 hv
  obtain ⟨fuel, hf⟩ := h
  have hE : Try.prog.cellsOf 40 = 4 := by kernel_rfl
  have h3 : Try.prog.cellsOf 3 = 1 := by kernel_rfl
  have h2 : Try.prog.cellsOf 2 = 1 := by kernel_rfl
  have h22 : Try.prog.cellsOf 22 = 1 := by kernel_rfl
  rcases Deep.open_slice Try.underlying35 hf with ⟨hcs, hx⟩ | ⟨ad, n', c', m, k, D, Pl, hcs, _, hle, _, hm, hx, hcell⟩
  · simp [Value.cells] at hcs
    obtain ⟨rfl, rfl, rfl⟩ := hcs
    exact ⟨_, _, _, [], rfl, rfl, .inl rfl⟩
  · simp [Value.cells] at hcs
    obtain ⟨rfl, rfl, rfl⟩ := hcs
    obtain rfl : m = c := by simpa using hm
    obtain ⟨rfl, rfl⟩ := Prod.mk.inj hx
    simp only [DataW.weights, Try.underlying35, List.all_cons, List.all_append, Bool.and_eq_true] at hsz
    obtain ⟨_, hs2, _⟩ := hsz
    rw [hE] at hcell
    have hex : ∀ i, i < n → ∃ x : Act', ∃ a q c, W.cell? (ad.add (i * 4)) = some (.int .i64 x.op) ∧ W.cell? ((ad.add (i * 4)).add 1) = some (.int .i64 x.sh) ∧ W.cell? ((ad.add (i * 4)).add 2) = some (.int .i64 x.zx) ∧
        W.cell? ((ad.add (i * 4)).add 3) = some (.slice a q c) ∧ IsI W a q c x.L ∧ q * 8 ≤ 140737488351232 := by
      intro i hi
      obtain ⟨cs, hcs1, htr⟩ := hcell i (by omega)
      obtain ⟨_, hlen, hget⟩ := World.cells?_some hcs1
      obtain ⟨x0, x1, x2, x3, rfl⟩ : ∃ x0 x1 x2 x3, cs = [x0, x1, x2, x3] := by
        match cs, hlen with
        | [x0, x1, x2, x3], _ => exact ⟨x0, x1, x2, x3, rfl⟩
      obtain ⟨y0, y1, y2, y3, kk, hD, _, t0, t1, t2, t3⟩ := Joins.trod_struct4 Try.underlying40 htr
      rw [show Try.prog.cellsOf 3 = 1 from h3] at t0 t1
      rw [show Try.prog.cellsOf 2 = 1 from h2] at t2
      rw [show Try.prog.cellsOf 22 = 1 from h22] at t3
      obtain ⟨z0, e0, _, _⟩ := DataW.trod_int Try.underlying3 t0
      obtain ⟨z1, e1, _, _⟩ := DataW.trod_int Try.underlying3 t1
      obtain ⟨z2, e2, _, _⟩ := DataW.trod_int Try.underlying2 t2
      have hw : (DataW.weights Try.prog 40 (D i)).all (· ≤ reachBytes) = true := weights_elem hs2 (List.mem_map.2 ⟨i, List.mem_range.2 hi, rfl⟩)
      have hD1 : D i = _ := congrArg Prod.fst hD
      rw [hD1] at hw
      have hw3 : (DataW.weights Try.prog 22 y3.1).all (· ≤ reachBytes) = true := by
        simp only [DataW.weights, Try.underlying40, DataW.weightsEach, List.map_cons, List.map_nil, List.all_append, List.append_nil, Bool.and_eq_true] at hw
        exact hw.2.2.2
      obtain ⟨ao, q, c, l, e3, hI, hqc, hre, _⟩ := open_nums_cells (d := y3.1) (ps := y3.2) Try.underlying22 Try.underlying2 (by kernel_rfl) (by kernel_rfl) t3 hw3
      have hg := fun j hj => hget j hj
      refine ⟨⟨z0, z1, z2, l⟩, ao, q, c, ?_, ?_, ?_, ?_, hI, by omega⟩
      · have := hget 0 (by omega)
        simp at e0
        simpa [Addr.add, e0] using this
      · rw [hget 1 (by omega)]
        simp at e1
        simp [e1]
      · rw [hget 2 (by omega)]
        simp at e2
        simp [e2]
      · rw [hget 3 (by omega)]
        simp at e3
        simp [e3]
    obtain ⟨L, hL⟩ := Deep.choose_lt hex
    refine ⟨some ad, n, m, (List.range n).map L, rfl, by simp, ?_⟩
    by_cases h0 : n = 0
    · exact .inl h0
    · right
      obtain ⟨b, off, spot⟩ := ad
      have hspot : spot = none := by
        obtain ⟨_, _, _, h1, _⟩ := hL 0 (by omega)
        simpa [Addr.add] using World.cell?_spot h1
      subst hspot
      refine ⟨b, off, rfl, fun i hi => ?_⟩
      obtain ⟨a, q, c, g0, g1, g2, g3, g4, g5⟩ := hL i (by simpa using hi)
      simp only [Addr.add_lit] at g0 g1 g2 g3
      refine ⟨a, q, c, ?_, ?_, ?_, ?_, ?_, g5⟩ <;> simpa using (by assumption)
end

theorem plays_walk (s : Int) (ao : Option Addr) (n c : Nat) (l : List Act') (w : World) (_ : (Lit.int .i64 s).wf = true) (hl : IsActs w ao n l) :
    Calls Try.prog 5 #[.int .i64 s, .slice ao n c] w fun e w' => e = .returned (.bool true) ∧ Below w.heap.size w w' := by
  by_cases hs : s < 1 ∨ 4 < s
  · exact plays_bad s ao n c w hs
  · obtain ⟨k, rfl⟩ := Int.eq_ofNat_of_zero_le (show 0 ≤ s by omega)
    by_cases h60 : 60 < n
    · exact plays_long k ao n c w (by omega) (by omega) h60
    · by_cases h0 : n = 0
      · subst h0
        exact plays_none k ao c w (by omega) (by omega)
      · rcases hl.at_ with h1 | ⟨b, off, rfl, _⟩
        · exact absurd h1 h0
        · exact plays_in k b off n c l w hl (by omega) (by omega) (by omega)

end Go.Proofs.Yteiaejehdjekmaa
