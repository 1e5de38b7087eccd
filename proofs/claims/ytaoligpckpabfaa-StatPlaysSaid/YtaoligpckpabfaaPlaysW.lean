/-
  StatPlays' walk. No condition.
-/
import Derived.Test.YtaoligpckpabfaaArg
import Derived.Test.YtaoligpckpabfaaRefA
import Derived.Test.YtaoligpckpabfaaApartW
import Derived.Deep.CutBlock
namespace Go.Proofs.Ytaoligpckpabfaa
open Go.RowKit
theorem load36 {o : Oper} {a : Act} {w : World} (x : Operand) (ho : o.op = .load 36 x) (g : Nat) (hx : a.eval x = .pointer (some ⟨g, 0, none⟩)) (cs : Array Value) (hg : w.heap[g]? = some (.cells cs 36 (0, 0))) (hn : cs.size = 10) :
    (execOp a.eval o).run Try.prog w = .ok (.value (.agg cs)) w := by
  unfold execOp
  simp only [ho, hx, Instr.loadAt, Instr.sureAddr, Sem.run_bind, Sem.run_pure, Result.andThen_ok, run_loadVar_row w g 36 36 cs (0, 0) _ hg Try.underlying36 rfl (by rw [hn]; exact size36)]
/-- the document's node, in block d; its names lie in none of the blocks of A -/
structure IsRf (w : World) (A : List Nat) (d : Nat) (s : Nd) : Prop where
  row : ∃ ro n c, w.heap[d]? = some (.cells (cellsN s (.slice ro n c)) 36 (0, 0)) ∧ IsS w ro n c s.names ∧ n ≤ c ∧ (n = 0 ∨ ∀ p, ro = some p → p.block ∉ A)
  mem : d ∈ A
theorem isS_keep0 {w w' : World} {ao : Option Addr} {n c : Nat} {l : List ByteArray} (h : IsS w ao n c l) {S A : List Nat} (ho : Only S w w') (hs : n = 0 ∨ ∀ p, ao = some p → p.block ∉ A) (hA : ∀ x ∈ S, x ∈ A) : IsS w' ao n c l := by
  rcases hs with hs | hs
  · exact ⟨h.len, h.nil, .inl hs⟩
  · exact isS_keep h ho (fun p hp hm => hs p hp (hA _ hm))
theorem IsRf.keep {w w' : World} {A : List Nat} {d : Nat} {s : Nd} (h : IsRf w A d s) {S : List Nat} (ho : Only S w w') (hd : d ∉ S) (hs : ∀ x ∈ S, x ∈ A) : IsRf w' A d s := by
  obtain ⟨⟨ro, n, c, h1, h2, h3, h4⟩, h5⟩ := h
  exact ⟨⟨ro, n, c, ho.keeps h1 hd, isS_keep0 h2 ho h4 hs, h3, h4⟩, h5⟩
theorem IsRf.below {w w' : World} {A : List Nat} {d : Nat} {s : Nd} (h : IsRf w A d s) (hb : Below w.heap.size w w') : IsRf w' A d s :=
  h.keep (Only.ofBelow hb []) (by simp) (by simp)
theorem IsRf.row_of {w : World} {A : List Nat} {d : Nat} {s : Nd} (h : IsRf w A d s) : ∃ o c, Hid (∀ w', Below w.heap.size w w' → w'.heap[d]? = some (.cells (cellsN s (.slice o s.names.length c)) 36 (0, 0))) ∧ Hid (∀ w', Below w.heap.size w w' → IsS w' o s.names.length c s.names) := by
  obtain ⟨⟨ao, n, c, h1, h2, h3, h4⟩, h5⟩ := h
  obtain rfl : s.names.length = n := h2.len
  exact ⟨ao, c, Lib.hid fun w' hb => (hb.block d (lt_of_heap h1)).trans h1, Lib.hid fun w' hb => h2.below hb⟩
theorem only_row (W : World) (d : Nat) (cs : Array Value) : Only [d] W (W.setRow d cs) := ⟨rfl, rfl, rfl, by simp, fun k _ hk => setRow_other _ _ _ _ (by simpa using hk)⟩
/-- behind a call that answered a node, laid into the document's block -/
theorem IsRf.laid {w w' : World} {A : List Nat} {d : Nat} {s s' : Nd} {ro ro' : Option Addr} {n c n' c' : Nat} (h1 : w.heap[d]? = some (.cells (cellsN s (.slice ro n c)) 36 (0, 0))) (h4 : n = 0 ∨ ∀ p, ro = some p → p.block ∉ A) (h5 : d ∈ A)
    (hA : ∀ x ∈ A, x < w.heap.size) (hb : Below w.heap.size w w') (hs : IsS w' ro' n' c' s'.names) (hc : n' ≤ c') (hp : ∀ p, ro' = some p → (ro' = ro ∧ n' = n) ∨ w.heap.size ≤ p.block) : IsRf (w'.setRow d (cellsN s' (.slice ro' n' c'))) A d s' := by
  have hd := hA d h5
  have h1' := (hb.block d hd).trans h1
  have hc2 : n' = 0 ∨ ∀ p, ro' = some p → p.block ∉ A := by
    rcases h4 with h4 | h4
    · by_cases h0 : n' = 0
      · exact .inl h0
      · refine .inr fun p hpp hm => ?_
        rcases hp p hpp with ⟨_, he⟩ | he
        · omega
        · have := hA _ hm; omega
    · refine .inr fun p hpp hm => ?_
      rcases hp p hpp with ⟨he, _⟩ | he
      · exact h4 p (he ▸ hpp) hm
      · have := hA _ hm; omega
  refine ⟨⟨ro', n', c', setRow_heap _ _ _ _ 36 (0, 0) h1', isS_keep0 hs (only_row _ _ _) hc2 (by simpa using h5), hc, hc2⟩, h5⟩
/-- how it stands: the program's node in block a, the document's in block d: the same -/
structure Pl (W wr : World) (a d : Nat) (s : Nd) (k : Nat) : Prop where
  nd : IsNd wr [a, d] a s
  rf : IsRf wr [a, d] d s
  wf : WfN s
  ris : Ris s.names
  len : s.names.length ≤ 40 + k
  bl : Below W.heap.size W wr
  sz : W.heap.size ≤ a ∧ W.heap.size ≤ d ∧ a < wr.heap.size ∧ d < wr.heap.size
  ne : a ≠ d
theorem Pl.below {W wr w' : World} {a d : Nat} {s : Nd} {k : Nat} (h : Pl W wr a d s k) (hb : Below wr.heap.size wr w') : Pl W w' a d s k :=
  ⟨h.nd.below hb, h.rf.below hb, h.wf, h.ris, h.len, h.bl.trans (hb.mono h.bl.size), ⟨h.sz.1, h.sz.2.1, Nat.lt_of_lt_of_le h.sz.2.2.1 hb.size, Nat.lt_of_lt_of_le h.sz.2.2.2 hb.size⟩, h.ne⟩
/-- the half-way state: the program's node has turned -/
structure Ph (W wr : World) (a d : Nat) (s t : Nd) (k : Nat) : Prop where
  nd : IsNd wr [a, d] a t
  rf : IsRf wr [a, d] d s
  bl : Below W.heap.size W wr
  sz : W.heap.size ≤ a ∧ W.heap.size ≤ d ∧ a < wr.heap.size ∧ d < wr.heap.size
  ne : a ≠ d
theorem Pl.half {W wr w' : World} {a d : Nat} {s t : Nd} {k : Nat} (h : Pl W wr a d s k) (h1 : IsNd w' [a, d] a t) (ho : Only [a] wr w') : Ph W w' a d s t k :=
  ⟨h1, h.rf.keep ho (by simpa using fun e => h.ne e.symm) (by simp), below_of_only h.bl ho h.sz.1 (Nat.le_refl _), ⟨h.sz.1, h.sz.2.1, Nat.lt_of_lt_of_le h.sz.2.2.1 ho.size, Nat.lt_of_lt_of_le h.sz.2.2.2 ho.size⟩, h.ne⟩
theorem Ph.laid {W wr w' : World} {a d : Nat} {s t : Nd} {k j : Nat} {ro ro' : Option Addr} {n c n' c' : Nat} (h : Ph W wr a d s t k) (h1 : wr.heap[d]? = some (.cells (cellsN s (.slice ro n c)) 36 (0, 0))) (h4 : n = 0 ∨ ∀ p, ro = some p → p.block ∉ [a, d]) (hb : Below wr.heap.size wr w')
    (hs : IsS w' ro' n' c' t.names) (hc : n' ≤ c') (hp : ∀ p, ro' = some p → (ro' = ro ∧ n' = n) ∨ wr.heap.size ≤ p.block) (hw : WfN t) (hr : Ris t.names) (hl : t.names.length ≤ 40 + j) : Pl W (w'.setRow d (cellsN t (.slice ro' n' c'))) a d t j := by
  have hA : ∀ x ∈ [a, d], x < wr.heap.size := by
    intro x hx
    simp only [List.mem_cons, List.not_mem_nil, or_false] at hx
    rcases hx with rfl | rfl
    · exact h.sz.2.2.1
    · exact h.sz.2.2.2
  have ho := only_row w' d (cellsN t (.slice ro' n' c'))
  refine ⟨(h.nd.below hb).keep ho (by simpa using h.ne) (by simp), IsRf.laid h1 h4 (by simp) hA hb hs hc hp, hw, hr, hl, below_of_only (h.bl.trans (hb.mono h.bl.size)) ho h.sz.2.1 (Nat.le_refl _), ⟨h.sz.1, h.sz.2.1, Nat.lt_of_lt_of_le h.sz.2.2.1 (Nat.le_trans hb.size ho.size), Nat.lt_of_lt_of_le h.sz.2.2.2 (Nat.le_trans hb.size ho.size)⟩, h.ne⟩
set_option maxHeartbeats 16000000 in
set_option maxRecDepth 100000 in
theorem plays_walk (x : Nd) (ao : Option Addr) (n c : Nat) (lo : Option Addr) (m c2 : Nat) (l : List Ac) (W : World) (h : IsS W ao n c x.names) (hnc : n ≤ c) (hn9 : n ≤ 8796093022208) (hwf : WfN x) (h2 : IsActs W lo m l) :
    Calls Try.prog 5 #[aggN x (.slice ao n c), .slice lo m c2] W fun e w' => e = .returned (.bool true) ∧ Below W.heap.size W w' := by
  have HI := Lib.hid h
  have HA := Lib.hid h2
  have HNC := Lib.hid hnc
  have HPB : Hid (n = 0 ∨ ∀ p, ao = some p → p.block < W.heap.size) := Lib.hid (by
    rcases h.at_ with h0 | ⟨b, off, h1, h2⟩
    · exact .inl h0
    · by_cases h0 : n = 0
      · exact .inl h0
      · refine .inr fun p hp => ?_
        rw [h1] at hp
        cases hp
        have := World.block_lt_of_cell? W _ (h2 0 (by omega))
        exact this)
  have HWF := Lib.hid hwf
  have HNL := Lib.hid h.len
  have HLG := Lib.hid (fun (u : World) (hb : Below W.heap.size W u) => long_any x ao n c u (h.below hb) hn9)
  have HRS := Lib.hid (fun (u : World) (hb : Below W.heap.size W u) (h1 : n ≤ 40) => rising_any ao n c x.names u (h.below hb) (by omega))
  clear h h2 hnc hwf
  have HND := Lib.hid (fun (u : World) => nd_any x ao n c u)
  generalize hxx : x = x0 at *
  cases x with
  | mk xa xb xc xg xh xi xj xd xe xn =>
  have HXX := Lib.hid hxx
  have hagg : aggN x0 (.slice ao n c) = .agg #[.int .i64 xa, .int .i64 xb, .int .i64 xc, .int .i64 xg, .int .i64 xh, .int .i64 xi, .int .i64 xj, .string xd, .int .i64 xe, .slice ao n c] := by rw [← hxx]; rfl
  rw [hagg] at HLG HND ⊢
  have HCX : Hid (cellsN x0 (.slice ao n c) = #[.int .i64 xa, .int .i64 xb, .int .i64 xc, .int .i64 xg, .int .i64 xh, .int .i64 xi, .int .i64 xj, .string xd, .int .i64 xe, .slice ao n c]) := Lib.hid (by rw [← hxx]; rfl)
  clear hagg hxx
  go_enter Try.func5, Try.ntmps5
  go_wp2_with fail
  have hb0 : Below W.heap.size W (W.alloc (.cells #[.int .i64 xa, .int .i64 xb, .int .i64 xc, .int .i64 xg, .int .i64 xh, .int .i64 xi, .int .i64 xj, .string xd, .int .i64 xe, .slice ao n c] 27)) := (Below.refl _ _).alloc (Nat.le_refl _) _
  have hx0 : (W.alloc (.cells #[.int .i64 xa, .int .i64 xb, .int .i64 xc, .int .i64 xg, .int .i64 xh, .int .i64 xi, .int .i64 xj, .string xd, .int .i64 xe, .slice ao n c] 27)).heap[W.heap.size]? = some (.cells #[.int .i64 xa, .int .i64 xb, .int .i64 xc, .int .i64 xg, .int .i64 xh, .int .i64 xi, .int .i64 xj, .string xd, .int .i64 xe, .slice ao n c] 27 (0, 0)) := heap_new _ _
  generalize (W.alloc (.cells #[.int .i64 xa, .int .i64 xb, .int .i64 xc, .int .i64 xg, .int .i64 xh, .int .i64 xi, .int .i64 xj, .string xd, .int .i64 xe, .slice ao n c] 27)) = w0 at *
  refine (awake_any _).mono ?_
  rintro e w1 ⟨rfl, hb1⟩
  have HX1 := Lib.hid ((hb1.block _ (lt_of_heap hx0)).trans hx0)
  have HB1 := Lib.hid (hb0.trans (hb1.mono hb0.size))
  have hal : W.heap.size < w1.heap.size := lt_of_heap HX1.out
  clear hb0 hb1 hx0
  have hc9 : w1.cell? ⟨W.heap.size, 9, none⟩ = some (.slice ao n c) := by rw [cell_heap HX1.out]; rfl
  go_wp2_with (refine wpList_load_row rfl 27 (.tmp 2) rfl W.heap.size rfl 27 #[.int .i64 xa, .int .i64 xb, .int .i64 xc, .int .i64 xg, .int .i64 xh, .int .i64 xi, .int .i64 xj, .string xd, .int .i64 xe, .slice ao n c] (0, 0) _ HX1.out Try.underlying27 rfl size27 ?_)
  refine (HLG.out _ HB1.out).mono ?_
  rintro e w2 ⟨lg, hlg, rfl, hb2⟩
  have HX2 := Lib.hid ((hb2.block _ hal).trans HX1.out)
  have HB2 := Lib.hid (HB1.out.trans (hb2.mono HB1.out.size))
  have hc92 := cell_later hb2 hc9
  have hal2 := lt_of_heap HX2.out
  clear hc9 hb2
  cases lg with
  | true =>
    go_wp2_with fail
    go_ret
    exact ⟨rfl, HB2.out⟩
  | false =>
    obtain ⟨k1, k2, k3⟩ := hlg rfl
    have HKK := Lib.hid (hlg rfl)
    clear k2 k3 hlg
    rw [HNL.out] at k1
    have HR := Lib.hid (HRS.out _ HB2.out k1)
    generalize hrs : risS x0.names = rs at *
    have HRB := Lib.hid hrs
    clear hrs
    go_wp2_with fail
    refine HR.out.mono ?_
    rintro e w3 ⟨rfl, dr, rfl⟩
    have HX3 := Lib.hid (((below_drew (Below.refl w2.heap.size w2) dr).block _ hal2).trans HX2.out)
    have HB3 := Lib.hid (HB2.out.trans (below_drew (Below.refl w2.heap.size w2) dr |>.mono HB2.out.size))
    generalize w2.drewN dr = w3 at *
    clear hc92 HR
    cases rs with
    | false =>
      go_wp2_with fail
      go_ret
      exact ⟨rfl, HB3.out⟩
    | true =>
      have HRIS := Lib.hid ((risS_iff _).1 HRB.out)
      by_cases hm : 60 < m
      · have g1 : decide (60 < (m : Int)) = true := by simp; omega
        go_wp2_with fail
        go_ret
        exact ⟨rfl, HB3.out⟩
      · have g1 : decide (60 < (m : Int)) = false := by simp; omega
        have HM := Lib.hid hm
        clear hm
        go_upto_region 5 with (fail)
        go_wp2_with (refine wpList_load_row rfl 27 (.tmp 2) rfl W.heap.size rfl 27 #[.int .i64 xa, .int .i64 xb, .int .i64 xc, .int .i64 xg, .int .i64 xh, .int .i64 xi, .int .i64 xj, .string xd, .int .i64 xe, .slice ao n c] (0, 0) _ HX3.out Try.underlying27 rfl size27 ?_)
        refine (HND.out _).mono ?_
        rintro e w4 ⟨rfl, hb4⟩
        have HX4 := Lib.hid ((hb4.block _ (lt_of_heap HX3.out)).trans HX3.out)
        have HB4 := Lib.hid (HB3.out.trans (hb4.mono HB3.out.size))
        clear hb4 g1 k1
        go_upto_region 6 with (fail)
        have hbd : Below w4.heap.size w4 (w4.alloc (.cells #[.int .i64 xa, .int .i64 xb, .int .i64 xc, .int .i64 xg, .int .i64 xh, .int .i64 xi, .int .i64 xj, .string xd, .int .i64 xe, .slice ao n c] 36)) := (Below.refl _ _).alloc (Nat.le_refl _) _
        have HD5 : Hid ((w4.alloc (.cells #[.int .i64 xa, .int .i64 xb, .int .i64 xc, .int .i64 xg, .int .i64 xh, .int .i64 xi, .int .i64 xj, .string xd, .int .i64 xe, .slice ao n c] 36)).heap[w4.heap.size]? = some (.cells #[.int .i64 xa, .int .i64 xb, .int .i64 xc, .int .i64 xg, .int .i64 xh, .int .i64 xi, .int .i64 xj, .string xd, .int .i64 xe, .slice ao n c] 36 (0, 0))) := Lib.hid (heap_new _ _)
        have HX5 := Lib.hid ((hbd.block _ (lt_of_heap HX4.out)).trans HX4.out)
        have HB5 := Lib.hid (HB4.out.trans (hbd.mono HB4.out.size))
        have had : W.heap.size < w4.heap.size := lt_of_heap HX4.out
        generalize (w4.alloc (.cells #[.int .i64 xa, .int .i64 xb, .int .i64 xc, .int .i64 xg, .int .i64 xh, .int .i64 xi, .int .i64 xj, .string xd, .int .i64 xe, .slice ao n c] 36)) = w5 at *
        generalize w4.heap.size = d at *
        have hc95 : w5.cell? ⟨W.heap.size, 9, none⟩ = some (.slice ao n c) := by rw [cell_heap HX5.out]; rfl
        have hd5 : d < w5.heap.size := lt_of_heap HD5.out
        clear hbd
        have hnn := Lib.hid (HI.out.below HB5.out).len
        have hca5 : ∀ o : Obj, (w5.alloc o).cell? ⟨W.heap.size, 9, none⟩ = some (.slice ao n c) := fun o => cell_later ((Below.refl _ _).alloc (Nat.le_refl _) o) hc95
        have HK1 := Lib.hid (show n ≤ 40 by rw [← HNL.out]; exact (HKK.out).1)
        have hk1 := HK1.out
        go_upto_region 7 with (at_builtin; refine wpList_append_texts rfl _ _ 22 rfl (d + 1) 9 Try.underlying22 info9 _ [] rfl (own_newS w5 (d + 1) hd5 _ rfl) _ _ _ x0.names rfl ((HI.out.below HB5.out).alloc _) (by have := hnn.out; simp; omega) (by simp; omega) ?_; intro v6 w6 hown6 hgr6 hb6; have hb56 : Below (d + 1) w5 w6 := ((Below.refl _ _).alloc hd5 _).trans hb6; have hc96 : w6.cell? ⟨W.heap.size, 9, none⟩ = some (.slice ao n c) := (World.cell?_of_block (hb56.block _ (by show W.heap.size < d + 1; omega))).trans hc95; have hf96 : w6.frozen? ⟨W.heap.size, 9, none⟩ = false := free_heap ((hb56.block _ (by omega)).trans HX5.out) 9; have HB56 := Lib.hid hb56; rw [List.nil_append] at hown6; have HO6 := Lib.hid hown6; obtain ⟨yo, yc, rfl, hyc, _⟩ := rows_shape hown6; clear hown6 hgr6 hb6 hb56)
        have HPL : Hid (Pl W (w6.setCell ⟨W.heap.size, 9, none⟩ (.slice yo x0.names.length yc)) W.heap.size d x0 0) := Lib.hid (by
          have ho : Only [W.heap.size] w6 (w6.setCell ⟨W.heap.size, 9, none⟩ (.slice yo x0.names.length yc)) := (Only.refl _ _).setCell (by simp) _
          have hx6 := (HB56.out.block W.heap.size (by omega)).trans HX5.out
          have hd6 := (HB56.out.block d (by omega)).trans HD5.out
          obtain ⟨zo, zc, hz, hzs⟩ := HO6.out.isS
          simp only [Value.slice.injEq, true_and] at hz
          obtain ⟨rfl, rfl⟩ := hz
          have hb6 : Below W.heap.size W w6 := HB5.out.trans (HB56.out.mono (by omega))
          refine ⟨⟨⟨yo, x0.names.length, yc, ?_, isS_keep hzs ho (fun p hp hm => ?_), by rw [HNL.out]; omega, fun p hp => ⟨fun hm => ?_, ?_⟩⟩, by simp⟩, ⟨⟨ao, n, c, ?_, isS_keep0 (A := [W.heap.size]) (HI.out.below hb6) ho (HPB.out.imp id (fun h p hp hm => by have := h p hp; simp at hm; omega)) (by simp), HNC.out, HPB.out.imp id (fun h p hp hm => by have := h p hp; simp at hm; omega)⟩, by simp⟩, HWF.out, HRIS.out, by rw [HNL.out]; omega, below_of_only hb6 ho (Nat.le_refl _) (Nat.le_refl _), ⟨Nat.le_refl _, by omega, ?_, ?_⟩, by omega⟩
          · rw [show cellsN x0 (.slice yo x0.names.length yc) = #[.int .i64 xa, .int .i64 xb, .int .i64 xc, .int .i64 xg, .int .i64 xh, .int .i64 xi, .int .i64 xj, .string xd, .int .i64 xe, .slice yo x0.names.length yc] by rw [← HXX.out]; rfl]
            exact heap_set hx6 9 _
          · subst hp
            have := (HO6.out.lt p.block rfl).1
            simp at hm; omega
          · subst hp
            have := (HO6.out.lt p.block rfl).1
            simp at hm; omega
          · subst hp
            have := (HO6.out.lt p.block rfl).2
            have := ho.size
            omega
          · rw [HCX.out]
            exact ho.keeps hd6 (by simp; omega)
          · have := ho.size; have := HB56.out.size; omega
          · have := ho.size; have := HB56.out.size; omega)
        clear HO6 HB56 HD5 HX5 HX4 HX3 HX2 HX1 HB1 HB2 HB3 HB4 HB5 hc95 hc96 hf96 hca5 hyc hk1 HKK
        generalize (w6.setCell ⟨W.heap.size, 9, none⟩ (.slice yo x0.names.length yc)) = w7 at *
        generalize W.heap.size = a at *
        go_wp2_with fail
        have hm60 := HM.out
        go_loopw [6] (fun i wr => ∃ k : Nat, k ≤ m ∧ i = .int .i64 (k : Int) ∧ ∃ s, Pl W wr a d s k) (fun i _ => m - (intOf i).toNat)
        case atStart => exact ⟨0, by omega, rfl, x0, HPL.out⟩
        case round =>
          clear HPL HWF HRIS HXX HCX HND
          obtain ⟨k, hk, rfl, s, hpl⟩ := hrel
          have HP := Lib.hid hpl; clear hpl
          by_cases hlt : k < m
          · obtain ⟨xb', xo', rfl, hx0, hx1, hx2, hok⟩ := act_cells HA.out hlt
            have b0 := cell_later HP.out.bl hx0
            have b1 := cell_later HP.out.bl hx1
            have b2 := cell_later HP.out.bl hx2
            clear hx0 hx1 hx2
            generalize getA l k = y at *
            cases y with
            | mk yop yn ys =>
            simp only [Ac.ok] at b0 b1 b2 hok
            go_upto_region 11 with (fail)
            have hbx : Below wr.heap.size wr (wr.alloc (.cells #[.int .i64 yop, .int .i64 yn, .string ys] 39)) := (Below.refl _ _).alloc (Nat.le_refl _) _
            have HX : Hid ((wr.alloc (.cells #[.int .i64 yop, .int .i64 yn, .string ys] 39)).heap[wr.heap.size]? = some (.cells #[.int .i64 yop, .int .i64 yn, .string ys] 39 (0, 0))) := Lib.hid (heap_new _ _)
            have HPX := Lib.hid (HP.out.below hbx)
            have haX : a < wr.heap.size ∧ d < wr.heap.size := ⟨HP.out.sz.2.2.1, HP.out.sz.2.2.2⟩
            clear hbx b0 b1 b2
            generalize (wr.alloc (.cells #[.int .i64 yop, .int .i64 yn, .string ys] 39)) = wx at *
            generalize wr.heap.size = X at *
            obtain ⟨haX, hdX⟩ := haX
            have e0 : wx.cell? ⟨X, 0, none⟩ = some (.int .i64 yop) := by rw [cell_heap HX.out]; rfl
            have e1 : wx.cell? ⟨X, 1, none⟩ = some (.int .i64 yn) := by rw [cell_heap HX.out]; rfl
            have e2 : wx.cell? ⟨X, 2, none⟩ = some (.string ys) := by rw [cell_heap HX.out]; rfl
            by_cases hys : 200 < ys.size
            · have g2 : decide (200 < (ys.size : Int)) = true := by simp; omega
              go_wp2_with fail
              go_ret
              exact ⟨rfl, HPX.out.bl⟩
            · have g2 : decide (200 < (ys.size : Int)) = false := by simp; omega
              go_upto_block 2 with (fail)
              go_cut [8, 9] (fun p q wx => ∃ b t, p = .bool b ∧ q = .bool b ∧ Pl W wx a d t (k + 1))
              case first =>
                have hlen9 := HPX.out.len
                by_cases h0 : yop = 0
                · have g3 : (yop == 0) = true := by simpa using h0
                  clear h0
                  go_wp2_with fail
                  refine (write_any [a, d] a s yn ys wx HPX.out.nd HPX.out.wf).mono ?_
                  rintro e v1 ⟨rfl, hi1, ho1⟩
                  have HPH := Lib.hid (HPX.out.half hi1 ho1)
                  have HX1 := Lib.hid (ho1.keeps HX.out (by simp; omega))
                  have k0 : v1.cell? ⟨X, 0, none⟩ = some (.int .i64 yop) := by rw [cell_heap HX1.out]; rfl
                  have k1 : v1.cell? ⟨X, 1, none⟩ = some (.int .i64 yn) := by rw [cell_heap HX1.out]; rfl
                  have k2 : v1.cell? ⟨X, 2, none⟩ = some (.string ys) := by rw [cell_heap HX1.out]; rfl
                  obtain ⟨⟨ro, rn, rc, hr1, hr2, hr3, hr4⟩, _⟩ := HPH.out.rf
                  have HR1 := Lib.hid hr1; have HR2 := Lib.hid hr2; have HR4 := Lib.hid hr4
                  have HRN := Lib.hid hr2.len
                  clear hi1 ho1 hr1 hr2 hr4 e0 e1 e2
                  have hlen := HPX.out.len
                  go_wp2_with (refine wpList_load_row rfl 36 (.tmp 5) rfl d rfl 36 (cellsN s (.slice ro rn rc)) (0, 0) _ HR1.out Try.underlying36 rfl size36 ?_)
                  refine (rwrite_any s ro rn rc yn ys v1 HPX.out.wf).mono ?_
                  rintro e v2 ⟨rfl, hb2⟩
                  have HRD := Lib.hid ((hb2.block d (lt_of_heap HR1.out)).trans HR1.out)
                  have HB2 := Lib.hid hb2; clear hb2
                  go_wp2_with (refine wpList_store_row rfl 36 (.tmp 5) (.tmp 70) rfl d (cellsN (writeZ s yn ys) (.slice ro rn rc)) rfl rfl 36 _ HRD.out size36 rfl (cellsN_ones _ _ _ _) ?_)
                  go_meet
                  exact ⟨true, writeZ s yn ys, rfl, rfl, Ph.laid (j := k + 1) HPH.out HR1.out HR4.out HB2.out (HR2.out.below HB2.out) hr3 (fun p hp => .inl ⟨rfl, rfl⟩) (writeZ_wf HPX.out.wf _ _) HPX.out.ris (by show s.names.length ≤ _; omega)⟩
                · have g3 : (yop == 0) = false := by simpa using h0
                  by_cases h1 : yop = 1
                  · have g4 : (yop == 1) = true := by simpa using h1
                    clear h0 h1
                    go_wp2_with fail
                    refine (add_any [a, d] a s ys wx HPX.out.nd HPX.out.wf (by simpa using ⟨HPX.out.sz.2.2.1, HPX.out.sz.2.2.2⟩) (by omega)).mono ?_
                    rintro e v1 ⟨rfl, hi1, ho1⟩
                    have HPH := Lib.hid (HPX.out.half hi1 ho1)
                    have HX1 := Lib.hid (ho1.keeps HX.out (by simp; omega))
                    have k0 : v1.cell? ⟨X, 0, none⟩ = some (.int .i64 yop) := by rw [cell_heap HX1.out]; rfl
                    have k1 : v1.cell? ⟨X, 1, none⟩ = some (.int .i64 yn) := by rw [cell_heap HX1.out]; rfl
                    have k2 : v1.cell? ⟨X, 2, none⟩ = some (.string ys) := by rw [cell_heap HX1.out]; rfl
                    obtain ⟨⟨ro, rn, rc, hr1, hr2, hr3, hr4⟩, _⟩ := HPH.out.rf
                    have HR1 := Lib.hid hr1; have HR2 := Lib.hid hr2; have HR4 := Lib.hid hr4
                    have HRN := Lib.hid hr2.len
                    clear hi1 ho1 hr1 hr2 hr4 e0 e1 e2
                    have hlen := HPX.out.len
                    go_wp2_with (refine wpList_load_row rfl 36 (.tmp 5) rfl d rfl 36 (cellsN s (.slice ro rn rc)) (0, 0) _ HR1.out Try.underlying36 rfl size36 ?_)
                    refine (radd_any s ro rn rc ys v1 HPX.out.wf HR2.out hr3 (by rw [← HRN.out]; omega) HPX.out.ris).mono ?_
                    rintro e v2 ⟨ro2, rc2, rfl, hs2, hc2, hp2, hb2⟩
                    have HRD := Lib.hid ((hb2.block d (lt_of_heap HR1.out)).trans HR1.out)
                    have HB2 := Lib.hid hb2; have HS2 := Lib.hid hs2; have HP2 := Lib.hid hp2; clear hb2 hs2 hp2
                    go_wp2_with (refine wpList_store_row rfl 36 (.tmp 5) (.tmp 81) rfl d (cellsN (addZ s ys) (.slice ro2 (addZ s ys).names.length rc2)) rfl rfl 36 _ HRD.out size36 rfl (cellsN_ones _ _ _ _) ?_)
                    go_meet
                    exact ⟨(!hereS s.names ys), addZ s ys, rfl, rfl, Ph.laid (j := k + 1) HPH.out HR1.out HR4.out HB2.out HS2.out hc2 HP2.out (addZ_wf HPX.out.wf _) (addZ_ris HPX.out.ris _) (Nat.le_trans (addZ_len s ys) (by omega))⟩
                  · have g4 : (yop == 1) = false := by simpa using h1
                    clear h0 h1
                    go_wp2_with fail
                    refine (remove_any [a, d] a s ys wx HPX.out.nd HPX.out.wf (by simpa using ⟨HPX.out.sz.2.2.1, HPX.out.sz.2.2.2⟩) (by omega)).mono ?_
                    rintro e v1 ⟨rfl, hi1, ho1⟩
                    have HPH := Lib.hid (HPX.out.half hi1 ho1)
                    have HX1 := Lib.hid (ho1.keeps HX.out (by simp; omega))
                    have k0 : v1.cell? ⟨X, 0, none⟩ = some (.int .i64 yop) := by rw [cell_heap HX1.out]; rfl
                    have k1 : v1.cell? ⟨X, 1, none⟩ = some (.int .i64 yn) := by rw [cell_heap HX1.out]; rfl
                    have k2 : v1.cell? ⟨X, 2, none⟩ = some (.string ys) := by rw [cell_heap HX1.out]; rfl
                    obtain ⟨⟨ro, rn, rc, hr1, hr2, hr3, hr4⟩, _⟩ := HPH.out.rf
                    have HR1 := Lib.hid hr1; have HR2 := Lib.hid hr2; have HR4 := Lib.hid hr4
                    have HRN := Lib.hid hr2.len
                    clear hi1 ho1 hr1 hr2 hr4 e0 e1 e2
                    have hlen := HPX.out.len
                    go_wp2_with (refine wpList_load_row rfl 36 (.tmp 5) rfl d rfl 36 (cellsN s (.slice ro rn rc)) (0, 0) _ HR1.out Try.underlying36 rfl size36 ?_)
                    refine (rremove_any s ro rn rc ys v1 HPX.out.wf HR2.out hr3 (by rw [← HRN.out]; omega) HPX.out.ris).mono ?_
                    rintro e v2 ⟨ro2, rc2, rfl, hs2, hc2, hp2, hb2⟩
                    have HRD := Lib.hid ((hb2.block d (lt_of_heap HR1.out)).trans HR1.out)
                    have HB2 := Lib.hid hb2; have HS2 := Lib.hid hs2; have HP2 := Lib.hid hp2; clear hb2 hs2 hp2
                    go_wp2_with (refine wpList_store_row rfl 36 (.tmp 5) (.tmp 56) rfl d (cellsN (removeZ s ys) (.slice ro2 (removeZ s ys).names.length rc2)) rfl rfl 36 _ HRD.out size36 rfl (cellsN_ones _ _ _ _) ?_)
                    go_meet
                    exact ⟨(hereS s.names ys), removeZ s ys, rfl, rfl, Ph.laid (j := k + 1) HPH.out HR1.out HR4.out HB2.out HS2.out hc2 HP2.out (removeZ_wf HPX.out.wf _) (removeZ_ris HPX.out.ris _) (Nat.le_trans (removeZ_len s ys) (by omega))⟩
              case rest =>
                obtain ⟨b, s2, rfl, rfl, hp2⟩ := hcut
                clear HPX HX HP e0 e1 e2 g2
                have HP2 := Lib.hid hp2
                have hlen2 := hp2.len
                obtain ⟨no, nc, HROWN, HSN⟩ := hp2.nd.row_of
                obtain ⟨ro, rc, HROWR, HSR⟩ := hp2.rf.row_of
                have HEP := Lib.hid (fun (w' : World) (hb : Below wc.heap.size wc w') => eph_any [a, d] a s2 w' (hp2.nd.below hb))
                have HOW := Lib.hid (fun (w' : World) (hb : Below wc.heap.size wc w') => (show w'.cell? ⟨d, 4, none⟩ = some (.int .i64 s2.owner) by rw [cell_heap (HROWR.out w' hb)]; rfl))
                have hbb : (b != b) = false := by simp
                generalize hob : (s2.owner != 0) = ob at *
                have hoo : (ob != ob) = false := by simp
                clear hp2
                go_wp2_with fail
                refine wp_region_held_drew (S := fun w' => Below wc.heap.size wc w') (by kernel_rfl) (below_drew (Below.refl _ _) 1) (fun hHeld => ?_)
                refine wpAnyH_take (i := 0) (oi := { dst := some 83, op := Op.move (Operand.tmp 8), type := 4, pos := _, after := #[], guard := none }) (v := ?_) rfl (by kernel_rfl) (by kernel_rfl) (by kernel_rfl) (fun _ _ _ h => h) (Or.inl ⟨by rfl, ?_⟩) (by exact hHeld) ?_
                rotate_left
                · (intro w hSw; go_simp <;> with_reducible rfl)
                try simp only [Act.put, List.setIfInBounds_toArray, List.set_cons_zero, List.set_cons_succ]
                refine wpAnyH_take (i := 1) (oi := { dst := some 84, op := Op.move (Operand.tmp 9), type := 4, pos := _, after := #[], guard := none }) (v := ?_) rfl (by kernel_rfl) (by kernel_rfl) (by kernel_rfl) (fun _ _ _ h => h) (Or.inl ⟨by rfl, ?_⟩) (by exact hHeld) ?_
                rotate_left
                · (intro w hSw; go_simp <;> with_reducible rfl)
                try simp only [Act.put, List.setIfInBounds_toArray, List.set_cons_zero, List.set_cons_succ]
                refine wpAnyH_take (i := 2) (oi := { dst := some 85, op := Op.binOp BinOp.neq 4 (Operand.tmp 83) (Operand.tmp 84) 4, type := 4, pos := _, after := #[{ on := 0, ground := Ground.data }, { on := 1, ground := Ground.data }], guard := none }) (v := ?_) rfl (by kernel_rfl) (by kernel_rfl) (by kernel_rfl) (fun _ _ _ h => h) (Or.inl ⟨by rfl, ?_⟩) (by exact hHeld) ?_
                rotate_left
                · (intro w hSw; go_simp <;> with_reducible rfl)
                try simp only [Act.put, List.setIfInBounds_toArray, List.set_cons_zero, List.set_cons_succ]
                refine wpAnyH_take (i := 3) (oi := { dst := some 86, op := Op.move (Operand.tmp 85), type := 4, pos := _, after := #[{ on := 2, ground := Ground.data }], guard := none }) (v := ?_) rfl (by kernel_rfl) (by kernel_rfl) (by kernel_rfl) (fun _ _ _ h => h) (Or.inl ⟨by rfl, ?_⟩) (by exact hHeld) ?_
                rotate_left
                · (intro w hSw; go_simp <;> with_reducible rfl)
                try simp only [Act.put, List.setIfInBounds_toArray, List.set_cons_zero, List.set_cons_succ]
                refine wpAnyH_take (i := 4) (oi := { dst := some 87, op := Op.load 27 (Operand.tmp 2), type := 27, pos := _, after := #[{ on := 3, ground := Ground.guard }], guard := some (3, false) }) (v := ?_) rfl (by kernel_rfl) (by kernel_rfl) (by kernel_rfl) (fun _ _ _ h => h) (Or.inl ⟨by rfl, ?_⟩) (by exact hHeld) ?_
                rotate_left
                · (intro w hSw; refine load27 (.tmp 2) ?_ _ ?_ (cellsN s2 (.slice no s2.names.length nc)) (HROWN.out w hSw) rfl <;> rfl)
                try simp only [Act.put, List.setIfInBounds_toArray, List.set_cons_zero, List.set_cons_succ]
                refine wpAnyH_take (i := 6) (oi := { dst := some 89, op := Op.load 36 (Operand.tmp 5), type := 36, pos := _, after := #[{ on := 3, ground := Ground.guard }], guard := some (3, false) }) (v := ?_) rfl (by kernel_rfl) (by kernel_rfl) (by kernel_rfl) (fun _ _ _ h => h) (Or.inl ⟨by rfl, ?_⟩) (by exact hHeld) ?_
                rotate_left
                · (intro w hSw; refine load36 (.tmp 5) ?_ _ ?_ (cellsN s2 (.slice ro s2.names.length rc)) (HROWR.out w hSw) rfl <;> rfl)
                try simp only [Act.put, List.setIfInBounds_toArray, List.set_cons_zero, List.set_cons_succ]
                refine wpAnyH_ready (rs := [5]) (by kernel_rfl) (by simp) ?_
                refine AllReadyH.cons (o := { dst := some 88, op := Op.call { callee := Callee.value (Operand.func 16), args := #[Operand.tmp 87], argTypes := #[27] }, type := 36, pos := _, after := #[{ on := 4, ground := Ground.data }, { on := 3, ground := Ground.chain }, { on := 3, ground := Ground.guard }], guard := some (3, false) }) rfl (fun K hK => ?_) AllReadyH.nil
                go_simp
                refine (nd_any s2 no s2.names.length nc _).mono ?_
                rintro e u1 ⟨rfl, hb1⟩
                have hB1 : Below wc.heap.size wc u1 := (below_drew (Below.refl _ _) 1).trans hb1
                go_wp2_with fail
                refine hK.out _ _ hB1 (fun hHeld => ?_)
                clear hK K
                try simp only [Act.put, List.setIfInBounds_toArray, List.set_cons_zero, List.set_cons_succ]
                refine wpAnyH_ready (rs := [7]) (by kernel_rfl) (by simp) ?_
                refine AllReadyH.cons (o := { dst := some 90, op := Op.call { callee := Callee.value (Operand.func 20), args := #[Operand.tmp 88, Operand.tmp 89], argTypes := #[36, 36] }, type := 4, pos := _, after := #[{ on := 5, ground := Ground.data }, { on := 6, ground := Ground.data }, { on := 5, ground := Ground.chain }, { on := 3, ground := Ground.guard }], guard := some (3, false) }) rfl (fun K hK => ?_) AllReadyH.nil
                go_simp
                refine (same20_any s2 s2 no s2.names.length nc ro s2.names.length rc _ (HSN.out _ hB1) (HSR.out _ hB1) (by omega) (by omega)).mono ?_
                rw [show decide (s2 = s2) = true from by simp]
                rintro e u2 ⟨rfl, hb2⟩
                have hB2 : Below wc.heap.size wc u2 := hB1.trans (hb2.mono hB1.size)
                go_wp2_with fail
                refine hK.out _ _ hB2 (fun hHeld => ?_)
                clear hK K
                try simp only [Act.put, List.setIfInBounds_toArray, List.set_cons_zero, List.set_cons_succ]
                refine wpAnyH_take (i := 8) (oi := { dst := some 91, op := Op.unOp UnOp.not 4 (Operand.tmp 90), type := 4, pos := _, after := #[{ on := 7, ground := Ground.data }, { on := 3, ground := Ground.guard }], guard := some (3, false) }) (v := ?_) rfl (by kernel_rfl) (by kernel_rfl) (by kernel_rfl) (fun _ _ _ h => h) (Or.inl ⟨by rfl, ?_⟩) (by exact hHeld) ?_
                rotate_left
                · (intro w hSw; go_simp <;> with_reducible rfl)
                try simp only [Act.put, List.setIfInBounds_toArray, List.set_cons_zero, List.set_cons_succ]
                refine wpAnyH_take (i := 9) (oi := { dst := some 92, op := Op.pick (Operand.tmp 86) (Operand.const (Value.bool true)) (Operand.tmp 91), type := 4, pos := _, after := #[{ on := 3, ground := Ground.data }, { on := 8, ground := Ground.data }], guard := none }) (v := ?_) rfl (by kernel_rfl) (by kernel_rfl) (by kernel_rfl) (fun _ _ _ h => h) (Or.inl ⟨by rfl, ?_⟩) (by exact hHeld) ?_
                rotate_left
                · (intro w hSw; go_simp <;> with_reducible rfl)
                try simp only [Act.put, List.setIfInBounds_toArray, List.set_cons_zero, List.set_cons_succ]
                refine wpAnyH_take (i := 10) (oi := { dst := some 93, op := Op.move (Operand.tmp 92), type := 4, pos := _, after := #[{ on := 9, ground := Ground.data }, { on := 7, ground := Ground.chain }], guard := none }) (v := ?_) rfl (by kernel_rfl) (by kernel_rfl) (by kernel_rfl) (fun _ _ _ h => h) (Or.inl ⟨by rfl, ?_⟩) (by exact hHeld) ?_
                rotate_left
                · (intro w hSw; go_simp <;> with_reducible rfl)
                try simp only [Act.put, List.setIfInBounds_toArray, List.set_cons_zero, List.set_cons_succ]
                refine wpAnyH_take (i := 12) (oi := { dst := some 95, op := Op.fieldAddr 36 (Operand.tmp 5) 0, type := 0, pos := _, after := #[{ on := 10, ground := Ground.guard }], guard := some (10, false) }) (v := ?_) rfl (by kernel_rfl) (by kernel_rfl) (by kernel_rfl) (fun _ _ _ h => h) (Or.inl ⟨by rfl, ?_⟩) (by exact hHeld) ?_
                rotate_left
                · (intro w hSw; go_simp <;> with_reducible rfl)
                try simp only [Act.put, List.setIfInBounds_toArray, List.set_cons_zero, List.set_cons_succ]
                refine wpAnyH_take (i := 13) (oi := { dst := some 96, op := Op.fieldAddr 25 (Operand.tmp 95) 4, type := 0, pos := _, after := #[{ on := 12, ground := Ground.data }, { on := 10, ground := Ground.guard }], guard := some (10, false) }) (v := ?_) rfl (by kernel_rfl) (by kernel_rfl) (by kernel_rfl) (fun _ _ _ h => h) (Or.inl ⟨by rfl, ?_⟩) (by exact hHeld) ?_
                rotate_left
                · (intro w hSw; go_simp <;> with_reducible rfl)
                try simp only [Act.put, List.setIfInBounds_toArray, List.set_cons_zero, List.set_cons_succ]
                refine wpAnyH_take (i := 14) (oi := { dst := some 97, op := Op.load 2 (Operand.tmp 96), type := 2, pos := _, after := #[{ on := 13, ground := Ground.data }, { on := 10, ground := Ground.guard }], guard := some (10, false) }) (v := ?_) rfl (by kernel_rfl) (by kernel_rfl) (by kernel_rfl) (fun _ _ _ h => h) (Or.inl ⟨by rfl, ?_⟩) (by exact hHeld) ?_
                rotate_left
                · (intro w hSw; have ho4 := HOW.out w hSw; go_simp <;> with_reducible rfl)
                try simp only [Act.put, List.setIfInBounds_toArray, List.set_cons_zero, List.set_cons_succ]
                refine wpAnyH_take (i := 15) (oi := { dst := some 98, op := Op.binOp BinOp.neq 2 (Operand.tmp 97) (Operand.const (Value.int IntKind.i64 0)) 2, type := 4, pos := _, after := #[{ on := 14, ground := Ground.data }, { on := 10, ground := Ground.guard }], guard := some (10, false) }) (v := ?_) rfl (by kernel_rfl) (by kernel_rfl) (by kernel_rfl) (fun _ _ _ h => h) (Or.inl ⟨by rfl, ?_⟩) (by exact hHeld) ?_
                rotate_left
                · (intro w hSw; go_simp <;> with_reducible rfl)
                try simp only [Act.put, List.setIfInBounds_toArray, List.set_cons_zero, List.set_cons_succ]
                refine wpAnyH_ready (rs := [11]) (by kernel_rfl) (by simp) ?_
                refine AllReadyH.cons (o := { dst := some 94, op := Op.call { callee := Callee.value (Operand.func 21), args := #[Operand.tmp 2], argTypes := #[27] }, type := 4, pos := _, after := #[{ on := 10, ground := Ground.chain }, { on := 10, ground := Ground.guard }], guard := some (10, false) }) rfl (fun K hK => ?_) AllReadyH.nil
                go_simp
                refine (HEP.out _ hB2).mono ?_
                rintro e u3 ⟨rfl, rfl⟩
                go_wp2_with fail
                refine hK.out _ _ hB2 (fun hHeld => ?_)
                clear hK K
                try simp only [Act.put, List.setIfInBounds_toArray, List.set_cons_zero, List.set_cons_succ]
                refine wpAnyH_take (i := 16) (oi := { dst := some 99, op := Op.binOp BinOp.neq 4 (Operand.tmp 94) (Operand.tmp 98) 4, type := 4, pos := _, after := #[{ on := 11, ground := Ground.data }, { on := 15, ground := Ground.data }, { on := 10, ground := Ground.guard }], guard := some (10, false) }) (v := ?_) rfl (by kernel_rfl) (by kernel_rfl) (by kernel_rfl) (fun _ _ _ h => h) (Or.inl ⟨by rfl, ?_⟩) (by exact hHeld) ?_
                rotate_left
                · (intro w hSw; go_simp <;> with_reducible rfl)
                try simp only [Act.put, List.setIfInBounds_toArray, List.set_cons_zero, List.set_cons_succ]
                refine wpAnyH_take (i := 17) (oi := { dst := some 100, op := Op.pick (Operand.tmp 93) (Operand.const (Value.bool true)) (Operand.tmp 99), type := 4, pos := _, after := #[{ on := 10, ground := Ground.data }, { on := 16, ground := Ground.data }], guard := none }) (v := ?_) rfl (by kernel_rfl) (by kernel_rfl) (by kernel_rfl) (fun _ _ _ h => h) (Or.inl ⟨by rfl, ?_⟩) (by exact hHeld) ?_
                rotate_left
                · (intro w hSw; go_simp <;> with_reducible rfl)
                try simp only [Act.put, List.setIfInBounds_toArray, List.set_cons_zero, List.set_cons_succ]
                refine wpAnyH_done (by kernel_rfl) ?_ _
                have hBZ := hB2
                clear hob hHeld
                go_wp2_with fail
                go_roundw
                case rel => exact ⟨k + 1, by omega, by go_num, s2, HP2.out.below hBZ⟩
                case measure => simp [intOf]; omega
          · obtain rfl : k = m := by omega
            go_wp2_with fail
            go_ret
            exact ⟨rfl, HP.out.bl⟩
theorem plays_said (x : Nd) (ao : Option Addr) (n c : Nat) (lo : Option Addr) (m c2 : Nat) (l : List Ac) (W : World) (h : IsS W ao n c x.names) (hnc : n ≤ c) (hc : c * 16 ≤ 140737488351232) (hwf : WfA x) (h2 : IsActs W lo m l) (_ : m ≤ c2) :
    Calls Try.prog 5 #[aggN x (.slice ao n c), .slice lo m c2] W fun e w' => e = .returned (.bool true) ∧ Below W.heap.size W w' :=
  plays_walk x ao n c lo m c2 l W h hnc (by omega) hwf.wf h2
end Go.Proofs.Ytaoligpckpabfaa
