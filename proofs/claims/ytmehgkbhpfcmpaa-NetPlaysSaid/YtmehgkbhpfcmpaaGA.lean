/-
  A message with texts is told; ways are cut and healed. No condition.
-/
import Derived.Test.YtmehgkbhpfcmpaaGM
import Derived.Test.YtmehgkbhpfcmpaaMapG
import Derived.StillTailTactics
namespace Go.Proofs.Ytmehgkbhpfcmpaa.G
open Go.RowKit Go.Proofs.Ytmehgkbhpfcmpaa

/-- five cells are stored -/
def put5 (w : World) (H : Nat) (f t k : Int) (v u : Value) : World :=
  ((((w.setCell ⟨H, 0, none⟩ (.int .i64 f)).setCell ⟨H, 1, none⟩ (.int .i64 t)).setCell ⟨H, 2, none⟩ (.int .i64 k)).setCell ⟨H, 3, none⟩ v).setCell ⟨H, 4, none⟩ u
def zeros5 : Obj := .cells #[.int .i64 0, .int .i64 0, .int .i64 0, .slice none 0 0, .slice none 0 0] 32
theorem put5_only (w : World) (H : Nat) (f t k : Int) (v u : Value) : Only [H] w (put5 w H f t k v u) :=
  (((((Only.refl _ _).setCell (by simp) _).setCell (by simp) _).setCell (by simp) _).setCell (by simp) _).setCell (by simp) _
theorem put5_heap {w : World} {H : Nat} (f t k : Int) (v u : Value) (h : w.heap[H]? = some zeros5) : (put5 w H f t k v u).heap[H]? = some (.cells #[.int .i64 f, .int .i64 t, .int .i64 k, v, u] 32 (0, 0)) := by
  have := heap_set (heap_set (heap_set (heap_set (heap_set h 0 (.int .i64 f)) 1 (.int .i64 t)) 2 (.int .i64 k)) 3 v) 4 u
  simpa [put5] using this
theorem zeros_cells {w : World} {H : Nat} (h : w.heap[H]? = some zeros5) : (w.cell? ⟨H, 0, none⟩ = some (.int .i64 0) ∧ w.cell? ⟨H, 1, none⟩ = some (.int .i64 0) ∧ w.cell? ⟨H, 2, none⟩ = some (.int .i64 0) ∧ w.cell? ⟨H, 3, none⟩ = some (.slice none 0 0) ∧ w.cell? ⟨H, 4, none⟩ = some (.slice none 0 0)) ∧
    (w.frozen? ⟨H, 0, none⟩ = false ∧ w.frozen? ⟨H, 1, none⟩ = false ∧ w.frozen? ⟨H, 2, none⟩ = false ∧ w.frozen? ⟨H, 3, none⟩ = false ∧ w.frozen? ⟨H, 4, none⟩ = false) := by
  refine ⟨⟨?_, ?_, ?_, ?_, ?_⟩, free_heap h 0, free_heap h 1, free_heap h 2, free_heap h 3, free_heap h 4⟩
  all_goals rw [cell_heap h]; rfl

/-- the k-th message of a row -/
theorem IsNet.at_ {w : World} {base a mb : Nat} {g : Option Nat} {s : Nt} {es : List ((Int × Int) × Bool)} (h : IsNet w base a mb g s es) {k : Nat} (hk : k < s.l.length) :
    ∃ b cap x v u, w.cell? ⟨a, 2, none⟩ = some (.slice (some ⟨b, 0, none⟩) s.l.length cap) ∧ g = some b ∧ s.l.length ≤ cap ∧ cap ≤ 9223372036854775807 ∧ base ≤ b ∧ b < w.heap.size ∧ x = s.l.getD k ⟨0, 0, 0, [], []⟩ ∧
      w.cell? ⟨b, k * 5, none⟩ = some (.int .i64 x.from_) ∧ w.cell? ⟨b, k * 5 + 1, none⟩ = some (.int .i64 x.to_) ∧ w.cell? ⟨b, k * 5 + 2, none⟩ = some (.int .i64 x.kind) ∧ w.cell? ⟨b, k * 5 + 3, none⟩ = some v ∧ w.cell? ⟨b, k * 5 + 4, none⟩ = some u ∧
      OwnM w base x v u ∧ v.oneCell' = true ∧ u.oneCell' = true := by
  obtain ⟨⟨v, ps, h1, h2, h3, h4⟩, _⟩ := h
  obtain ⟨b, cap, rfl, hb1, hb2, hc1, hc2, hl, hcell⟩ := row_cell h2 (by omega)
  have hc0 : w.cell? ⟨a, 2, none⟩ = some (.slice (some ⟨b, 0, none⟩) s.l.length cap) := by rw [cell_heap h1]; rfl
  have hkp : k < ps.length := by omega
  have hx : (ps.getD k mv0).m = s.l.getD k ⟨0, 0, 0, [], []⟩ := by
    rw [← h4.ms]
    simp [List.getD_eq_getElem?_getD, hkp]
  have hmem : ps.getD k mv0 ∈ ps := by simp [List.getD_eq_getElem?_getD, hkp]
  have hown := h4.own _ hmem
  have hone := h4.one _ hmem
  exact ⟨b, cap, _, _, _, hc0, h3.symm, hc1, hc2, hb1, hb2, hx, hcell k 0 hk (by decide), hcell k 1 hk (by decide), hcell k 2 hk (by decide), hcell k 3 hk (by decide), hcell k 4 hk (by decide), hown, hone.1, hone.2⟩

def m0 : Mg := ⟨0, 0, 0, [], []⟩
theorem results_msg {fn : Func} {p u : Tmp} (h : fn.results = #[.cell p 32, .tmp u]) (tmps : Array Value) (w : World) (g : Nat) (m : Mg) (v1 v2 : Value) (x : Value)
    (hp : tmps.getD p undef = .pointer (some ⟨g, 0, none⟩)) (hx : tmps.getD u undef = x) (hg : w.heap[g]? = some (.cells (cellsM m v1 v2) 32 (0, 0))) :
    (results fn tmps).run Try.prog w = .ok (.tuple #[aggM m v1 v2, x]) w :=
  Go.Proofs.Ytmehgkbhpfcmpaa.results_row_tmp h tmps w g _ _ _ _ _ x hp hx hg
section
variable {w : World} {base a mb : Nat} {g : Option Nat} {s : Nt} {es : List ((Int × Int) × Bool)}
set_option maxHeartbeats 1000000 in
theorem at_none (h : IsNet w base a mb g s es) (x : Int) (hx : hasN s x = false) :
    Calls Try.prog 14 #[.pointer (some ⟨a, 0, none⟩), .int .i64 x] w fun e w' => e = .returned (.tuple #[aggM m0 (.slice none 0 0) (.slice none 0 0), .bool false]) ∧ Below w.heap.size w w' := by
  have HH := Lib.hid (has_any (h.below ((Below.refl _ _).alloc (Nat.le_refl _) zeros5)) x)
  rw [hx] at HH
  unfold zeros5 at HH
  clear h hx
  have hz := zeros_cells (heap_new w zeros5)
  obtain ⟨⟨z0, z1, z2, z3, z4⟩, f0, f1, f2, f3, f4⟩ := hz
  unfold zeros5 at z0 z1 z2 z3 z4 f0 f1 f2 f3 f4
  go_enter Try.func14, Try.ntmps14
  go_wp2_with fail
  refine HH.out.mono ?_
  rintro e w1 ⟨rfl, rfl⟩
  go_wp2_with fail
  (try simp only [Exit.inBlock, Exit.then])
  exact bodyPost_ret (results_msg (fn := Try.f14) rfl _ _ w.heap.size m0 _ _ _ rfl rfl (heap_new _ _)) rfl ⟨rfl, (Below.refl _ _).alloc (Nat.le_refl _) _⟩
set_option maxHeartbeats 2000000 in
theorem at_some (h : IsNet w base a mb g s es) (k : Nat) (hk : k < s.l.length) (hl : s.l.length ≤ 1000000) (hn : LightM (s.l.getD k m0)) :
    Calls Try.prog 14 #[.pointer (some ⟨a, 0, none⟩), .int .i64 (k : Int)] w fun e w' => ∃ v u, e = .returned (.tuple #[aggM (s.l.getD k m0) v u, .bool true]) ∧ OwnM w' w.heap.size (s.l.getD k m0) v u ∧ Below w.heap.size w w' := by
  have h' := h.below ((Below.refl _ _).alloc (Nat.le_refl _) zeros5)
  have HH := Lib.hid (has_any h' (k : Int))
  rw [show hasN s (k : Int) = true by unfold hasN; rw [decide_eq_true (by omega), decide_eq_true (by omega)]; rfl] at HH
  obtain ⟨b, cap, x, xv, xu, c2, hg, hc1, hc2, hb1, hb2, hx, e0, e1, e2, e3, e4, hi, _, _⟩ := h'.at_ hk
  have hx' : s.l.getD k m0 = x := hx.symm
  rw [hx'] at hn ⊢
  clear hx hx' h h'
  have HC := Lib.hid (copiedM_any x xv xu _ (hi.is hn) hn)
  have HZ := Lib.hid (heap_new w zeros5)
  unfold zeros5 at HH e0 e1 e2 e3 e4 c2 HC
  have hkn : (k : Int) < (s.l.length : Int) := by omega
  generalize s.l.length = n at *
  obtain ⟨⟨va, vc, rfl, _⟩, ⟨ua, uc, rfl, _⟩⟩ := hi.is hn
  clear hi
  cases x with
  | mk xf xt xk xns xbs =>
  simp only [aggM, cellsM] at *
  go_enter Try.func14, Try.ntmps14
  go_wp2_with fail
  refine HH.out.mono ?_
  rintro e w1 ⟨rfl, rfl⟩
  go_wp2_with fail
  refine HC.out.mono ?_
  rintro e w2 ⟨v, u, rfl, hown, hb⟩
  have hz2 : w2.heap[w.heap.size]? = some zeros5 := heap_below hb (by simp) HZ.out
  have HZ2 := Lib.hid hz2
  have hb' : Below w.heap.size w w2 := ((Below.refl _ _).alloc (Nat.le_refl _) zeros5).trans (hb.mono (by simp))
  have HB := Lib.hid hb'
  have hown' := hown.mono (show w.heap.size ≤ _ by simp)
  obtain ⟨⟨a1, c1, rfl, _⟩, ⟨a2, c2', rfl, _⟩⟩ := hown'.is hn
  have HO := Lib.hid hown'
  clear hown hown' hb hb' hz2 e0 e1 e2 e3 e4 c2
  go_wp2_with (refine wpList_store_row rfl 32 (.tmp 4) (.tmp 18) rfl w.heap.size #[.int .i64 xf, .int .i64 xt, .int .i64 xk, .slice a1 xns.length c1, .slice a2 xbs.length c2'] rfl rfl 32 _ HZ2.out size32 rfl (five_ones _ _ _ _ _ _ _ _ _) ?_)
  have HHP := Lib.hid (setRow_heap _ w.heap.size _ #[.int .i64 xf, .int .i64 xt, .int .i64 xk, .slice a1 xns.length c1, .slice a2 xbs.length c2'] 32 (0, 0) HZ2.out)
  have hon : Only [w.heap.size] w2 (w2.setRow w.heap.size #[.int .i64 xf, .int .i64 xt, .int .i64 xk, .slice a1 xns.length c1, .slice a2 xbs.length c2']) := ⟨rfl, rfl, rfl, by simp, fun k _ hk => setRow_other _ _ _ _ (by simpa using hk)⟩
  (try simp only [Exit.inBlock, Exit.then])
  refine bodyPost_ret (results_msg (fn := Try.f14) rfl _ _ w.heap.size ⟨xf, xt, xk, xns, xbs⟩ _ _ _ rfl rfl HHP.out) rfl ⟨_, _, rfl, HO.out.only hon ?_, HB.out.trans (hon.below HB.out.size (by simp))⟩
  intro q hq cur
  obtain rfl := List.mem_singleton.1 hq
  rw [HZ2.out]; simp [zeros5]
end

/-- blocks that hold neither nets nor messages stand as they stood -/
def KeepsD (w w' : World) : Prop := ∀ (j : Nat) (cs : Array Value) (t : TypeId) (fr : Nat × Nat), w.heap[j]? = some (Obj.cells cs t fr) → t ≠ 60 → t ≠ 32 → w'.heap[j]? = some (Obj.cells cs t fr)
theorem KeepsD.refl (w : World) : KeepsD w w := fun _ _ _ _ h _ _ => h
theorem KeepsD.trans {a b c : World} (h : KeepsD a b) (k : KeepsD b c) : KeepsD a c := fun j cs t fr hh h1 h2 => k j cs t fr (h j cs t fr hh h1 h2) h1 h2
theorem KeepsD.ofBelow {w w' : World} (hb : Below w.heap.size w w') : KeepsD w w' := fun j cs t fr hh _ _ => heap_below hb (lt_of_heap hh) hh
theorem KeepsD.ofOnly {w w' : World} {S : List Nat} (ho : Only S w w') (hS : ∀ j ∈ S, ∀ cs t fr, w.heap[j]? = some (.cells cs t fr) → t = 60 ∨ t = 32) : KeepsD w w' := fun j cs t fr hh h1 h2 => ho.keeps hh (fun hm => by
  rcases hS j hm cs t fr hh with h | h
  · exact h1 h
  · exact h2 h)
/-- a net of the call's own: from block base on, nothing below has turned since w0 -/
structure OursN (w0 w : World) (base a : Nat) (s : Nt) (es : List ((Int × Int) × Bool)) : Prop where
  is : ∃ g mb, IsNet w base a mb g s es
  below : Below base w0 w
  size : base ≤ w.heap.size
  keep : KeepsD w0 w
theorem IsNet.gge {w : World} {base a mb : Nat} {g : Option Nat} {s : Nt} {es : List ((Int × Int) × Bool)} (h : IsNet w base a mb g s es) : ∀ j, g = some j → base ≤ j := by
  obtain ⟨⟨v, ps, h1, h2, h3, h4⟩, _⟩ := h
  intro j hj
  exact (rows_block h2 (h3.trans hj)).1
/-- the four blocks of a net are of four kinds -/
theorem IsNet.apart {w : World} {base a mb : Nat} {g : Option Nat} {s : Nt} {es : List ((Int × Int) × Bool)} (h : IsNet w base a mb g s es) : a ≠ mb ∧ g ≠ some a ∧ g ≠ some mb := by
  obtain ⟨⟨v, ps, h1, h2, h3, h4⟩, ⟨⟨arr, c, h5, _⟩, _, _⟩, _, _⟩ := h
  refine ⟨fun e => by rw [e, h5] at h1; simp at h1, fun e => ?_, fun e => ?_⟩
  · obtain ⟨_, cur, hc⟩ := rows_block h2 (h3.trans e)
    rw [h1] at hc
    simp at hc
  · obtain ⟨_, cur, hc⟩ := rows_block h2 (h3.trans e)
    rw [h5] at hc
    simp at hc
theorem OursN.later {w0 w w' : World} {base a : Nat} {s : Nt} {es : List ((Int × Int) × Bool)} (h : OursN w0 w base a s es) (hb : Below w.heap.size w w') : OursN w0 w' base a s es := by
  obtain ⟨⟨g, mb, h1⟩, h3, h4, h5⟩ := h
  exact ⟨⟨g, mb, h1.below hb⟩, h3.trans (hb.mono h4), Nat.le_trans h4 hb.size, h5.trans (KeepsD.ofBelow hb)⟩
theorem heap_ne {w : World} {a : Nat} {cs : Array Value} {t : TypeId} {fr : Nat × Nat} (h : w.heap[a]? = some (.cells cs t fr)) (ht : t ≠ 2 ∧ t ≠ 65 ∧ t ≠ 5 := by decide) : NoRow w [a] := by
  intro j hj cur
  obtain rfl : j = a := by simpa using hj
  rw [h]
  simp only [ne_eq, Option.some.injEq, Obj.cells.injEq, not_and]
  exact ⟨fun _ e => absurd e ht.1, fun _ e => absurd e ht.2.1, fun _ e => absurd e ht.2.2⟩
section
variable {w0 w : World} {base a : Nat} {s : Nt} {es : List ((Int × Int) × Bool)}
set_option maxHeartbeats 1000000 in
theorem heal_any (h : OursN w0 w base a s es) :
    Calls Try.prog 12 #[.pointer (some ⟨a, 0, none⟩)] w fun e w' => e = .returned (.tuple #[]) ∧ OursN w0 w' base a s [] := by
  obtain ⟨⟨g, mb, hn⟩, hb, hs, hkp⟩ := h
  have hap := hn.apart
  obtain ⟨⟨v, ps, h1, h2, h3, h4⟩, h5, h6, h7⟩ := hn
  have hmm := @run_makeMap Try.prog
  have hlt := lt_of_heap h1
  have hA := heap_old h1 (.map #[] 0)
  have hc3 : (w.alloc (.map #[] 0)).cell? ⟨a, 3, none⟩ = some (.map (some mb)) := by rw [cell_heap hA]; rfl
  have hf3 := free_heap hA 3
  have H1 := Lib.hid h1; have H2 := Lib.hid h2; have H4 := Lib.hid h4; have HA := Lib.hid hA
  clear h1 h2 h4 h5 hA
  go_enter Try.func12, Try.ntmps12
  go_wp2_with fail
  go_end0
  have o2 : Only [a] w (w.setCell ⟨a, 3, none⟩ (.map (some w.heap.size))) := (Only.refl _ _).setCell (by simp) _
  have o1 : Only [] (w.setCell ⟨a, 3, none⟩ (.map (some w.heap.size))) ((w.setCell ⟨a, 3, none⟩ (.map (some w.heap.size))).alloc (.map #[] 0)) := (Only.refl [] _).alloc _
  have hsz : (w.setCell ⟨a, 3, none⟩ (.map (some w.heap.size))).heap.size = w.heap.size := by simp [World.setCell]
  have hcut := IsCut.new (w.setCell ⟨a, 3, none⟩ (.map (some w.heap.size)))
  rw [hsz] at hcut
  refine ⟨rfl, ⟨⟨g, w.heap.size, ⟨⟨v, ps, heap_old (heap_set H1.out 3 _) _, rows_only (rows_only H2.out o2 (fun b hb => by simp; intro e; subst e; exact hap.2.1 (h3 ▸ hb))) o1 (by simp), h3, (H4.out.only o2 (heap_ne H1.out)).only o1 (fun j hj => by cases hj)⟩, hcut, h6, by omega⟩⟩, hb.trans ((o2.trans (o1.mono (by simp))).below hs (by simpa using h6)), by have := o1.size; rw [hsz] at this; omega, hkp.trans ((KeepsD.ofOnly o2 (fun j hj cs t fr hh => by rw [List.mem_singleton.1 hj, H1.out] at hh; simp at hh; exact .inl hh.2.1.symm)).trans (KeepsD.ofOnly o1 (fun j hj => by cases hj)))⟩⟩

theorem IsNet.recut {w w' : World} {base a mb : Nat} {g : Option Nat} {s : Nt} {es es' : List ((Int × Int) × Bool)} (h : IsNet w base a mb g s es) (ho : Only [mb] w w') (hc : IsCut w' mb es') : IsNet w' base a mb g s es' := by
  have hap := h.apart
  obtain ⟨⟨v, ps, h1, h2, h3, h4⟩, ⟨⟨arr, c, h5, _⟩, _, _⟩, h6, h7⟩ := h
  refine ⟨⟨v, ps, ho.keeps h1 (by simpa using hap.1), rows_only h2 ho (fun b hb => by simp; intro e; subst e; exact hap.2.2 (h3 ▸ hb)), h3, h4.only ho ?_⟩, hc, h6, h7⟩
  intro j hj cur
  obtain rfl : j = mb := by simpa using hj
  rw [h5]
  simp
set_option maxHeartbeats 4000000 in
theorem cut_any (h : OursN w0 w base a s es) (x y : Int) (b : Bool) (hx : isNode s x = true) (hy : isNode s y = true) (hn : s.nodes ≤ 64) :
    Calls Try.prog 10 #[.pointer (some ⟨a, 0, none⟩), .int .i64 x, .int .i64 y, .bool b] w fun e w' => e = .returned (.tuple #[]) ∧ OursN w0 w' base a s (putCut es (way x y) b) := by
  obtain ⟨⟨g, mb, hN⟩, hb, hs, hkp⟩ := h
  have HN1 := Lib.hid (node_any hN x)
  have HN2 := Lib.hid (node_any hN y)
  rw [hx] at HN1
  rw [hy] at HN2
  have hwf : wfK (way x y) := by
    unfold isNode at hx hy
    simp only [Bool.and_eq_true, decide_eq_true_eq] at hx hy
    unfold wfK way
    split <;> split <;> simp <;> omega
  have HNN := Lib.hid hN
  have hap := hN.apart
  obtain ⟨⟨v, ps, h1, h2, h3, h4⟩, h5, h6, h7⟩ := hN
  have hc3 : w.cell? ⟨a, 3, none⟩ = some (.map (some mb)) := by rw [cell_heap h1]; rfl
  clear hx hy h1 h2 h3 h4 h5
  go_enter Try.func10, Try.ntmps10
  go_wp2_with fail
  refine HN1.out.mono ?_
  rintro e w1 ⟨rfl, rfl⟩
  go_wp2_with fail
  refine HN2.out.mono ?_
  rintro e w1 ⟨rfl, rfl⟩
  go_wp2_with fail
  go_region_with (go_at_call 26; refine (way_any x y _).mono ?_; rintro e w3 ⟨rfl, hb3⟩; have hc33 := cell_later (w := w.drew) hb3 hc3; have hN3 := HNN.out.below (show Below w.heap.size w w3 from ⟨hb3.os, hb3.tape, hb3.output, hb3.size, hb3.block⟩); obtain ⟨w4, hrun, hcut, ho⟩ := run_cuttingG hN3.cut (way x y) hwf b)
  all_goals
    have hb' : Below w.heap.size w w3 := ⟨hb3.os, hb3.tape, hb3.output, hb3.size, hb3.block⟩
    have HF := Lib.hid (hN3.recut ho hcut)
    have HBB := Lib.hid (hb.trans ((hb'.mono hs).trans (ho.below (Nat.le_trans hs hb'.size) (by simpa using h7))))
    have HKP := Lib.hid (hkp.trans ((KeepsD.ofBelow hb').trans (KeepsD.ofOnly ho (fun j hj cs t fr hh => by obtain ⟨⟨arr, c, h5, _⟩, _, _⟩ := hN3.cut; rw [List.mem_singleton.1 hj, h5] at hh; simp at hh))))
    have HSZ := Lib.hid (Nat.le_trans hs (Nat.le_trans hb'.size ho.size))
    clear hb3 hc33 hN3 hrun hcut ho hb'
    go_wp2_with fail
    go_end0
    exact ⟨rfl, ⟨⟨g, mb, HF.out⟩, HBB.out, HSZ.out, HKP.out⟩⟩
set_option maxHeartbeats 1000000 in
theorem cut_no (h : OursN w0 w base a s es) (x y : Int) (b : Bool) (hx : (isNode s x && isNode s y) = false) :
    Calls Try.prog 10 #[.pointer (some ⟨a, 0, none⟩), .int .i64 x, .int .i64 y, .bool b] w fun e w' => e = .returned (.tuple #[]) ∧ OursN w0 w' base a s es := by
  obtain ⟨g, mb, hN⟩ := h.is
  have HN1 := Lib.hid (node_any hN x)
  have HN2 := Lib.hid (node_any hN y)
  have HU := Lib.hid h
  clear h hN
  cases hnx : isNode s x with
  | false =>
    rw [hnx] at HN1
    clear hx hnx
    go_enter Try.func10, Try.ntmps10
    go_wp2_with fail
    refine HN1.out.mono ?_
    rintro e w1 ⟨rfl, rfl⟩
    go_wp2_with fail
    go_end0
    exact ⟨rfl, HU.out⟩
  | true =>
    rw [hnx, Bool.true_and] at hx
    rw [hnx] at HN1
    rw [hx] at HN2
    clear hx hnx
    go_enter Try.func10, Try.ntmps10
    go_wp2_with fail
    refine HN1.out.mono ?_
    rintro e w1 ⟨rfl, rfl⟩
    go_wp2_with fail
    refine HN2.out.mono ?_
    rintro e w1 ⟨rfl, rfl⟩
    go_wp2_with fail
    go_end0
    exact ⟨rfl, HU.out⟩
end
end Go.Proofs.Ytmehgkbhpfcmpaa.G
