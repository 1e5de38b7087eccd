/-
  Doubling and taking leave lists of numbers as they were.
-/
import Derived.Test.YtmehgkbhpfcmpaaFull
namespace Go.Proofs.Ytmehgkbhpfcmpaa
open Go.RowKit

/-- rows of numbers stay as they are -/
def Keeps2 (w w' : World) : Prop := ∀ (j : Nat) (cs : Array Value) (fr : Nat × Nat), w.heap[j]? = some (Obj.cells cs 2 fr) → w'.heap[j]? = some (Obj.cells cs 2 fr)
theorem Keeps2.trans {a b c : World} (h : Keeps2 a b) (k : Keeps2 b c) : Keeps2 a c := fun j cs fr hh => k j cs fr (h j cs fr hh)
theorem Keeps2.only {w w' : World} {S : List Nat} (ho : Only S w w') (hS : ∀ j ∈ S, ∀ cs fr, w.heap[j]? ≠ some (.cells cs 2 fr)) : Keeps2 w w' := fun j cs fr hh => ho.keeps hh (fun hm => hS j hm cs fr hh)
theorem Keeps2.below {w w' : World} {B : Nat} (hb : Below B w w') (hB : w.heap.size ≤ B) : Keeps2 w w' := fun j cs fr hh => heap_below hb (Nat.lt_of_lt_of_le (lt_of_heap hh) hB) hh
theorem OwnI.keeps2 {w w' : World} {base : Nat} {v : Value} {l : List Int} (h : OwnI w base 2 v l) (hk : Keeps2 w w') : OwnI w' base 2 v l := by
  refine ⟨h.1, ?_⟩
  rcases h.2 with h2 | ⟨g, cap, cur, rfl, hg, hh, r⟩
  · exact .inl h2
  · exact .inr ⟨g, cap, cur, rfl, hg, hk _ _ _ hh, r⟩
/-- no message that waits has its numbers in block D -/
def Apart2 (w : World) (a D : Nat) : Prop := ∀ (b n cap k j off m c : Nat), w.cell? ⟨a, 2, none⟩ = some (.slice (some ⟨b, 0, none⟩) n cap) → k < n → w.cell? ⟨b, k * 5 + 3, none⟩ = some (.slice (some ⟨j, off, none⟩) m c) → j ≠ D
theorem slice_own {v : Value} {w : World} {base n : Nat} {e : TypeId} {k : Nat} {xs : List Value} (h : w.ownsRow base e k v n xs) : ∃ ao m c, v = .slice ao m c ∧ ∀ j off, ao = some ⟨j, off, none⟩ → v.ownBlock = some j := by
  rcases h.2 with ⟨rfl, _⟩ | ⟨g, cap, cur, rfl, _⟩
  · exact ⟨none, 0, 0, rfl, fun j off h => by cases h⟩
  · exact ⟨_, _, _, rfl, fun j off h => by cases h; rfl⟩
/-- the rows of a net -/
theorem IsNet.cells {w : World} {base a mb : Nat} {g : Option Nat} {s : Nt} {es : List ((Int × Int) × Bool)} (h : IsNet w base a mb g s es) {b n cap : Nat} (hc : w.cell? ⟨a, 2, none⟩ = some (.slice (some ⟨b, 0, none⟩) n cap)) :
    ∃ ps : List Mv, ps.map Mv.m = s.l ∧ w.ownsRow base 32 5 (.slice (some ⟨b, 0, none⟩) n cap) n (row5 ps) ∧ (∀ x ∈ ps, OwnI w base 2 x.v x.m.ns) ∧ n = s.l.length := by
  obtain ⟨⟨v, ps, h1, h2, h3, h4⟩, _⟩ := h
  have : w.cell? ⟨a, 2, none⟩ = some v := by rw [cell_heap h1]; rfl
  rw [hc] at this
  have hv : v = .slice (some ⟨b, 0, none⟩) n cap := by simpa using this.symm
  subst hv
  have hn : n = s.l.length := by
    rcases h2.2 with ⟨h5, _⟩ | ⟨g', cap', cur, h5, _⟩
    · cases h5
    · cases h5; rfl
  subst hn
  exact ⟨ps, h4.ms, h2, h4.ns, rfl⟩
theorem row_at {w : World} {base b n cap k : Nat} {ps : List Mv} (h : w.ownsRow base 32 5 (.slice (some ⟨b, 0, none⟩) n cap) n (row5 ps)) (hk : k < n) : k < ps.length ∧ w.cell? ⟨b, k * 5 + 3, none⟩ = some (ps.getD k mv0).v := by
  obtain ⟨g, cap2, he, _, _, _, _, hl, hcell⟩ := row_cell h (by omega)
  simp only [Value.slice.injEq, Option.some.injEq, Addr.mk.injEq, and_true, true_and] at he
  obtain ⟨rfl, rfl⟩ := he
  exact ⟨by omega, hcell k 3 hk (by decide)⟩
/-- what turns one row of numbers only turns no net whose messages lie elsewhere -/
theorem IsNet.avoid {w w' : World} {base a mb D : Nat} {g : Option Nat} {s : Nt} {es : List ((Int × Int) × Bool)} (h : IsNet w base a mb g s es) (hA : Apart2 w a D) (hD : ∃ cs fr, w.heap[D]? = some (.cells cs 2 fr)) (ho : Only [D] w w') : IsNet w' base a mb g s es := by
  obtain ⟨⟨v, ps, h1, h2, h3, h4⟩, h5, h6, h7⟩ := h
  obtain ⟨cs, fr, hd⟩ := hD
  have ha : a ∉ [D] := by
    intro e
    obtain rfl : a = D := by simpa using e
    rw [h1] at hd; simp at hd
  have hm : mb ∉ [D] := by
    intro e
    obtain rfl : mb = D := by simpa using e
    obtain ⟨⟨arr, c, hh, _⟩, _, _⟩ := h5
    rw [hh] at hd; simp at hd
  refine ⟨⟨v, ps, ho.keeps h1 ha, rows_only h2 ho (fun j hj e => ?_), h3, ⟨h4.ms, fun x hx => rows_only (h4.ns x hx) ho (fun j hj e => ?_), h4.one⟩⟩, h5.only ho hm, h6, h7⟩
  · obtain rfl : j = D := by simpa using e
    obtain ⟨_, cur, hc⟩ := rows_block h2 hj
    rw [hc] at hd; simp at hd
  · obtain rfl : j = D := by simpa using e
    obtain ⟨k, hk, rfl⟩ := List.getElem_of_mem hx
    have hlen : 0 < s.l.length := by rw [← h4.ms, List.length_map]; omega
    obtain ⟨b, cap, rfl, _, _, _, _, hpl, _⟩ := row_cell h2 hlen
    have hr := row_at h2 (k := k) (by omega)
    have hcell : w.cell? ⟨a, 2, none⟩ = some (.slice (some ⟨b, 0, none⟩) s.l.length cap) := by rw [cell_heap h1]; rfl
    have hv : ps.getD k mv0 = ps[k] := by simp [List.getD_eq_getElem?_getD, hk]
    rw [hv] at hr
    rcases (h4.ns _ hx).2 with ⟨h8, _⟩ | ⟨g', cap', cur, h8, _⟩
    · rw [h8] at hj; cases hj
    · rw [h8] at hj
      have hgj : g' = j := by simpa [Value.ownBlock] using hj
      subst hgj
      exact hA b _ cap k g' 0 _ cap' hcell (by omega) (by rw [hr.2, h8]) rfl
/-- numbers that are new are no message's -/
theorem apart_new {w w' : World} {base a mb D : Nat} {g : Option Nat} {s : Nt} {es : List ((Int × Int) × Bool)} (h : IsNet w base a mb g s es) (hb : Below w.heap.size w w') (hD : w.heap.size ≤ D) : Apart2 w' a D := by
  intro b n cap k j off m c hc hk hs
  have h' := h
  obtain ⟨⟨v, ps, h1, h2, h3, h4⟩, _⟩ := h
  have hca : w.cell? ⟨a, 2, none⟩ = some v := by rw [cell_heap h1]; rfl
  have hca' := cell_later hb hca
  rw [hc] at hca'
  have hv : v = .slice (some ⟨b, 0, none⟩) n cap := by simpa using hca'.symm
  subst hv
  obtain ⟨ps2, _, r1, r2, _⟩ := h'.cells hca
  obtain ⟨hkp, r3⟩ := row_at r1 hk
  have r4 := cell_later hb r3
  rw [hs] at r4
  have hmem : ps2.getD k mv0 ∈ ps2 := by simp [List.getD_eq_getElem?_getD, hkp]
  have hown := r2 _ hmem
  have hv2 : (ps2.getD k mv0).v = .slice (some ⟨j, off, none⟩) m c := by simpa using r4.symm
  rw [hv2] at hown
  rcases hown.2 with ⟨h8, _⟩ | ⟨g', cap', cur, h8, _, hh, _⟩
  · cases h8
  · cases h8
    have := lt_of_heap hh
    omega
/-- what turns other rows of numbers, or new blocks, leaves the messages' places as they are -/
theorem Apart2.only {w w' : World} {base a mb D E : Nat} {g : Option Nat} {s : Nt} {es : List ((Int × Int) × Bool)} (h : Apart2 w a D) (hN : IsNet w base a mb g s es) (ho : Only [E] w w') (hE : ∃ cs fr, w.heap[E]? = some (.cells cs 2 fr)) : Apart2 w' a D := by
  intro b n cap k j off m c hc hk hs
  obtain ⟨⟨v, ps, h1, h2, h3, h4⟩, _⟩ := hN
  obtain ⟨cs, fr, he⟩ := hE
  have ha : a ∉ [E] := by
    intro e
    obtain rfl : a = E := by simpa using e
    rw [h1] at he; simp at he
  have hca : w.cell? ⟨a, 2, none⟩ = some v := by rw [cell_heap h1]; rfl
  have hca' := ho.cell hca ha
  rw [hc] at hca'
  have hv : v = .slice (some ⟨b, 0, none⟩) n cap := by simpa using hca'.symm
  subst hv
  have hbE : b ∉ [E] := by
    intro e
    obtain rfl : b = E := by simpa using e
    obtain ⟨_, cur, hc2⟩ := rows_block h2 (j := b) rfl
    rw [hc2] at he; simp at he
  have hn : n = s.l.length := by
    rcases h2.2 with ⟨h5, _⟩ | ⟨g', cap', cur, h5, _⟩
    · cases h5
    · cases h5; rfl
  subst hn
  obtain ⟨hkp, r3⟩ := row_at h2 hk
  have r4 := ho.cell r3 hbE
  rw [hs] at r4
  exact h b _ cap k j off m c hca hk (r3.trans r4.symm)
theorem send_apart {wc w5 w9 : World} {base a mb D : Nat} {t : Nt} {vv : Value} {ps : List Mv} (k1 : wc.heap[a]? = some (netObj t vv mb)) (k2 : wc.ownsRow base 32 5 vv t.l.length (row5 ps)) {m : Ms} {v : Value} {g2 cap : Nat}
    (hown : w9.ownsRow base 32 5 (.slice (some ⟨g2, 0, none⟩) (t.l.length + 1) cap) (t.l.length + 1) (row5 (ps ++ [⟨m, v⟩]))) (hA9 : w9.heap[a]? = some (netObj t vv mb)) (hga : g2 ≠ a) (hA : Apart2 wc a D) (hv : OwnI w5 wc.heap.size 2 v m.ns) (hD : D < wc.heap.size) :
    Apart2 (w9.setCell ⟨a, 2, none⟩ (.slice (some ⟨g2, 0, none⟩) (t.l.length + 1) cap)) a D := by
  intro b n cap2 k j off q c hc hk hs
  have hset := heap_set hA9 2 (.slice (some ⟨g2, 0, none⟩) (t.l.length + 1) cap)
  have hca : (w9.setCell ⟨a, 2, none⟩ (.slice (some ⟨g2, 0, none⟩) (t.l.length + 1) cap)).cell? ⟨a, 2, none⟩ = some (.slice (some ⟨g2, 0, none⟩) (t.l.length + 1) cap) := by rw [cell_heap hset]; rfl
  rw [hc] at hca
  simp only [Option.some.injEq, Value.slice.injEq, Addr.mk.injEq, and_true] at hca
  obtain ⟨rfl, rfl, rfl⟩ := hca
  have ho : Only [a] w9 (w9.setCell ⟨a, 2, none⟩ (.slice (some ⟨b, 0, none⟩) (t.l.length + 1) cap2)) := (Only.refl _ _).setCell (by simp) _
  obtain ⟨hkp, r3⟩ := row_at hown hk
  have r4 := ho.cell r3 (by simpa using hga)
  rw [hs] at r4
  have hpl : ps.length = t.l.length := by
    have := k2.1
    rw [row5_len] at this
    omega
  by_cases hkt : k < t.l.length
  · have hget : (ps ++ [(⟨m, v⟩ : Mv)]).getD k mv0 = ps.getD k mv0 := by simp [List.getD_eq_getElem?_getD, List.getElem?_append_left (show k < ps.length by omega)]
    rw [hget] at r4
    obtain ⟨b0, cap0, rfl, _, _, _, _, _, _⟩ := row_cell k2 (by omega)
    have hc0 : wc.cell? ⟨a, 2, none⟩ = some (.slice (some ⟨b0, 0, none⟩) t.l.length cap0) := by rw [cell_heap k1]; rfl
    exact hA b0 _ cap0 k j off q c hc0 hkt ((row_at k2 hkt).2.trans r4.symm)
  · obtain rfl : k = t.l.length := by omega
    have hget : (ps ++ [(⟨m, v⟩ : Mv)]).getD t.l.length mv0 = ⟨m, v⟩ := by rw [← hpl]; simp [List.getD_eq_getElem?_getD]
    rw [hget] at r4
    have hv2 : v = .slice (some ⟨j, off, none⟩) q c := by simpa using r4.symm
    subst hv2
    rcases hv.2 with ⟨h8, _⟩ | ⟨g', cap', cur, h8, hg, _⟩
    · cases h8
    · cases h8; omega
section
variable {w0 w : World} {base a : Nat} {s : Nt} {es : List ((Int × Int) × Bool)}
set_option maxHeartbeats 8000000 in
theorem take_some2 (h : OursN w0 w base a s es) (k : Nat) (hk : k < s.l.length) (hl : s.l.length ≤ 1000000) (hn : (getN s k).ns.length ≤ 1000000) :
    Calls Try.prog 19 #[.pointer (some ⟨a, 0, none⟩), .int .i64 (k : Int)] w fun e w' => ∃ v, e = .returned (.tuple #[msgV (getN s k).from_ (getN s k).to_ (getN s k).kind v, .bool true]) ∧ OwnI w' w.heap.size 2 v (getN s k).ns ∧ OursN w0 w' base a (loseN s k) es ∧ Keeps2 w w' := by
  obtain ⟨g, mb, hN⟩ := h.is
  have hN1 := hN.below ((Below.refl _ _).alloc (Nat.le_refl _) zeros5)
  have HA := Lib.hid (at_some hN1 k hk hl hn)
  have HN0 := Lib.hid hN
  have HN1 := Lib.hid hN1
  have HZ := Lib.hid (heap_new w zeros5)
  unfold msgV zeros5 at HA
  unfold msgV
  change Hid (Calls Try.prog 14 _ _ fun e w' => ∃ v, e = .returned (.tuple #[.agg #[.int .i64 (getN s k).from_, .int .i64 (getN s k).to_, .int .i64 (getN s k).kind, v, .slice none 0 0], .bool true]) ∧ OwnI w' _ 2 v (getN s k).ns ∧ _) at HA
  generalize getN s k = x at *
  have hR := hN.lt
  have hRg := hN.glt
  have hRm := hN.mlt
  clear hN hN1
  go_enter Try.func19, Try.ntmps19
  go_wp2_with fail
  refine HA.out.mono ?_
  rintro e w1 ⟨v, rfl, hown, hb⟩
  obtain ⟨av, cv, rfl, _⟩ := hown.isI
  have hb' : Below (w.alloc zeros5).heap.size (w.alloc zeros5) w1 := hb
  have hR1 : w1.heap[w.heap.size]? = some zeros5 := heap_below hb' (by simp) HZ.out
  have hs1 : w.heap.size + 1 ≤ w1.heap.size := by have := hb'.size; simpa using this
  have hN2 := HN1.out.below hb'
  have HBB := Lib.hid (((Below.refl _ w).alloc (Nat.le_refl _) zeros5).trans (hb'.mono (by simp)))
  have HV := Lib.hid hown
  clear hown hb hb'
  generalize hRR : w.heap.size = R at *
  have HRR := Lib.hid hRR; clear hRR
  have hN3 := hN2.below ((Below.refl _ _).alloc (Nat.le_refl _) (msgObj x (.slice av x.ns.length cv)))
  have HX := Lib.hid (heap_new w1 (msgObj x (.slice av x.ns.length cv)))
  have HR1 := Lib.hid (heap_old hR1 (msgObj x (.slice av x.ns.length cv)))
  have hsz2 : (w1.alloc (msgObj x (.slice av x.ns.length cv))).heap.size = w1.heap.size + 1 := by simp
  have HB2 := Lib.hid (HBB.out.alloc (by have := HRR.out; omega) (msgObj x (.slice av x.ns.length cv)))
  have HV2 := Lib.hid (OwnI.alloc HV.out (msgObj x (.slice av x.ns.length cv)))
  have HL := Lib.hid (fun w' (hb : Below (w1.alloc (msgObj x (.slice av x.ns.length cv))).heap.size (w1.alloc (msgObj x (.slice av x.ns.length cv))) w') => lose_net (hN3.below hb) k hk hl)
  have HN3 := Lib.hid hN3
  obtain ⟨x0, x1, x2, x3, x4⟩ := msg_cells HX.out
  obtain ⟨⟨z0, z1, z2, z3, z4⟩, f0, f1, f2, f3, f4⟩ := zeros_cells HR1.out
  have hXR : w1.heap.size ≠ R := by omega
  have hkeep : ∀ j, j = w1.heap.size ∨ j = R → j ∉ a :: g.toList := by
    intro j hj hm
    simp at hm
    rcases hm with hm | hm
    · omega
    · have := hRg j hm; omega
  have HKP := Lib.hid hkeep
  clear hN2 hN3 hR1 hkeep
  unfold msgObj at x0 x1 x2 x3 x4 z0 z1 z2 z3 z4 f0 f1 f2 f3 f4
  go_wp2_with fail
  go_region_with (go_at_call 15; refine (HL.out _ (by exact below_drew (Below.refl _ _) 1)).mono ?_; rintro e w3 ⟨rfl, hn3, ho3⟩; have hX3 := ho3.keeps HX.out (HKP.out _ (.inl rfl)); have hR3 := ho3.keeps HR1.out (HKP.out _ (.inr rfl)); obtain ⟨y0, y1, y2, y3, y4⟩ := msg_cells hX3; obtain ⟨⟨u0, u1, u2, u3, u4⟩, e0, e1, e2, e3, e4⟩ := zeros_cells hR3)
  all_goals
    have HR3 := Lib.hid hR3
    have HN4 := Lib.hid hn3
    have HO3 := Lib.hid ho3
    clear hX3 hR3 hn3 ho3 y0 y1 y2 y3 y4 u0 u1 u2 u3 u4 e0 e1 e2 e3 e4 x0 x1 x2 x3 x4 z0 z1 z2 z3 z4 f0 f1 f2 f3 f4
    go_wp2_with fail
    (try simp only [Exit.inBlock, Exit.then])
    change bodyPost _ _ _ _ _ (put5 w3 R x.from_ x.to_ x.kind (.slice av x.ns.length cv))
    have hrr := HRR.out
    have oR := put5_only w3 R x.from_ x.to_ x.kind (.slice av x.ns.length cv)
    have hge : ∀ j ∈ a :: g.toList, base ≤ j := by
      intro j hj
      simp at hj
      rcases hj with rfl | hj
      · exact HN0.out.ge
      · exact HN0.out.gge j hj
    have hbs := h.size
    have hb1 : Below base w0 (w1.alloc (msgObj x (.slice av x.ns.length cv))).drew := below_drew (h.below.trans (HB2.out.mono (by omega))) 1
    have hs3 : base ≤ (w1.alloc (msgObj x (.slice av x.ns.length cv))).drew.heap.size := by
      show base ≤ (w1.alloc (msgObj x (.slice av x.ns.length cv))).heap.size
      omega
    have hb3 := hb1.trans (HO3.out.below hs3 hge)
    have hs4 := Nat.le_trans hs3 HO3.out.size
    have hk1 : Keeps2 w (w1.alloc (msgObj x (.slice av x.ns.length cv))) := Keeps2.below HB2.out (by omega)
    have hk2 : Keeps2 (w1.alloc (msgObj x (.slice av x.ns.length cv))) w3 := Keeps2.only (w := (w1.alloc (msgObj x (.slice av x.ns.length cv))).drew) HO3.out HN3.out.kinds
    have hk3 : Keeps2 w3 (put5 w3 R x.from_ x.to_ x.kind (.slice av x.ns.length cv)) := Keeps2.only oR (fun j hj cs fr hh => by
      obtain rfl : j = R := by simpa using hj
      rw [HR3.out] at hh
      simp [zeros5] at hh)
    refine bodyPost_ret (results_row_tmp (fn := Try.f19) rfl _ _ R _ _ _ _ _ _ rfl rfl (put5_heap _ _ _ _ HR3.out)) rfl ⟨_, rfl, ?_, ⟨⟨g, mb, HN4.out.keep oR (by simp; omega) (by simp; omega) (fun j hj => by have := hRg j hj; simp; omega) (heap_ne HR3.out)⟩, hb3.trans (oR.below hs4 (by simp; omega)), Nat.le_trans hs4 oR.size⟩, (hk1.trans hk2).trans hk3⟩
    have ho3 : Only (a :: g.toList) (w1.alloc (msgObj x (.slice av x.ns.length cv))) w3 := ⟨HO3.out.os, HO3.out.tape, HO3.out.output, HO3.out.size, HO3.out.block⟩
    refine OwnI.only2 (OwnI.mono (rows_only HV2.out ho3 fun j hj hm => ?_) (by rw [hrr]; simp; omega)) oR HR3.out
    obtain ⟨_, cur, hc⟩ := rows_block HV2.out hj
    exact HN3.out.kinds j hm _ _ hc
set_option maxHeartbeats 8000000 in
theorem copy_ok2 (h : OursN w0 w base a s es) (k : Nat) (hk : k < s.l.length) (hr : (s.l.length : Int) < s.room) (hrm : s.room ≤ 65536) (hfew : (getN s k).ns.length ≤ 1000000) :
    Calls Try.prog 13 #[.pointer (some ⟨a, 0, none⟩), .int .i64 (k : Int)] w fun e w' => e = .returned (.bool true) ∧ OursN w0 w' base a (copyN s k) es ∧ Keeps2 w w' ∧ ∀ D, D < w.heap.size → Apart2 w a D → Apart2 w' a D := by
  obtain ⟨g, mb, hN⟩ := h.is
  have HH : Hid (∀ d, Calls Try.prog 28 #[.pointer (some ⟨a, 0, none⟩), .int .i64 (k : Int)] (w.drewN d) fun e w' => e = .returned (.bool true) ∧ w.drewN d = w') := Lib.hid fun d => by
    have := has_any (hN.below (below_drew (Below.refl _ w) d)) (k : Int)
    rwa [show hasN s (k : Int) = true by unfold hasN; rw [decide_eq_true (by omega), decide_eq_true (by omega)]; rfl] at this
  have HNC := Lib.hid hN
  have HUN := Lib.hid h
  obtain ⟨b, cap, x, ao, cN, c2, hg, hcp1, hcp2, hb1, hb2, hx, e0, e1, e2, e3, e4, hi⟩ := hN.at_ hk
  have hx' : getN s k = x := hx.symm
  unfold copyN
  rw [hx'] at hfew ⊢
  clear hx hx'
  obtain ⟨⟨vv, ps, k1, k2, k3, k4⟩, _, k6, k7⟩ := hN
  have hc1 : w.cell? ⟨a, 1, none⟩ = some (.int .i64 s.room) := by rw [cell_heap k1]; rfl
  have hvv : vv = .slice (some ⟨b, 0, none⟩) s.l.length cap := by
    have : w.cell? ⟨a, 2, none⟩ = some vv := by rw [cell_heap k1]; rfl
    rw [c2] at this
    simpa using this.symm
  subst hvv
  have hf2 := free_heap k1 2
  have HK1 : Hid (w.heap[a]? = some (netObj s (.slice (some ⟨b, 0, none⟩) s.l.length cap) mb)) := Lib.hid k1
  have HK2 := Lib.hid k2; have HK3 := Lib.hid k3; have HK4 := Lib.hid k4
  have HAP := Lib.hid HNC.out.apart
  have HIC := Lib.hid hi
  obtain ⟨mf, mt, mk, ns⟩ := x
  simp only at e0 e1 e2 e3 hfew
  have HCP : Hid (∀ w', Below w.heap.size w w' → Calls Try.prog 27 #[.agg #[.int .i64 mf, .int .i64 mt, .int .i64 mk, .slice ao ns.length cN, .slice none 0 0]] w' fun e w'' => ∃ v, e = .returned (.agg #[.int .i64 mf, .int .i64 mt, .int .i64 mk, v, .slice none 0 0]) ∧ OwnI w'' w'.heap.size 2 v ns ∧ Below w'.heap.size w' w'') := Lib.hid fun w' hb => copied_any mf mt mk ao ns.length cN ns w' (HIC.out.below hb) hfew
  have d0 : decide (s.room ≤ (s.l.length : Int)) = false := decide_eq_false (by omega)
  have hbytes : s.l.length + 1 ≤ 1000000000 := by omega
  have HSC : Hid (base ≤ w.heap.size) := Lib.hid h.size
  have hkn : (k : Int) < (s.l.length : Int) := by omega
  clear k1 k2 k3 k4 hi h
  generalize htn : s.l.length = tn at *
  have HTN := Lib.hid htn; clear htn
  go_enter Try.func13, Try.ntmps13
  go_wp2_with fail
  go_quiet ((go_at_call 28; exact quiet_left (HH.out _)))
  go_wp2_with fail
  go_region_law (first
    | (refine step_append_mv (by rfl) (.tmp 25) (.tmp 34) (by rfl) base _ ps tn (by rfl) (by exact (HW.out _ rfl).1) w5.heap.size ⟨⟨mf, mt, mk, ns⟩, .slice av ns.length cv⟩ (by rfl) (by rfl) (by exact (HW.out _ rfl).2.2.1) hbytes (by exact Nat.le_trans HB5.out (Nat.le_of_eq (HW.out _ rfl).2.2.2.symm)) ?_; intro g2 cap3 w9 hown9 hgr9 hat9; have hA9 : w9.heap[a]? = some (netObj s (.slice (some ⟨b, 0, none⟩) tn cap) mb) := (hgr9.block a (lt_of_heap (HW.out _ rfl).2.1) (fun e => HAP.out.2.1 (by rw [← HK3.out]; exact e.symm))).trans (HW.out _ rfl).2.1; have hcb9 : w9.cell? ⟨a, 2, none⟩ = some (.slice (some ⟨b, 0, none⟩) tn cap) := (cell_heap hA9 2).trans rfl; have hfb9 := free_heap hA9 2)
    | (go_simp; go_at_call 27; refine (HCP.out _ (by exact below_drew (Below.refl w.heap.size w) _)).mono ?_; rintro e w5 ⟨v5, rfl, hv5, hb5⟩; obtain ⟨av, cv, rfl, _⟩ := hv5.isI; have hb5' : Below w.heap.size w w5 := ⟨hb5.os, hb5.tape, hb5.output, hb5.size, hb5.block⟩; have ha25 := cell_later hb5' c2; have ha25a := cell_later ((Below.refl w5.heap.size w5).alloc (Nat.le_refl _) (.cells #[.int .i64 mf, .int .i64 mt, .int .i64 mk, .slice av ns.length cv, .slice none 0 0] 32)) ha25; have HW := Lib.hid (send_prep HK1.out (by rw [HTN.out]; exact HK2.out) hb5' ⟨mf, mt, mk, ns⟩ (.slice av ns.length cv)); rw [HTN.out] at HW; have HV5 := Lib.hid hv5; have HB5' := Lib.hid hb5'; have HB5 : Hid (base ≤ w5.heap.size + 1) := Lib.hid (by have := hb5'.size; have := HSC.out; omega); clear hb5 hv5 hb5'))
  all_goals
    have htn := HTN.out
    subst htn
    have hfin := send_fin HNC.out HK1.out HK3.out HK4.out HB5'.out ⟨mf, mt, mk, ns⟩ (.slice av ns.length cv) HV5.out rfl HSC.out (by rfl) (by rfl) (by rfl) (by rfl) hown9 hgr9 (by exact hat9) hA9
    have HF := Lib.hid hfin
    have HAPT := Lib.hid (fun D hD hA => send_apart (D := D) HK1.out HK2.out hown9 hA9 (by have := hfin.1.apart.2.1; simpa using this) hA HV5.out hD)
    clear hfin hown9 hgr9 hat9 hA9 hcb9 hfb9 HW ha25 ha25a
    go_wp2_with fail
    go_ret
    exact ⟨rfl, HUN.out.step HNC.out HF.out.1 HF.out.2.2, Keeps2.only HF.out.2.2 HNC.out.kinds, fun D hD hA => HAPT.out D hD hA⟩
end

/-- truths that came in, one behind the other -/
structure IsFl (w : World) (ao : Option Addr) (n : Nat) (l : List Bool) : Prop where
  len : l.length = n
  at_ : n = 0 ∨ ∃ b off, ao = some ⟨b, off, none⟩ ∧ ∀ i, i < n → w.cell? ⟨b, off + i, none⟩ = some (.bool (l.getD i false))
theorem IsFl.below {w w' : World} {ao : Option Addr} {n : Nat} {l : List Bool} (h : IsFl w ao n l) (hb : Below w.heap.size w w') : IsFl w' ao n l := by
  refine ⟨h.len, ?_⟩
  rcases h.at_ with h0 | ⟨b, off, h1, h2⟩
  · exact .inl h0
  · exact .inr ⟨b, off, h1, fun i hi => cell_later hb (h2 i hi)⟩
/-- a message with one number -/
theorem ready_one (wp : World) (f t k x : Int) : Ready wp ((wp.alloc (.cells #[.int .i64 x] 2)).alloc (.cells #[.int .i64 f, .int .i64 t, .int .i64 k, .slice (some ⟨wp.heap.size, 0, none⟩) 1 1, .slice none 0 0] 32)) (wp.heap.size + 1) [⟨f, t, k, [x]⟩] := by
  have h0 := heap_new wp (.cells #[.int .i64 x] 2)
  have hh := heap_new (wp.alloc (.cells #[.int .i64 x] 2)) (.cells #[.int .i64 f, .int .i64 t, .int .i64 k, .slice (some ⟨wp.heap.size, 0, none⟩) 1 1, .slice none 0 0] 32)
  have h1 := heap_old h0 (.cells #[.int .i64 f, .int .i64 t, .int .i64 k, .slice (some ⟨wp.heap.size, 0, none⟩) 1 1, .slice none 0 0] 32)
  have hsz : (wp.alloc (.cells #[.int .i64 x] 2)).heap.size = wp.heap.size + 1 := by simp
  rw [hsz] at hh
  refine ⟨((Below.refl _ _).alloc (Nat.le_refl _) _).alloc (by simp) _, Nat.le_succ _, ⟨?_, ?_⟩, ?_, ⟨_, _, hh⟩⟩
  · intro i hi
    obtain rfl : i = 0 := by simpa using hi
    refine ⟨some ⟨wp.heap.size, 0, none⟩, 1, ?_, ?_, ?_, ?_, ?_, ⟨rfl, (fun e => by cases e), .inr ⟨_, _, rfl, fun j hj => ?_⟩⟩⟩
    · rw [cell_heap hh]; rfl
    · rw [cell_heap hh]; rfl
    · rw [cell_heap hh]; rfl
    · rw [cell_heap hh]; rfl
    · rw [cell_heap hh]; rfl
    · obtain rfl : j = 0 := by have : j < 1 := hj; omega
      rw [Nat.zero_add, cell_heap h1]; rfl
  · intro i hi
    obtain rfl : i = 0 := by simpa using hi
    exact Nat.le_of_ble_eq_true rfl
  · intro i off c j hi hc
    obtain rfl : i = 0 := by simpa using hi
    rw [cell_heap hh] at hc
    simp at hc
    obtain ⟨⟨rfl, _⟩, _⟩ := hc
    exact ⟨_, _, h1⟩
def ones (l : List Int) : List (List Int) := l.map fun x => [x]
def ordN (l : List Ms) : Nt := ⟨3, 100, l⟩
theorem ord_send (l : List Ms) (f t x : Int) (h1 : 0 ≤ f) (h2 : f < 3) (h3 : 0 ≤ t) (h4 : t < 3) (hl : l.length < 100) : sendAll (ordN l) [] [⟨f, t, 0, [x]⟩] = ordN (l ++ [⟨f, t, 0, [x]⟩]) := by
  show sendOne (ordN l) [] ⟨f, t, 0, [x]⟩ = _
  unfold sendOne goes isNode
  rw [decide_eq_true h1, decide_eq_true h3, decide_eq_true (show f < (ordN l).nodes from h2), decide_eq_true (show t < (ordN l).nodes from h4), decide_eq_true (show ((ordN l).l.length : Int) < (ordN l).room by show (l.length : Int) < 100; omega)]
  rfl
end Go.Proofs.Ytmehgkbhpfcmpaa
