/-
  A node is read. No condition.
-/
import Derived.Test.YtaoligpckpabfaaPut
import Derived.Deep.RegionLaw
namespace Go.Proofs.Ytaoligpckpabfaa
open Go.RowKit
theorem info9 : (Try.prog.info? 9).map (fun i => (i.zero, i.size, i.bytes)) = some (some (.string ByteArray.empty), 1, 16) := by kernel_rfl
/-- where a row's block lies -/
theorem rows_block {w : World} {base : Nat} {e : TypeId} {size n : Nat} {v : Value} {xs : List Value} (h : w.ownsRow base e size v n xs) {j : Nat} (hj : v.ownBlock = some j) :
    base ≤ j ∧ j < w.heap.size ∧ ∃ cur, w.heap[j]? = some (.cells cur e (0, 0)) := by
  rcases h.2 with ⟨rfl, _⟩ | ⟨g, cap, cur, rfl, hb, hh, _⟩
  · cases hj
  · cases hj
    exact ⟨hb, lt_of_heap hh, cur, hh⟩
theorem rows_keep {w w' : World} {base : Nat} {e : TypeId} {size n : Nat} {v : Value} {xs : List Value} (h : w.ownsRow base e size v n xs) (hk : ∀ j, v.ownBlock = some j → w'.heap[j]? = w.heap[j]?) : w'.ownsRow base e size v n xs := by
  refine ⟨h.1, ?_⟩
  rcases h.2 with h2 | ⟨g, cap, cur, rfl, hg, hh, r⟩
  · exact .inl h2
  · exact .inr ⟨g, cap, cur, rfl, hg, by rw [hk g rfl]; exact hh, r⟩
theorem rows_only {w w' : World} {base : Nat} {e : TypeId} {size n : Nat} {v : Value} {xs : List Value} {S : List Nat} (h : w.ownsRow base e size v n xs) (ho : Only S w w') (hs : ∀ k ∈ S, k < base) : w'.ownsRow base e size v n xs :=
  rows_keep h fun j hj => by
    obtain ⟨h1, h2, _⟩ := rows_block h hj
    exact ho.block j h2 fun hm => by have := hs j hm; omega
/-- another row's growth leaves it, where the elements' types differ -/
theorem rows_grown {w w' : World} {base b2 : Nat} {e e2 : TypeId} {size n s2 n2 : Nat} {v v2 : Value} {xs x2 : List Value} (h : w.ownsRow base e size v n xs) (h2 : w.ownsRow b2 e2 s2 v2 n2 x2) (hne : e ≠ e2) (hg : w.grownBy w' v2.ownBlock) : w'.ownsRow base e size v n xs :=
  rows_keep h fun j hj => by
    obtain ⟨_, hlt, cur, hh⟩ := rows_block h hj
    refine hg.block j hlt fun he => ?_
    obtain ⟨_, _, cur2, hh2⟩ := rows_block h2 he.symm
    rw [hh] at hh2
    cases hh2
    exact hne rfl
theorem rows_mono {w : World} {base b2 : Nat} {e : TypeId} {size n : Nat} {v : Value} {xs : List Value} (h : w.ownsRow base e size v n xs) (hb : b2 ≤ base) : w.ownsRow b2 e size v n xs := by
  refine ⟨h.1, ?_⟩
  rcases h.2 with h2 | ⟨g, cap, cur, rfl, hg, hh, r⟩
  · exact .inl h2
  · exact .inr ⟨g, cap, cur, rfl, Nat.le_trans hb hg, hh, r⟩
theorem rows_shape {w : World} {base : Nat} {e : TypeId} {size n : Nat} {v : Value} {xs : List Value} (h : w.ownsRow base e size v n xs) : ∃ ao c, v = .slice ao n c ∧ n ≤ c ∧ c ≤ 9223372036854775807 := by
  rcases h.2 with ⟨rfl, rfl⟩ | ⟨g, cap, cur, rfl, hb, hh, hn, hm, hs, ht⟩
  · exact ⟨none, 0, rfl, by omega, by decide⟩
  · unfold maxLen at hm
    exact ⟨_, cap, rfl, hn, by omega⟩
theorem rows_below {w w' : World} {base : Nat} {e : TypeId} {size n : Nat} {v : Value} {xs : List Value} (h : w.ownsRow base e size v n xs) (hb : Below w.heap.size w w') : w'.ownsRow base e size v n xs :=
  rows_keep h fun j hj => hb.block j (rows_block h hj).2.1

/-- APPEND of one text: the operation alone -/
theorem wp_append_text {w : World} {o : Oper} {a : Act} {K : Act → World → Prop} {Q : Exit → Act → World → Prop} (s x : Operand)
    (ho : o.op = .call { callee := .builtin .append, args := #[s, x], argTypes := #[22, 22] })
    (base : Nat) (v : Value) (l : List ByteArray) (hs : a.eval s = v) (hown : OwnS w base 9 v l) (y : ByteArray)
    (b : Nat) (hx : a.eval x = .slice (some ⟨b, 0, none⟩) 1 1) (hcell : w.cell? ⟨b, 0, none⟩ = some (.string y)) (hl : l.length ≤ 1000000) (hbase : base ≤ w.heap.size)
    (h : ∀ ao' c' w', OwnS w' base 9 (.slice ao' (l.length + 1) c') (l ++ [y]) → Below base w w' → K (a.put o.dst (.slice ao' (l.length + 1) c')) w') : o.wp Try.prog a w K Q := by
  obtain ⟨i0, hi0, hz0, hz1, hz2⟩ := info_parts info9
  refine wp_append_own w s x 22 ho base 9 i0 (.string ByteArray.empty) 1 16 Try.underlying22 hi0 hz0 hz1 hz2 rfl (by decide) v _ _ hs hown ⟨b, 0, none⟩ 1 1 [sv y] hx rfl ?_ ?_ (by unfold maxLen; omega) (by omega) hbase ?_
  · intro j u hj
    match j, hj with
    | 0, hj => rw [Addr.add_lit]; simp at hj; rw [hcell, ← hj]; rfl
  · intro u hu
    obtain rfl := List.mem_singleton.1 hu
    rfl
  · intro v' w' h2 h3 _
    obtain ⟨a1, c1, rfl, _⟩ := rows_shape h2
    have hb : Below base w w' := (Below.refl base w).grown h3 hbase (fun k hk => (rows_block hown hk).1)
    refine h a1 c1 w' ?_ hb
    unfold OwnS
    rw [List.map_append, List.length_append]; exact h2
/-- the step of a drawn region -/
theorem wanted_step {w : World} {ops : Array Oper} {o : Oper} {a : Act} {K : Act → World → Prop} {Q : Exit → Act → World → Prop} {E : Prop} (hgd : o.guard = none) (h : o.wp Try.prog a w K Q) :
    if Region.wanted o (yielded ops a.tmps) = true then Oper.wp Try.prog o a w K Q else E := by
  rw [if_pos (by simp [Region.wanted, hgd])]; exact h
theorem ones_arr {cs : List Value} (h : ∀ v ∈ cs, v.oneCell' = true) : cs.toArray.all (·.oneCell') = true :=
  Array.all_eq_true_iff_forall_mem.2 (fun v hv => h v (by simpa using hv))
theorem cellsN_ones (s : Nd) (ao : Option Addr) (n c : Nat) : (cellsN s (.slice ao n c)).all (·.oneCell') = true := by
  refine Array.all_eq_true_iff_forall_mem.2 fun u hu => ?_
  simp only [cellsN, List.mem_toArray, List.mem_cons, List.not_mem_nil, or_false] at hu
  rcases hu with rfl | rfl | rfl | rfl | rfl | rfl | rfl | rfl | rfl | rfl <;> rfl
/-- texts, one behind another -/
def rTs : Nat → List UInt8 → Bool → Rd (List ByteArray)
  | 0, l, bad => ⟨[], l, bad⟩
  | n + 1, l, bad => ⟨(rTs n l bad).v ++ [(rT (rTs n l bad).l (rTs n l bad).bad 40).v], (rT (rTs n l bad).l (rTs n l bad).bad 40).l, (rT (rTs n l bad).l (rTs n l bad).bad 40).bad⟩
theorem rTs_len (n : Nat) (l : List UInt8) (bad : Bool) : (rTs n l bad).l.length ≤ l.length ∧ (rTs n l bad).v.length = n := by
  induction n with
  | zero => exact ⟨Nat.le_refl _, rfl⟩
  | succ n ih =>
    have h := rT_len (rTs n l bad).l (rTs n l bad).bad 40
    refine ⟨?_, ?_⟩
    · simp only [rTs]; omega
    · simp only [rTs, List.length_append, ih.2, List.length_cons, List.length_nil]
def zeroN : Nd := ⟨0, 0, 0, 0, 0, 0, 0, ⟨#[]⟩, 0, []⟩
/-- a node, as far as its bytes tell -/
def getG (l : List UInt8) (bad : Bool) : Rd Nd :=
  let a := rI l bad; let b := rI a.l a.bad; let c := rC b.l b.bad 2147483647; let d := rC c.l c.bad 2147483647; let e := rI d.l d.bad; let f := rC e.l e.bad 2147483647; let g := rT f.l f.bad 1000; let k := rC g.l g.bad 500; let ns := rTs k.v.toNat k.l k.bad
  ⟨⟨a.v, b.v, c.v, d.v, e.v, g.v.size, (ns.v.length : Nat), g.v, f.v, ns.v⟩, ns.l, ns.bad⟩
def okG (r : Rd Nd) : Bool := !r.bad && risS r.v.names
/-- what Get answers -/
def getN (r : Rd Nd) : Nd := if okG r then r.v else zeroN
theorem risS_snoc (l : List ByteArray) (x : ByteArray) : risS (l ++ [x]) = (risS l && (decide (l.length = 0) || ltB (l.getD (l.length - 1) ByteArray.empty) x)) := by
  rw [Bool.eq_iff_iff, Bool.and_eq_true, risS_iff, risS_iff, Bool.or_eq_true, decide_eq_true_iff]
  unfold Ris
  rw [List.pairwise_append]
  constructor
  · rintro ⟨h1, _, h2⟩
    refine ⟨h1, ?_⟩
    by_cases h0 : l.length = 0
    · exact .inl h0
    · refine .inr (h2 _ ?_ x (by simp))
      simp [show l.length - 1 < l.length by omega]
  · rintro ⟨h1, h2⟩
    refine ⟨h1, List.pairwise_singleton _ _, fun a ha b hb => ?_⟩
    obtain rfl := List.mem_singleton.1 hb
    rcases h2 with h2 | h2
    · rw [List.length_eq_zero_iff.1 h2] at ha; cases ha
    · obtain ⟨i, hi, rfl⟩ := List.getElem_of_mem ha
      have hl : ltB l[l.length - 1] b = true := by simpa [show l.length - 1 < l.length by omega] using h2
      by_cases he : i = l.length - 1
      · subst he; exact hl
      · exact ltB_trans (List.pairwise_iff_getElem.1 h1 i (l.length - 1) hi (by omega) (by omega)) hl
theorem results_row_tmp {fn : Func} {p u : Tmp} (h : fn.results = #[.cell p 27, .tmp u]) (tmps : Array Value) (w : World) (g : Nat) (cs : Array Value) (x : Value)
    (hp : tmps.getD p undef = .pointer (some ⟨g, 0, none⟩)) (hx : tmps.getD u undef = x) (hg : w.heap[g]? = some (.cells cs 27 (0, 0))) (hn : cs.size = 10) :
    (results fn tmps).run Try.prog w = .ok (.tuple #[.agg cs, x]) w := by
  have hl := run_loadVar_row (P := Try.prog) w g 27 27 cs (0, 0) _ hg Try.underlying27 rfl (by rw [hn]; exact size27)
  rw [results_cell_tmp h, hp, hx]
  simp [asAddr, hl, Result.andThen]
/-- where reading stands: the result that grows lies in block X, its names from block B on, the answer's cell in block R, the reader in block p -/
structure RdS (w W : World) (p : Nat) (T : Nat → Prop) (R X B : Nat) (l : List UInt8) (bad : Bool) (cs : Array Value) (v : Value) (ns : List ByteArray) : Prop where
  rd : IsR W p T l bad
  only : Only [p] w W
  at_ : W.heap[X]? = some (.cells cs 27 (0, 0))
  res : W.heap[R]? = some (.cells #[.int .i64 0, .int .i64 0, .int .i64 0, .int .i64 0, .int .i64 0, .int .i64 0, .int .i64 0, .string ⟨#[]⟩, .int .i64 0, .slice none 0 0] 27 (0, 0))
  own : OwnS W B 9 v ns
  h1 : w.heap.size ≤ R
  h2 : R < X
  h3 : X < B
  h4 : B ≤ W.heap.size
  h5 : p < w.heap.size
  h6 : ∀ k, T k → k < w.heap.size
theorem RdS.read {w W u : World} {p : Nat} {T : Nat → Prop} {R X B : Nat} {l l' : List UInt8} {bad bad' : Bool} {cs : Array Value} {v : Value} {ns : List ByteArray} (h : RdS w W p T R X B l bad cs v ns) (hr : IsR u p T l' bad') (ho : Only [p] W u) : RdS w u p T R X B l' bad' cs v ns :=
  ⟨hr, h.only.trans ho, ho.keeps h.at_ (by have := h.h1; have := h.h2; have := h.h5; simp; omega), ho.keeps h.res (by have := h.h1; have := h.h2; have := h.h5; simp; omega), rows_only h.own ho (by have := h.h1; have := h.h2; have := h.h3; have := h.h5; simp; omega), h.h1, h.h2, h.h3, Nat.le_trans h.h4 ho.size, h.h5, h.h6⟩
theorem RdS.set {w W : World} {p : Nat} {T : Nat → Prop} {R X B : Nat} {l : List UInt8} {bad : Bool} {cs : Array Value} {v : Value} {ns : List ByteArray} (h : RdS w W p T R X B l bad cs v ns) (j : Nat) (x : Value) : RdS w (W.setCell ⟨X, j, none⟩ x) p T R X B l bad (cs.setIfInBounds j x) v ns := by
  have o : Only [X] W (W.setCell ⟨X, j, none⟩ x) := (Only.refl _ _).setCell (by simp) _
  have a1 := h.h1; have a2 := h.h2; have a3 := h.h3; have a5 := h.h5; have a6 := h.h6
  refine ⟨h.rd.keep o (by simp; omega) (fun k hk => by have := a6 k hk; simp; omega), ?_, heap_set h.at_ j x, o.keeps h.res (by simp; omega), rows_only h.own o (by simp; omega), a1, a2, a3, by have := h.h4; have := o.size; omega, a5, a6⟩
  exact ((h.only.mono (T := [p, X]) (by simp)).trans (o.mono (by simp))).cut (by simp; omega)
theorem RdS.app {w W u : World} {p : Nat} {T : Nat → Prop} {R X B : Nat} {l : List UInt8} {bad : Bool} {cs : Array Value} {v v' : Value} {ns ns' : List ByteArray} (h : RdS w W p T R X B l bad cs v ns) (hb : Below B W u) (ho : OwnS u B 9 v' ns') : RdS w u p T R X B l bad cs v' ns' := by
  have a1 := h.h1; have a2 := h.h2; have a3 := h.h3; have a4 := h.h4; have a5 := h.h5; have a6 := h.h6
  refine ⟨?_, ⟨hb.os.trans h.only.os, hb.tape.trans h.only.tape, hb.output.trans h.only.output, Nat.le_trans h.only.size hb.size, fun k hk hn => (hb.block k (by omega)).trans (h.only.block k hk hn)⟩, by rw [hb.block X a3]; exact h.at_, by rw [hb.block R (by omega)]; exact h.res, ho, a1, a2, a3, Nat.le_trans a4 hb.size, a5, a6⟩
  obtain ⟨⟨ao, n, c, k1, k2, k3, k4⟩, hne⟩ := h.rd
  refine ⟨⟨ao, n, c, by rw [hb.block p (by omega)]; exact k1, ?_, k3, k4⟩, hne⟩
  refine ⟨k2.len, k2.nil, ?_⟩
  rcases k2.at_ with g3 | ⟨b, off, g4, g5⟩
  · exact .inl g3
  · have hbB : b < B := by have := a6 b (k4 _ g4); omega
    exact .inr ⟨b, off, g4, fun i hi => (World.cell?_of_block (hb.block b hbB)).trans (g5 i hi)⟩
theorem RdS.drew {w W : World} {p : Nat} {T : Nat → Prop} {R X B : Nat} {l : List UInt8} {bad : Bool} {cs : Array Value} {v : Value} {ns : List ByteArray} (h : RdS w W p T R X B l bad cs v ns) : RdS w W.drew p T R X B l bad cs v ns :=
  h.app (below_drew (Below.refl _ _) 1) h.own
theorem RdS.alloc {w W : World} {p : Nat} {T : Nat → Prop} {R X B : Nat} {l : List UInt8} {bad : Bool} {cs : Array Value} {v : Value} {ns : List ByteArray} (h : RdS w W p T R X B l bad cs v ns) (o : Obj) : RdS w (W.alloc o) p T R X B l bad cs v ns :=
  h.app ((Below.refl _ _).alloc h.h4 o) (rows_below h.own ((Below.refl _ _).alloc (Nat.le_refl _) o))
theorem RdS.cell {w W : World} {p : Nat} {T : Nat → Prop} {R X B : Nat} {l : List UInt8} {bad : Bool} {cs : Array Value} {v : Value} {ns : List ByteArray} (h : RdS w W p T R X B l bad cs v ns) (j : Nat) : W.cell? ⟨X, j, none⟩ = cs[j]? := cell_heap h.at_ j
theorem RdS.free {w W : World} {p : Nat} {T : Nat → Prop} {R X B : Nat} {l : List UInt8} {bad : Bool} {cs : Array Value} {v : Value} {ns : List ByteArray} (h : RdS w W p T R X B l bad cs v ns) (j : Nat) : W.frozen? ⟨X, j, none⟩ = false := free_heap h.at_ j


set_option maxHeartbeats 8000000 in
set_option maxRecDepth 100000 in
theorem get_any (p : Nat) (T : Nat → Prop) (l : List UInt8) (bad : Bool) (w : World) (h : IsR w p T l bad) (hT : ∀ k, T k → k < w.heap.size) (hl : l.length ≤ 100000000000000) :
    Calls Try.prog 25 #[.pointer (some ⟨p, 0, none⟩)] w fun e w' => ∃ ao c, e = .returned (.tuple #[aggN (getN (getG l bad)) (.slice ao (getN (getG l bad)).names.length c), .bool (okG (getG l bad))]) ∧ OwnS w' w.heap.size 9 (.slice ao (getN (getG l bad)).names.length c) (getN (getG l bad)).names ∧ (getN (getG l bad)).names.length ≤ 500 ∧ Only [p] w w' := by
  have hp : p < w.heap.size := by
    obtain ⟨⟨ao, n, c, h1, _⟩, _⟩ := h
    exact lt_of_heap h1
  have HL0 := hl
  go_enter Try.func25, Try.ntmps25
  go_wp2_with fail
  have hb0 : Below w.heap.size w ((w.alloc (.cells #[.int .i64 0, .int .i64 0, .int .i64 0, .int .i64 0, .int .i64 0, .int .i64 0, .int .i64 0, .string ⟨#[]⟩, .int .i64 0, .slice none 0 0] 27)).alloc (.cells #[.int .i64 0, .int .i64 0, .int .i64 0, .int .i64 0, .int .i64 0, .int .i64 0, .int .i64 0, .string ⟨#[]⟩, .int .i64 0, .slice none 0 0] 27)) := below_two _ _ _
  have hs0 : RdS w ((w.alloc (.cells #[.int .i64 0, .int .i64 0, .int .i64 0, .int .i64 0, .int .i64 0, .int .i64 0, .int .i64 0, .string ⟨#[]⟩, .int .i64 0, .slice none 0 0] 27)).alloc (.cells #[.int .i64 0, .int .i64 0, .int .i64 0, .int .i64 0, .int .i64 0, .int .i64 0, .int .i64 0, .string ⟨#[]⟩, .int .i64 0, .slice none 0 0] 27)) p T w.heap.size (w.heap.size + 1) (w.heap.size + 2) l bad #[.int .i64 0, .int .i64 0, .int .i64 0, .int .i64 0, .int .i64 0, .int .i64 0, .int .i64 0, .string ⟨#[]⟩, .int .i64 0, .slice none 0 0] (.slice none 0 0) [] :=
    ⟨h.only hb0, Only.ofBelow hb0 _, by have := heap_new (w.alloc (.cells #[.int .i64 0, .int .i64 0, .int .i64 0, .int .i64 0, .int .i64 0, .int .i64 0, .int .i64 0, .string ⟨#[]⟩, .int .i64 0, .slice none 0 0] 27)) (.cells #[.int .i64 0, .int .i64 0, .int .i64 0, .int .i64 0, .int .i64 0, .int .i64 0, .int .i64 0, .string ⟨#[]⟩, .int .i64 0, .slice none 0 0] 27); simpa using this, heap_old (heap_new _ _) _, OwnS.nil _ _ _, Nat.le_refl _, Nat.lt_succ_self _, Nat.lt_succ_self _, by simp, hp, hT⟩
  have HS0 := Lib.hid hs0
  clear hs0 hb0 h
  generalize ((w.alloc (.cells #[.int .i64 0, .int .i64 0, .int .i64 0, .int .i64 0, .int .i64 0, .int .i64 0, .int .i64 0, .string ⟨#[]⟩, .int .i64 0, .slice none 0 0] 27)).alloc (.cells #[.int .i64 0, .int .i64 0, .int .i64 0, .int .i64 0, .int .i64 0, .int .i64 0, .int .i64 0, .string ⟨#[]⟩, .int .i64 0, .slice none 0 0] 27)) = w0 at *
  have hXR : w.heap.size < w.heap.size + 1 := Nat.lt_succ_self _
  have hXB : w.heap.size + 1 < w.heap.size + 2 := Nat.lt_succ_self _
  generalize w.heap.size + 2 = B at *
  generalize w.heap.size + 1 = X at *
  refine (rdI64_any p l bad _ HS0.out.rd (by omega)).mono ?_
  rintro e u1 ⟨rfl, hr1, ho1⟩
  have hs1 := HS0.out.read hr1 ho1
  have HL10 := Nat.le_trans (rI_len l bad) HL0
  generalize hE1 : rI l bad = e1 at *
  have HE1 := Lib.hid hE1
  have HL1 : e1.l.length ≤ 100000000000000 := HL10
  clear hr1 ho1 hE1 HL10
  have hf1 := hs1.free 0
  have hq1 : u1.cell? ⟨X, 0, none⟩ = some (.int .i64 0) := hs1.cell 0
  have ht1 : RdS w (u1.setCell ⟨X, 0, none⟩ (.int .i64 e1.v)) p T w.heap.size X B e1.l e1.bad #[.int .i64 e1.v, .int .i64 0, .int .i64 0, .int .i64 0, .int .i64 0, .int .i64 0, .int .i64 0, .string ⟨#[]⟩, .int .i64 0, .slice none 0 0] _ _ := hs1.set 0 (.int .i64 e1.v)
  have HT1 := Lib.hid ht1
  clear hs1 ht1
  go_wp2_with fail
  clear hf1 hq1
  refine (rdI64_any p e1.l e1.bad _ HT1.out.rd (by omega)).mono ?_
  rintro e u2 ⟨rfl, hr2, ho2⟩
  have hs2 := HT1.out.read hr2 ho2
  have HL20 := Nat.le_trans (rI_len e1.l e1.bad) HL1
  generalize hE2 : rI e1.l e1.bad = e2 at *
  have HE2 := Lib.hid hE2
  have HL2 : e2.l.length ≤ 100000000000000 := HL20
  clear hr2 ho2 hE2 HL20
  have hf2 := hs2.free 1
  have hq2 : u2.cell? ⟨X, 1, none⟩ = some (.int .i64 0) := hs2.cell 1
  have ht2 : RdS w (u2.setCell ⟨X, 1, none⟩ (.int .i64 e2.v)) p T w.heap.size X B e2.l e2.bad #[.int .i64 e1.v, .int .i64 e2.v, .int .i64 0, .int .i64 0, .int .i64 0, .int .i64 0, .int .i64 0, .string ⟨#[]⟩, .int .i64 0, .slice none 0 0] _ _ := hs2.set 1 (.int .i64 e2.v)
  have HT2 := Lib.hid ht2
  clear hs2 ht2
  go_wp2_with fail
  clear hf2 hq2
  refine (rdCount_any p e2.l e2.bad 2147483647 _ HT2.out.rd (by omega)).mono ?_
  rintro e u3 ⟨rfl, hr3, ho3⟩
  have hs3 := HT2.out.read hr3 ho3
  have HL30 := Nat.le_trans (rC_len e2.l e2.bad 2147483647) HL2
  generalize hE3 : rC e2.l e2.bad 2147483647 = e3 at *
  have HE3 := Lib.hid hE3
  have HL3 : e3.l.length ≤ 100000000000000 := HL30
  clear hr3 ho3 hE3 HL30
  have hf3 := hs3.free 2
  have hq3 : u3.cell? ⟨X, 2, none⟩ = some (.int .i64 0) := hs3.cell 2
  have ht3 : RdS w (u3.setCell ⟨X, 2, none⟩ (.int .i64 e3.v)) p T w.heap.size X B e3.l e3.bad #[.int .i64 e1.v, .int .i64 e2.v, .int .i64 e3.v, .int .i64 0, .int .i64 0, .int .i64 0, .int .i64 0, .string ⟨#[]⟩, .int .i64 0, .slice none 0 0] _ _ := hs3.set 2 (.int .i64 e3.v)
  have HT3 := Lib.hid ht3
  clear hs3 ht3
  go_wp2_with fail
  clear hf3 hq3
  refine (rdCount_any p e3.l e3.bad 2147483647 _ HT3.out.rd (by omega)).mono ?_
  rintro e u4 ⟨rfl, hr4, ho4⟩
  have hs4 := HT3.out.read hr4 ho4
  have HL40 := Nat.le_trans (rC_len e3.l e3.bad 2147483647) HL3
  generalize hE4 : rC e3.l e3.bad 2147483647 = e4 at *
  have HE4 := Lib.hid hE4
  have HL4 : e4.l.length ≤ 100000000000000 := HL40
  clear hr4 ho4 hE4 HL40
  have hf4 := hs4.free 3
  have hq4 : u4.cell? ⟨X, 3, none⟩ = some (.int .i64 0) := hs4.cell 3
  have ht4 : RdS w (u4.setCell ⟨X, 3, none⟩ (.int .i64 e4.v)) p T w.heap.size X B e4.l e4.bad #[.int .i64 e1.v, .int .i64 e2.v, .int .i64 e3.v, .int .i64 e4.v, .int .i64 0, .int .i64 0, .int .i64 0, .string ⟨#[]⟩, .int .i64 0, .slice none 0 0] _ _ := hs4.set 3 (.int .i64 e4.v)
  have HT4 := Lib.hid ht4
  clear hs4 ht4
  go_wp2_with fail
  clear hf4 hq4
  refine (rdI64_any p e4.l e4.bad _ HT4.out.rd (by omega)).mono ?_
  rintro e u5 ⟨rfl, hr5, ho5⟩
  have hs5 := HT4.out.read hr5 ho5
  have HL50 := Nat.le_trans (rI_len e4.l e4.bad) HL4
  generalize hE5 : rI e4.l e4.bad = e5 at *
  have HE5 := Lib.hid hE5
  have HL5 : e5.l.length ≤ 100000000000000 := HL50
  clear hr5 ho5 hE5 HL50
  have hf5 := hs5.free 4
  have hq5 : u5.cell? ⟨X, 4, none⟩ = some (.int .i64 0) := hs5.cell 4
  have ht5 : RdS w (u5.setCell ⟨X, 4, none⟩ (.int .i64 e5.v)) p T w.heap.size X B e5.l e5.bad #[.int .i64 e1.v, .int .i64 e2.v, .int .i64 e3.v, .int .i64 e4.v, .int .i64 e5.v, .int .i64 0, .int .i64 0, .string ⟨#[]⟩, .int .i64 0, .slice none 0 0] _ _ := hs5.set 4 (.int .i64 e5.v)
  have HT5 := Lib.hid ht5
  clear hs5 ht5
  go_wp2_with fail
  clear hf5 hq5
  refine (rdCount_any p e5.l e5.bad 2147483647 _ HT5.out.rd (by omega)).mono ?_
  rintro e u6 ⟨rfl, hr6, ho6⟩
  have hs6 := HT5.out.read hr6 ho6
  have HL60 := Nat.le_trans (rC_len e5.l e5.bad 2147483647) HL5
  generalize hE6 : rC e5.l e5.bad 2147483647 = e6 at *
  have HE6 := Lib.hid hE6
  have HL6 : e6.l.length ≤ 100000000000000 := HL60
  clear hr6 ho6 hE6 HL60
  have hf6 := hs6.free 8
  have hq6 : u6.cell? ⟨X, 8, none⟩ = some (.int .i64 0) := hs6.cell 8
  have ht6 : RdS w (u6.setCell ⟨X, 8, none⟩ (.int .i64 e6.v)) p T w.heap.size X B e6.l e6.bad #[.int .i64 e1.v, .int .i64 e2.v, .int .i64 e3.v, .int .i64 e4.v, .int .i64 e5.v, .int .i64 0, .int .i64 0, .string ⟨#[]⟩, .int .i64 e6.v, .slice none 0 0] _ _ := hs6.set 8 (.int .i64 e6.v)
  have HT6 := Lib.hid ht6
  clear hs6 ht6
  go_wp2_with fail
  clear hf6 hq6
  refine (rdText_any p e6.l e6.bad 1000 _ HT6.out.rd (by omega)).mono ?_
  rintro e u7 ⟨rfl, hr7, ho7⟩
  have hs7 := HT6.out.read hr7 ho7
  have HL70 := Nat.le_trans (rT_len e6.l e6.bad 1000) HL6
  generalize hE7 : rT e6.l e6.bad 1000 = e7 at *
  have HE7 := Lib.hid hE7
  have HL7 : e7.l.length ≤ 100000000000000 := HL70
  clear hr7 ho7 hE7 HL70
  have hf7 := hs7.free 7
  have hq7 : u7.cell? ⟨X, 7, none⟩ = some (.string ⟨#[]⟩) := hs7.cell 7
  have ht7 : RdS w (u7.setCell ⟨X, 7, none⟩ (.string e7.v)) p T w.heap.size X B e7.l e7.bad #[.int .i64 e1.v, .int .i64 e2.v, .int .i64 e3.v, .int .i64 e4.v, .int .i64 e5.v, .int .i64 0, .int .i64 0, .string e7.v, .int .i64 e6.v, .slice none 0 0] _ _ := hs7.set 7 (.string e7.v)
  have HT7 := Lib.hid ht7
  clear hs7 ht7
  go_wp2_with fail
  clear hf7 hq7
  refine (rdCount_any p e7.l e7.bad 500 _ HT7.out.rd (by omega)).mono ?_
  rintro e u8 ⟨rfl, hr8, ho8⟩
  have hs8 := HT7.out.read hr8 ho8
  have hk0 := rC_pos e7.l e7.bad 500
  have hk5 : (rC e7.l e7.bad 500).v ≤ 500 := by unfold rC; split <;> first | omega | (show (0 : Int) ≤ 500; omega)
  have HL80 := Nat.le_trans (rC_len e7.l e7.bad 500) HL7
  generalize hE8 : rC e7.l e7.bad 500 = e8 at *
  have HE8 := Lib.hid hE8
  have HL8 : e8.l.length ≤ 100000000000000 := HL80
  obtain ⟨kk, hkk⟩ := Int.eq_ofNat_of_zero_le hk0
  rw [hkk] at hk5
  have HS8 := Lib.hid hs8
  have HKK := Lib.hid hkk
  rw [hkk]
  clear hr8 ho8 hE8 hs8 hk0 hkk HL80
  go_wp2_with fail
  go_loopw [5, 35] (fun rv i wr => ∃ k : Nat, k ≤ kk ∧ i = .int .i64 (k : Int) ∧ rv = .bool (risS (rTs k e8.l e8.bad).v) ∧ ∃ a c, RdS w wr p T w.heap.size X B (rTs k e8.l e8.bad).l (rTs k e8.l e8.bad).bad #[.int .i64 e1.v, .int .i64 e2.v, .int .i64 e3.v, .int .i64 e4.v, .int .i64 e5.v, .int .i64 0, .int .i64 0, .string e7.v, .int .i64 e6.v, .slice a k c] (.slice a k c) (rTs k e8.l e8.bad).v) (fun _ i _ => kk - (intOf i).toNat)
  case atStart => exact ⟨0, by omega, rfl, rfl, none, 0, HS8.out⟩
  case round =>
    obtain ⟨k, hk, rfl, rfl, ga, gc, hst⟩ := hrel
    have HST := Lib.hid hst; clear hst
    by_cases hlt : k < kk
    · have hc9 : wr.cell? ⟨X, 9, none⟩ = some (.slice ga k gc) := HST.out.cell 9
      have hlen := (rTs_len k e8.l e8.bad).1
      have HV := Lib.hid (rTs_len k e8.l e8.bad).2
      have HTE := Lib.hid (show rTs (k + 1) e8.l e8.bad = ⟨(rTs k e8.l e8.bad).v ++ [(rT (rTs k e8.l e8.bad).l (rTs k e8.l e8.bad).bad 40).v], (rT (rTs k e8.l e8.bad).l (rTs k e8.l e8.bad).bad 40).l, (rT (rTs k e8.l e8.bad).l (rTs k e8.l e8.bad).bad 40).bad⟩ from rfl)
      generalize rTs k e8.l e8.bad = t at *
      have HRS := Lib.hid (risS_snoc t.v (rT t.l t.bad 40).v)
      generalize hrs : risS t.v = rs at *
      have HRS2 := Lib.hid hrs
      clear hrs
      go_wp2_with fail
      go_region_law (first
        | (go_simp; go_at_call 41; go_must (refine (rdText_any p t.l t.bad 40 _ (by exact HST.out.drew.rd) (by omega)).mono ?_); rintro e u5 ⟨rfl, hr5, ho5⟩; have hs5 := HST.out.drew.read hr5 ho5; have HS5 := Lib.hid hs5; clear hr5 ho5; have hc59 : u5.cell? ⟨X, 9, none⟩ = some (.slice ga k gc) := hs5.cell 9; have hca9 : ∀ o : Obj, (u5.alloc o).cell? ⟨X, 9, none⟩ = some (.slice ga k gc) := fun o => (hs5.alloc o).cell 9; clear hs5)
        | (refine wanted_step rfl (wp_append_text (.tmp 39) (.tmp 42) rfl B (.slice ga k gc) t.v (by rfl) (by exact (HS5.out.alloc _).own) _ u5.heap.size (by rfl) (by rw [cell_heap (heap_new _ _)]; rfl) (by rw [HV.out]; omega) (by exact (HS5.out.alloc _).h4) ?_); intro a6 c6 u6 ho6 hb6; have hs6 := (HS5.out.alloc _).app hb6 ho6; have HS6 := Lib.hid hs6; have hc69 : u6.cell? ⟨X, 9, none⟩ = some (.slice ga k gc) := hs6.cell 9; have hf6 := hs6.free 9; clear ho6 hb6 hs6))
      all_goals
        have hS7 := HS6.out.set 9 (.slice a6 (t.v.length + 1) c6)
        rw [HV.out] at hS7
        rw [HV.out]
        clear hc69 hf6 hc9 hc59 hca9
        have hq9 := hS7.cell 9
        have hform := hS7.own.form (by simp)
        rw [List.length_append, HV.out] at hform
        obtain ⟨gb, gcap, he, hgb, _, hcell, _⟩ := hform
        simp only [List.length_cons, List.length_nil, Nat.zero_add, Value.slice.injEq, true_and] at he
        obtain ⟨rfl, rfl⟩ := he
        generalize (u6.setCell ⟨X, 9, none⟩ (.slice (some ⟨gb, 0, none⟩) (k + 1) c6)) = wx at *
        replace hq9 : wx.cell? ⟨X, 9, none⟩ = some (.slice (some ⟨gb, 0, none⟩) (k + 1) c6) := hq9
        have hck := hcell k (by simp)
        have HCELL := Lib.hid hcell
        rw [List.getD_eq_getElem?_getD, List.getElem?_append_right (by rw [HV.out]; omega), HV.out, Nat.sub_self] at hck
        simp only [List.getElem?_cons_zero, Option.getD_some] at hck
        have HTE2 := Lib.hid (show (rTs (k + 1) e8.l e8.bad).v = t.v ++ [(rT t.l t.bad 40).v] by rw [HTE.out])
        generalize hxx : rT t.l t.bad 40 = xr at *
        have HS7 := Lib.hid hS7
        have HGO : ∀ (d : Nat), Hid (RdS w (wx.drewN d) p T w.heap.size X B xr.l xr.bad #[.int .i64 e1.v, .int .i64 e2.v, .int .i64 e3.v, .int .i64 e4.v, .int .i64 e5.v, .int .i64 0, .int .i64 0, .string e7.v, .int .i64 e6.v, .slice (some ⟨gb, 0, none⟩) (k + 1) c6] (.slice (some ⟨gb, 0, none⟩) (k + 1) c6) (t.v ++ [xr.v])) := fun d =>
          Lib.hid (HS7.out.app (below_drew (Below.refl _ _) d) (HS7.out.own.below (below_drew (Below.refl _ _) d)))
        clear hS7 hcell
        by_cases hk0 : k = 0
        · have g0 : ((k : Int) == 0) = true := by simp [hk0]
          have hv0 : t.v = [] := List.length_eq_zero_iff.1 (HV.out.trans hk0)
          have hr0 : rs = true := by rw [← HRS2.out, hv0]; rfl
          have hr1 : risS (t.v ++ [xr.v]) = true := by rw [HRS.out, hr0, hv0]; rfl
          subst hr0
          have HR1 := Lib.hid hr1
          clear hk0 hv0 hr1
          go_wp2_with fail
          go_quiet (fail)
          go_wp2_with fail
          go_roundw
          case rel => exact ⟨k + 1, by omega, by go_num, by rw [HTE2.out, HR1.out], _, _, by rw [HTE.out]; exact (HGO _).out⟩
          case measure => simp [intOf]; omega
        · have hck1 := HCELL.out (k - 1) (by simp; omega)
          rw [List.getD_eq_getElem?_getD, List.getElem?_append_left (by rw [HV.out]; omega), ← List.getD_eq_getElem?_getD] at hck1
          have g0 : ((k : Int) == 0) = false := by simp [hk0]
          have q1 : IntKind.i64.wrap ((k : Int) - 1) = (k : Int) - 1 := IntWalk.i64_in _ (by omega)
          have q2 : (0 : Int) ≤ (k : Int) - 1 := by omega
          have q22 : 1 ≤ (k : Int) := by omega
          have q3 : ((k : Int) - 1).toNat = k - 1 := by omega
          have q4 : (k : Int) - 1 < (k : Int) + 1 := by omega
          have hrr : risS (t.v ++ [xr.v]) = (rs && ltB (t.v.getD (k - 1) ByteArray.empty) xr.v) := by rw [HRS.out, HV.out, decide_eq_false hk0, Bool.false_or]
          have HRR := Lib.hid hrr
          clear hrr
          generalize t.v.getD (k - 1) ByteArray.empty = y at *
          generalize hxv : xr.v = xv at *
          have HXV := Lib.hid hxv
          clear hxv
          cases rs with
          | false =>
            go_wp2_with fail
            go_quiet (fail)
            go_wp2_with fail
            go_roundw
            case rel => exact ⟨k + 1, by omega, by go_num, by rw [HTE2.out, HRR.out]; rfl, _, _, by rw [HTE.out]; exact (HGO _).out⟩
            case measure => simp [intOf]; omega
          | true =>
            by_cases hyx : ltB y xv = true
            · have g5 : Op.bytesLess y.toList xv.toList = true := hyx
              have HYX := Lib.hid hyx
              clear hyx
              go_wp2_with fail
              go_quiet (fail)
              go_wp2_with fail
              go_roundw
              case rel => exact ⟨k + 1, by omega, by go_num, by rw [HTE2.out, HRR.out, HYX.out]; rfl, _, _, by rw [HTE.out]; exact (HGO _).out⟩
              case measure => simp [intOf]; omega
            · have hyx2 : ltB y xv = false := by simpa using hyx
              have g5 : Op.bytesLess y.toList xv.toList = false := hyx2
              have HYX := Lib.hid hyx2
              clear hyx hyx2
              go_wp2_with fail
              go_quiet (fail)
              go_wp2_with fail
              go_roundw
              case rel => exact ⟨k + 1, by omega, by go_num, by rw [HTE2.out, HRR.out, HYX.out]; rfl, _, _, by rw [HTE.out]; exact (HGO _).out⟩
              case measure => simp [intOf]; omega
    · obtain rfl : k = kk := by omega
      have HV := Lib.hid (rTs_len k e8.l e8.bad).2
      have HG : Hid (getG l bad = ⟨⟨e1.v, e2.v, e3.v, e4.v, e5.v, e7.v.size, ((rTs k e8.l e8.bad).v.length : Nat), e7.v, e6.v, (rTs k e8.l e8.bad).v⟩, (rTs k e8.l e8.bad).l, (rTs k e8.l e8.bad).bad⟩) := Lib.hid (by
        simp only [getG, HE1.out, HE2.out, HE3.out, HE4.out, HE5.out, HE6.out, HE7.out, HE8.out, HKK.out, Int.toNat_natCast])
      generalize rTs k e8.l e8.bad = t at *
      have HBD := Lib.hid (bad_any p t.l t.bad wr HST.out.rd)
      generalize htb : t.bad = tb at *
      have HTB := Lib.hid htb
      generalize hrs : risS t.v = rs at *
      have HRS := Lib.hid hrs
      clear htb hrs
      have hR := HST.out.h1; have hX := HST.out.h2; have hB := HST.out.h3
      by_cases hgood : (tb = false ∧ rs = true)
      · obtain ⟨rfl, rfl⟩ := hgood
        have HOK : Hid (okG (getG l bad) = true) := Lib.hid (by rw [HG.out]; unfold okG; simp only; rw [HRS.out]; rfl)
        have HGN : Hid (getN (getG l bad) = ⟨e1.v, e2.v, e3.v, e4.v, e5.v, e7.v.size, (k : Nat), e7.v, e6.v, t.v⟩) := Lib.hid (by unfold getN; rw [HOK.out, if_pos rfl, HG.out]; simp only; rw [HV.out])
        have hq7 : wr.cell? ⟨X, 7, none⟩ = some (.string e7.v) := HST.out.cell 7
        have hq9 : wr.cell? ⟨X, 9, none⟩ = some (.slice ga k gc) := HST.out.cell 9
        have hq5 : wr.cell? ⟨X, 5, none⟩ = some (.int .i64 0) := HST.out.cell 5
        have hq6 : wr.cell? ⟨X, 6, none⟩ = some (.int .i64 0) := HST.out.cell 6
        have hf5 := HST.out.free 5
        have hf6 := HST.out.free 6
        have HW5 := Lib.hid ((HST.out.set 5 (.int .i64 (e7.v.size : Int))).set 6 (.int .i64 (k : Int)))
        go_wp2_with fail
        refine HBD.out.mono ?_
        rintro e w9 ⟨rfl, rfl⟩
        go_wp2_with (first
          | (refine wpList_load_row rfl 27 (.tmp 4) rfl X rfl 27 #[.int .i64 e1.v, .int .i64 e2.v, .int .i64 e3.v, .int .i64 e4.v, .int .i64 e5.v, .int .i64 (e7.v.size : Int), .int .i64 (k : Int), .string e7.v, .int .i64 e6.v, .slice ga k gc] (0, 0) _ HW5.out.at_ Try.underlying27 rfl size27 ?_)
          | (refine wpList_store_row rfl 27 (.tmp 2) (.tmp 82) rfl w.heap.size #[.int .i64 e1.v, .int .i64 e2.v, .int .i64 e3.v, .int .i64 e4.v, .int .i64 e5.v, .int .i64 (e7.v.size : Int), .int .i64 (k : Int), .string e7.v, .int .i64 e6.v, .slice ga k gc] rfl rfl 27 _ HW5.out.res size27 rfl (cellsN_ones ⟨e1.v, e2.v, e3.v, e4.v, e5.v, e7.v.size, (k : Nat), e7.v, e6.v, []⟩ ga k gc) ?_))
        generalize ((wr.setCell ⟨X, 5, none⟩ (.int .i64 (e7.v.size : Int))).setCell ⟨X, 6, none⟩ (.int .i64 (k : Int))) = W at *
        have hon : Only [w.heap.size] W (W.setRow w.heap.size #[.int .i64 e1.v, .int .i64 e2.v, .int .i64 e3.v, .int .i64 e4.v, .int .i64 e5.v, .int .i64 (e7.v.size : Int), .int .i64 (k : Int), .string e7.v, .int .i64 e6.v, .slice ga k gc]) := ⟨rfl, rfl, rfl, by simp, fun k _ hk => setRow_other _ _ _ _ (by simpa using hk)⟩
        have HON := Lib.hid hon; clear hon
        have HHP := Lib.hid (setRow_heap W w.heap.size _ #[.int .i64 e1.v, .int .i64 e2.v, .int .i64 e3.v, .int .i64 e4.v, .int .i64 e5.v, .int .i64 (e7.v.size : Int), .int .i64 (k : Int), .string e7.v, .int .i64 e6.v, .slice ga k gc] 27 (0, 0) HW5.out.res)
        (try simp only [Exit.inBlock, Exit.then])
        refine bodyPost_ret (results_row_tmp (fn := Try.f25) rfl _ _ w.heap.size #[.int .i64 e1.v, .int .i64 e2.v, .int .i64 e3.v, .int .i64 e4.v, .int .i64 e5.v, .int .i64 (e7.v.size : Int), .int .i64 (k : Int), .string e7.v, .int .i64 e6.v, .slice ga k gc] (.bool true) rfl rfl HHP.out rfl) rfl ?_
        rw [HOK.out, HGN.out]
        refine ⟨ga, gc, by rw [HV.out]; rfl, ?_, by rw [HV.out]; omega, ?_⟩
        · rw [HV.out]; exact (rows_mono (rows_only HW5.out.own HON.out (by simp; omega)) (by omega))
        · exact ((HW5.out.only.mono (T := [p, w.heap.size]) (by simp)).trans (HON.out.mono (by simp))).cut (by simp)
      · have HOK : Hid (okG (getG l bad) = false) := Lib.hid (by
          rw [HG.out]; unfold okG; simp only; rw [HRS.out]
          cases tb <;> cases rs <;> simp_all)
        have HGN : Hid (getN (getG l bad) = zeroN) := Lib.hid (by unfold getN; rw [HOK.out]; rfl)
        have HRES := Lib.hid HST.out.res
        cases tb
        · obtain rfl : rs = false := by cases rs <;> simp_all
          clear hgood
          go_wp2_with fail
          refine HBD.out.mono ?_
          rintro e w9 ⟨rfl, rfl⟩
          go_wp2_with (refine wpList_store_row rfl 27 (.tmp 2) (.tmp 71) rfl w.heap.size #[.int .i64 0, .int .i64 0, .int .i64 0, .int .i64 0, .int .i64 0, .int .i64 0, .int .i64 0, .string ⟨#[]⟩, .int .i64 0, .slice none 0 0] rfl rfl 27 _ HRES.out size27 rfl (cellsN_ones zeroN none 0 0) ?_)
          have HON := Lib.hid (show Only [w.heap.size] wr (wr.setRow w.heap.size #[.int .i64 0, .int .i64 0, .int .i64 0, .int .i64 0, .int .i64 0, .int .i64 0, .int .i64 0, .string ⟨#[]⟩, .int .i64 0, .slice none 0 0]) from ⟨rfl, rfl, rfl, by simp, fun k _ hk => setRow_other _ _ _ _ (by simpa using hk)⟩)
          have HHP := Lib.hid (setRow_heap wr w.heap.size _ #[.int .i64 0, .int .i64 0, .int .i64 0, .int .i64 0, .int .i64 0, .int .i64 0, .int .i64 0, .string ⟨#[]⟩, .int .i64 0, .slice none 0 0] 27 (0, 0) HRES.out)
          (try simp only [Exit.inBlock, Exit.then])
          refine bodyPost_ret (results_row_tmp (fn := Try.f25) rfl _ _ w.heap.size #[.int .i64 0, .int .i64 0, .int .i64 0, .int .i64 0, .int .i64 0, .int .i64 0, .int .i64 0, .string ⟨#[]⟩, .int .i64 0, .slice none 0 0] (.bool false) rfl rfl HHP.out rfl) rfl ?_
          rw [HOK.out, HGN.out]
          exact ⟨none, 0, rfl, OwnS.nil _ _ _, Nat.zero_le _, ((HST.out.only.mono (T := [p, w.heap.size]) (by simp)).trans (HON.out.mono (by simp))).cut (by simp)⟩
        · clear hgood
          go_wp2_with fail
          refine HBD.out.mono ?_
          rintro e w9 ⟨rfl, rfl⟩
          go_wp2_with (refine wpList_store_row rfl 27 (.tmp 2) (.tmp 71) rfl w.heap.size #[.int .i64 0, .int .i64 0, .int .i64 0, .int .i64 0, .int .i64 0, .int .i64 0, .int .i64 0, .string ⟨#[]⟩, .int .i64 0, .slice none 0 0] rfl rfl 27 _ HRES.out size27 rfl (cellsN_ones zeroN none 0 0) ?_)
          have HON := Lib.hid (show Only [w.heap.size] wr (wr.setRow w.heap.size #[.int .i64 0, .int .i64 0, .int .i64 0, .int .i64 0, .int .i64 0, .int .i64 0, .int .i64 0, .string ⟨#[]⟩, .int .i64 0, .slice none 0 0]) from ⟨rfl, rfl, rfl, by simp, fun k _ hk => setRow_other _ _ _ _ (by simpa using hk)⟩)
          have HHP := Lib.hid (setRow_heap wr w.heap.size _ #[.int .i64 0, .int .i64 0, .int .i64 0, .int .i64 0, .int .i64 0, .int .i64 0, .int .i64 0, .string ⟨#[]⟩, .int .i64 0, .slice none 0 0] 27 (0, 0) HRES.out)
          (try simp only [Exit.inBlock, Exit.then])
          refine bodyPost_ret (results_row_tmp (fn := Try.f25) rfl _ _ w.heap.size #[.int .i64 0, .int .i64 0, .int .i64 0, .int .i64 0, .int .i64 0, .int .i64 0, .int .i64 0, .string ⟨#[]⟩, .int .i64 0, .slice none 0 0] (.bool false) rfl rfl HHP.out rfl) rfl ?_
          rw [HOK.out, HGN.out]
          exact ⟨none, 0, rfl, OwnS.nil _ _ _, Nat.zero_le _, ((HST.out.only.mono (T := [p, w.heap.size]) (by simp)).trans (HON.out.mono (by simp))).cut (by simp)⟩
end Go.Proofs.Ytaoligpckpabfaa
