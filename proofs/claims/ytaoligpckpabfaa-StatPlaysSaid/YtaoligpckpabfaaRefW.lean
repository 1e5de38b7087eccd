/-
  The document's changes of a node. No condition.
-/
import Derived.Test.YtaoligpckpabfaaRefN
namespace Go.Proofs.Ytaoligpckpabfaa
open Go.RowKit
theorem size36 : (Try.prog.info? 36).map (·.size) = some 10 := by kernel_rfl
/-- what a call of the document's stands on: its node in block H, its answer's cell behind -/
structure Dw (w W : World) (H : Nat) (cs : Array Value) : Prop where
  bl : Below w.heap.size w W
  box : W.heap[H]? = some (.cells cs 36 (0, 0))
  res : W.heap[H + 1]? = some (.cells #[.int .i64 0, .int .i64 0, .int .i64 0, .int .i64 0, .int .i64 0, .int .i64 0, .int .i64 0, .string ⟨#[]⟩, .int .i64 0, .slice none 0 0] 36 (0, 0))
  at_ : H = w.heap.size
section
variable {w W u : World} {H : Nat} {cs : Array Value}
theorem Dw.set (h : Dw w W H cs) (j : Nat) (x : Value) : Dw w (W.setCell ⟨H, j, none⟩ x) H (cs.setIfInBounds j x) := by
  have o : Only [H] W (W.setCell ⟨H, j, none⟩ x) := (Only.refl _ _).setCell (by simp) _
  exact ⟨h.bl.trans (o.below h.bl.size (by simp [h.at_])), heap_set h.box j x, o.keeps h.res (by simp), h.at_⟩
theorem Dw.later (h : Dw w W H cs) (hb : Below W.heap.size W u) : Dw w u H cs :=
  ⟨h.bl.trans (hb.mono h.bl.size), by rw [hb.block _ (lt_of_heap h.box)]; exact h.box, by rw [hb.block _ (lt_of_heap h.res)]; exact h.res, h.at_⟩
theorem Dw.above (h : Dw w W H cs) (hb : Below (H + 2) W u) : Dw w u H cs :=
  ⟨h.bl.trans (hb.mono (by rw [h.at_]; omega)), by rw [hb.block _ (by omega)]; exact h.box, by rw [hb.block _ (by omega)]; exact h.res, h.at_⟩
theorem Dw.cell (h : Dw w W H cs) (j : Nat) : W.cell? ⟨H, j, none⟩ = cs[j]? := cell_heap h.box j
theorem Dw.free (h : Dw w W H cs) (j : Nat) : W.frozen? ⟨H, j, none⟩ = false := free_heap h.box j
theorem Dw.last (h : Dw w W H cs) (c2 : Array Value) : Below w.heap.size w (W.setRow (H + 1) c2) :=
  h.bl.trans (show Below w.heap.size W (W.setRow (H + 1) c2) from ⟨rfl, rfl, rfl, by simp, fun k hk => setRow_other _ _ _ _ (by rw [h.at_]; omega)⟩)
end
theorem dw_start (w : World) (cs : Array Value) : Dw w ((w.alloc (.cells cs 36)).alloc (.cells #[.int .i64 0, .int .i64 0, .int .i64 0, .int .i64 0, .int .i64 0, .int .i64 0, .int .i64 0, .string ⟨#[]⟩, .int .i64 0, .slice none 0 0] 36)) w.heap.size cs :=
  ⟨below_two _ _ _, heap_old (heap_new _ _) _, by have := heap_new (w.alloc (.cells cs 36)) (.cells #[.int .i64 0, .int .i64 0, .int .i64 0, .int .i64 0, .int .i64 0, .int .i64 0, .int .i64 0, .string ⟨#[]⟩, .int .i64 0, .slice none 0 0] 36); simpa using this, rfl⟩
theorem results_row2 {fn : Func} {p u : Tmp} (h : fn.results = #[.cell p 36, .tmp u]) (tmps : Array Value) (w : World) (g : Nat) (cs : Array Value) (x : Value)
    (hp : tmps.getD p undef = .pointer (some ⟨g, 0, none⟩)) (hx : tmps.getD u undef = x) (hg : w.heap[g]? = some (.cells cs 36 (0, 0))) (hn : cs.size = 10) :
    (results fn tmps).run Try.prog w = .ok (.tuple #[.agg cs, x]) w := by
  have hl := run_loadVar_row (P := Try.prog) w g 36 36 cs (0, 0) _ hg Try.underlying36 rfl (by rw [hn]; exact size36)
  rw [results_cell_tmp h, hp, hx]
  simp [asAddr, hl, Result.andThen]
set_option maxHeartbeats 1000000 in
theorem nd_any (x : Nd) (ao : Option Addr) (n c : Nat) (w : World) : Calls Try.prog 16 #[aggN x (.slice ao n c)] w fun e w' => e = .returned (aggN x (.slice ao n c)) ∧ Below w.heap.size w w' := by
  cases x with
  | mk xa xb xc xg xh xi xj xd xe xn =>
  simp only [aggN, cellsN]
  go_enter Try.func16, Try.ntmps16
  go_wp2_with fail
  (try simp only [Exit.inBlock, Exit.then])
  refine bodyPost_ret (results_row (fn := Try.f16) rfl _ _ (w.heap.size + 1) #[.int .i64 xa, .int .i64 xb, .int .i64 xc, .int .i64 xg, .int .i64 xh, .int .i64 xi, .int .i64 xj, .string xd, .int .i64 xe, .slice ao n c] rfl (by have := heap_new (w.alloc (.cells #[.int .i64 xa, .int .i64 xb, .int .i64 xc, .int .i64 xg, .int .i64 xh, .int .i64 xi, .int .i64 xj, .string xd, .int .i64 xe, .slice ao n c] 27)) (.cells #[.int .i64 xa, .int .i64 xb, .int .i64 xc, .int .i64 xg, .int .i64 xh, .int .i64 xi, .int .i64 xj, .string xd, .int .i64 xe, .slice ao n c] 36); simpa using this) Try.underlying36 size36) rfl ?_
  exact ⟨rfl, below_two _ _ _⟩
set_option maxHeartbeats 4000000 in
theorem rwrite_any (x : Nd) (ao : Option Addr) (n c : Nat) (z : Int) (d : ByteArray) (w : World) (hw : WfN x) :
    Calls Try.prog 17 #[aggN x (.slice ao n c), .int .i64 z, .string d] w fun e w' => e = .returned (aggN (writeZ x z d) (.slice ao n c)) ∧ Below w.heap.size w w' := by
  have hv := hw.version
  cases x with
  | mk xa xb xc xg xh xi xj xd xe xn =>
  simp only at hv
  simp only [aggN, cellsN, writeZ]
  go_enter Try.func17, Try.ntmps17
  go_upto_region 1 with (fail)
  have hd := dw_start w #[.int .i64 xa, .int .i64 xb, .int .i64 xc, .int .i64 xg, .int .i64 xh, .int .i64 xi, .int .i64 xj, .string xd, .int .i64 xe, .slice ao n c]
  generalize World.alloc (World.alloc w _) _ = w0 at *
  generalize hHH : w.heap.size = H at *
  have HHH := Lib.hid hHH; clear hHH
  have HD := Lib.hid hd; clear hd
  have c1 : w0.cell? ⟨H, 1, none⟩ = some (.int .i64 xb) := HD.out.cell 1
  have c2 : w0.cell? ⟨H, 2, none⟩ = some (.int .i64 xc) := HD.out.cell 2
  have c5 : w0.cell? ⟨H, 5, none⟩ = some (.int .i64 xi) := HD.out.cell 5
  have c7 : w0.cell? ⟨H, 7, none⟩ = some (.string xd) := HD.out.cell 7
  have f1 := HD.out.free 1
  have f2 := HD.out.free 2
  have f5 := HD.out.free 5
  have f7 := HD.out.free 7
  go_wp2_with fail
  refine (rmore_any xc _ hv.1 hv.2).mono ?_
  rintro e w' ⟨rfl, rfl⟩
  generalize hm : moreZ xc = m
  have HD2 : Hid (Dw w ((((w0.setCell ⟨H, 7, none⟩ (.string d)).setCell ⟨H, 1, none⟩ (.int .i64 z)).setCell ⟨H, 2, none⟩ (.int .i64 m)).setCell ⟨H, 5, none⟩ (.int .i64 d.size)) H #[.int .i64 xa, .int .i64 z, .int .i64 m, .int .i64 xg, .int .i64 xh, .int .i64 d.size, .int .i64 xj, .string d, .int .i64 xe, .slice ao n c]) := Lib.hid ((((HD.out.set 7 (.string d)).set 1 (.int .i64 z)).set 2 (.int .i64 m)).set 5 (.int .i64 d.size))
  have HM := Lib.hid hm; clear hm
  go_upto_region 5 with (fail)
  generalize (((w0.setCell ⟨H, 7, none⟩ (.string d)).setCell ⟨H, 1, none⟩ (.int .i64 z)).setCell ⟨H, 2, none⟩ (.int .i64 m)).setCell ⟨H, 5, none⟩ (.int .i64 d.size) = w5 at *
  clear f1 f2 f5 f7 c1 c2 c5 c7
  go_wp2_with (first
    | (refine wpList_load_row rfl 36 (.tmp 3) rfl H rfl 36 #[.int .i64 xa, .int .i64 z, .int .i64 m, .int .i64 xg, .int .i64 xh, .int .i64 d.size, .int .i64 xj, .string d, .int .i64 xe, .slice ao n c] (0, 0) _ HD2.out.box Try.underlying36 rfl size36 ?_)
    | (refine wpList_store_row rfl 36 (.tmp 6) (.tmp 22) rfl (H + 1) #[.int .i64 xa, .int .i64 z, .int .i64 m, .int .i64 xg, .int .i64 xh, .int .i64 d.size, .int .i64 xj, .string d, .int .i64 xe, .slice ao n c] rfl rfl 36 _ HD2.out.res size36 rfl (cellsN_ones ⟨xa, z, m, xg, xh, d.size, xj, d, xe, []⟩ ao n c) ?_))
  have HHP := Lib.hid (setRow_heap _ (H + 1) _ #[.int .i64 xa, .int .i64 z, .int .i64 m, .int .i64 xg, .int .i64 xh, .int .i64 d.size, .int .i64 xj, .string d, .int .i64 xe, .slice ao n c] 36 (0, 0) HD2.out.res)
  (try simp only [Exit.inBlock, Exit.then])
  refine bodyPost_ret (results_row (fn := Try.f17) rfl _ _ (H + 1) #[.int .i64 xa, .int .i64 z, .int .i64 m, .int .i64 xg, .int .i64 xh, .int .i64 d.size, .int .i64 xj, .string d, .int .i64 xe, .slice ao n c] rfl HHP.out Try.underlying36 size36) rfl ?_
  rw [HM.out]
  exact ⟨rfl, HHH.out ▸ HD2.out.last _⟩
/-- APPEND of texts to texts of the call's own, at a step of a region that draws its order -/
theorem step_append_texts {w : World} {ops : Array Oper} {o : Oper} {a : Act} {K : Act → World → Prop} {Q : Exit → Act → World → Prop} {E : Prop} (hgd : o.guard = none) (s x : Operand)
    (ho : o.op = .call { callee := .builtin .append, args := #[s, x], argTypes := #[22, 22] })
    (base : Nat) (v : Value) (l1 : List ByteArray) (N : Nat) (hs : a.eval s = v) (hown : OwnS w base 9 v l1)
    (ao : Option Addr) (m c : Nat) (l2 : List ByteArray) (hx : a.eval x = .slice ao m c) (hsrc : IsS w ao m c l2) (hN : l1.length + m = N) (hbytes : N ≤ 2000000) (hbase : base ≤ w.heap.size)
    (h : ∀ ao' cap' w', OwnS w' base 9 (.slice ao' N cap') (l1 ++ l2) → Below base w w' → w.grownBy w' v.ownBlock → K (a.put o.dst (.slice ao' N cap')) w') :
    if Region.wanted o (yielded ops a.tmps) = true then Oper.wp Try.prog o a w K Q else E := by
  have hw : Region.wanted o (yielded ops a.tmps) = true := by simp [Region.wanted, hgd]
  rw [if_pos hw]
  obtain ⟨i0, hi0, hz0, hz1, hz2⟩ := info_parts info9
  have hbl : ∀ w', w.grownBy w' v.ownBlock → Below base w w' := fun w' hg => (Below.refl base w).grown hg hbase (fun k hk => (hown.lt k hk).1)
  cases ao with
  | none =>
    obtain ⟨rfl, rfl⟩ := hsrc.nil rfl
    obtain rfl : l2 = [] := List.length_eq_zero_iff.1 hsrc.len
    have hrun := run_append_owned_none (P := Try.prog) (w := w) base 22 o.type 9 i0 1 Try.underlying22 hi0 v _ _ hown
    obtain ⟨a1, c1, rfl, _, _⟩ := rows_shape hown
    obtain rfl : l1.length = N := by omega
    unfold Oper.wp
    simp [execOp, ho, resolve, invoke, builtin, hs, hx, hrun, Result.andThen]
    exact h a1 c1 w (by simpa using hown) (Below.refl _ _) (World.grownBy.refl _ _)
  | some ad =>
    obtain ⟨v', w', hr, h2, h3, _, _⟩ := run_append_own_at (P := Try.prog) w base 22 o.type 9 i0 _ 1 16 Try.underlying22 hi0 hz0 hz1 hz2 rfl (by decide) v _ _ hown ad m c (l2.map sv) (by simp [hsrc.len]) (fun j u hj => by
      rcases hsrc.at_ with h3 | ⟨b, off, h4, h5⟩
      · subst h3
        obtain rfl : l2 = [] := List.length_eq_zero_iff.1 hsrc.len
        simp at hj
      · obtain rfl : ad = ⟨b, off, none⟩ := by simpa using h4
        have hlen := hsrc.len
        have hjl : j < l2.length := by
          rcases Nat.lt_or_ge j l2.length with hlt | hge
          · exact hlt
          · simp [List.getElem?_eq_none hge] at hj
        have := h5 j (by omega)
        rw [Addr.add_lit, this]
        simp [hjl] at hj
        simp [← hj, hjl, sv]) (sv_ones l2) (by unfold maxLen; omega) (by omega) hbase
    obtain ⟨a1, c1, rfl, _, _⟩ := rows_shape h2
    subst hN
    unfold Oper.wp
    simp [execOp, ho, resolve, invoke, builtin, hs, hx, hr, Result.andThen]
    refine h a1 c1 w' ?_ (hbl w' h3) h3
    unfold OwnS
    rw [List.map_append, List.length_append, hsrc.len]; exact h2
theorem isS_one {w : World} {b : Nat} {x : ByteArray} (h : w.heap[b]? = some (.cells #[.string x] 9 (0, 0))) (c : Nat) : IsS w (some ⟨b, 0, none⟩) 1 c [x] :=
  ⟨rfl, (fun e => by cases e), .inr ⟨b, 0, rfl, fun i hi => by
    obtain rfl : i = 0 := by omega
    rw [Nat.zero_add, cell_heap h]; rfl⟩⟩
theorem isS_takeS {w : World} {ao : Option Addr} {n c : Nat} {l : List ByteArray} (h : IsS w ao n c l) {k : Nat} (hk : k ≤ n) : IsS w ao k c (l.take k) := by
  refine ⟨by rw [List.length_take, h.len]; omega, fun e => ⟨by have := (h.nil e).1; omega, (h.nil e).2⟩, ?_⟩
  rcases h.at_ with h0 | ⟨b, off, h1, h2⟩
  · exact .inl (by omega)
  · refine .inr ⟨b, off, h1, fun i hi => ?_⟩
    rw [h2 i (by omega)]; simp [hi]
theorem isS_dropS {w : World} {b off n c : Nat} {l : List ByteArray} (h : IsS w (some ⟨b, off, none⟩) n c l) {k : Nat} (hk : k ≤ n) (hc : n ≤ c) :
    ∃ off2, (if c = k then (some ⟨b, off, none⟩ : Option Addr) else some ⟨b, off + k, none⟩) = some ⟨b, off2, none⟩ ∧ IsS w (some ⟨b, off2, none⟩) (n - k) (c - k) (l.drop k) := by
  by_cases hck : c = k
  · refine ⟨off, by rw [if_pos hck], by rw [List.length_drop, h.len], (fun e => by cases e), .inl (by omega)⟩
  · refine ⟨off + k, by rw [if_neg hck], by rw [List.length_drop, h.len], (fun e => by cases e), ?_⟩
    by_cases h0 : n - k = 0
    · exact .inl h0
    rcases h.at_ with h0' | ⟨b', off', h1, h2⟩
    · omega
    · cases h1
      refine .inr ⟨b, off + k, rfl, fun i hi => ?_⟩
      rw [show off + k + i = off + (k + i) from by omega, h2 (k + i) (by omega)]; simp
theorem isS_fromS {w1 : World} {B : Nat} {p : Addr} {n c k : Nat} {l : List ByteArray} (h : ∀ u, Below B w1 u → IsS u (some p) n c l) (hk : k ≤ n) (hc : n ≤ c) :
    ∃ q, (if c = k then some p else some (p.add k)) = some q ∧ Hid (∀ u, Below B w1 u → IsS u (some q) (n - k) (c - k) (l.drop k)) := by
  have hl := (h w1 (Below.refl _ _)).len
  by_cases hck : c = k
  · exact ⟨p, by rw [if_pos hck], Lib.hid fun u hu => ⟨by rw [List.length_drop, hl], (fun e => by cases e), .inl (by omega)⟩⟩
  · refine ⟨p.add k, by rw [if_neg hck], Lib.hid fun u hu => ⟨by rw [List.length_drop, hl], (fun e => by cases e), ?_⟩⟩
    rcases (h u hu).at_ with h0 | ⟨b, off, h1, h2⟩
    · exact .inl (by omega)
    · cases h1
      refine .inr ⟨b, off + k, by rw [Addr.add_lit], fun i hi => ?_⟩
      rw [show off + k + i = off + (k + i) from by omega, h2 (k + i) (by omega)]; simp
theorem own_newS (w : World) (B : Nat) (hB : B ≤ w.heap.size) (b : Nat) (hb : b = w.heap.size) : OwnS (w.alloc (.cells #[] 9)) B 9 (.slice (some ⟨b, 0, none⟩) 0 0) [] := by
  subst hb
  exact ⟨rfl, .inr ⟨w.heap.size, 0, _, rfl, hB, heap_new _ _, Nat.le_refl _, by unfold maxLen; omega, rfl, rfl⟩⟩
theorem OwnS.heapw {w w' : World} {B : Nat} {v : Value} {l : List ByteArray} (h : OwnS w B 9 v l) (hw : w'.heap = w.heap) : OwnS w' B 9 v l := rows_keep h fun j _ => by rw [hw]
theorem below_heap {B : Nat} {w X Y : World} (h : Below B w X) (h1 : Y.heap = X.heap) (h2 : Y.os = X.os) (h3 : Y.tape = X.tape) (h4 : Y.output = X.output) : Below B w Y :=
  ⟨h2.trans h.os, h3.trans h.tape, h4.trans h.output, by rw [h1]; exact h.size, fun k hk => by rw [h1]; exact h.block k hk⟩
/-- the new, empty row, alone -/
theorem mk1 (w : World) (B : Nat) (hB : B ≤ w.heap.size) (X : World) (h1 : X.heap = (w.alloc (.cells #[] 9)).heap) (h2 : X.os = w.os) (h3 : X.tape = w.tape) (h4 : X.output = w.output) : OwnS X B 9 (.slice (some ⟨w.heap.size, 0, none⟩) 0 0) [] ∧ Below B w X :=
  ⟨(own_newS w B hB _ rfl).heapw h1, below_heap ((Below.refl _ _).alloc hB _) h1 h2 h3 h4⟩
theorem mk2 (w : World) (B : Nat) (hB : B ≤ w.heap.size) (y : ByteArray) (X : World) (h1 : X.heap = ((w.alloc (.cells #[] 9)).alloc (.cells #[.string y] 9)).heap) (h2 : X.os = w.os) (h3 : X.tape = w.tape) (h4 : X.output = w.output) : OwnS X B 9 (.slice (some ⟨w.heap.size, 0, none⟩) 0 0) [] ∧ Below B w X ∧ X.heap[w.heap.size + 1]? = some (.cells #[.string y] 9 (0, 0)) :=
  ⟨((own_newS w B hB _ rfl).alloc _).heapw h1, below_heap (((Below.refl _ _).alloc hB _).alloc (by simp; omega) _) h1 h2 h3 h4, by rw [h1]; have := heap_new (w.alloc (.cells #[] 9)) (.cells #[.string y] 9); simpa using this⟩
theorem mk3 (w : World) (B : Nat) (hB : B ≤ w.heap.size) (y : ByteArray) (X : World) (h1 : X.heap = ((w.alloc (.cells #[.string y] 9)).alloc (.cells #[] 9)).heap) (h2 : X.os = w.os) (h3 : X.tape = w.tape) (h4 : X.output = w.output) : OwnS X B 9 (.slice (some ⟨w.heap.size + 1, 0, none⟩) 0 0) [] ∧ Below B w X ∧ X.heap[w.heap.size]? = some (.cells #[.string y] 9 (0, 0)) :=
  ⟨(own_newS (w.alloc (.cells #[.string y] 9)) B (by simp; omega) _ (by simp)).heapw h1, below_heap (((Below.refl _ _).alloc hB _).alloc (by simp; omega) _) h1 h2 h3 h4, by rw [h1]; exact heap_old (heap_new _ _) _⟩
theorem mk1d (w : World) (B : Nat) (hB : B ≤ w.heap.size) : OwnS (w.alloc (.cells #[] 9)).drew B 9 (.slice (some ⟨w.heap.size, 0, none⟩) 0 0) [] ∧ Below B w (w.alloc (.cells #[] 9)).drew := mk1 w B hB _ rfl rfl rfl rfl
theorem mk2d (w : World) (B : Nat) (hB : B ≤ w.heap.size) (y : ByteArray) : OwnS ((w.alloc (.cells #[] 9)).alloc (.cells #[.string y] 9)).drew B 9 (.slice (some ⟨w.heap.size, 0, none⟩) 0 0) [] ∧ Below B w ((w.alloc (.cells #[] 9)).alloc (.cells #[.string y] 9)).drew ∧ ((w.alloc (.cells #[] 9)).alloc (.cells #[.string y] 9)).drew.heap[w.heap.size + 1]? = some (.cells #[.string y] 9 (0, 0)) := mk2 w B hB y _ rfl rfl rfl rfl
theorem mk3d (w : World) (B : Nat) (hB : B ≤ w.heap.size) (y : ByteArray) : OwnS ((w.alloc (.cells #[.string y] 9)).alloc (.cells #[] 9)).drew B 9 (.slice (some ⟨w.heap.size + 1, 0, none⟩) 0 0) [] ∧ Below B w ((w.alloc (.cells #[.string y] 9)).alloc (.cells #[] 9)).drew ∧ ((w.alloc (.cells #[.string y] 9)).alloc (.cells #[] 9)).drew.heap[w.heap.size]? = some (.cells #[.string y] 9 (0, 0)) := mk3 w B hB y _ rfl rfl rfl rfl
theorem grown_keep {w w' : World} {b g : Nat} {o : Obj} (hg : w.grownBy w' (some g)) (h : w.heap[b]? = some o) (hne : b ≠ g) : w'.heap[b]? = some o := by
  rw [hg.block b (lt_of_heap h) (by simpa using hne)]; exact h
theorem below_size {B : Nat} {w X : World} (h : Below B w X) : w.heap.size ≤ X.heap.size := h.size
theorem below_trans {B : Nat} {w X Y : World} (h : Below B w X) (k : Below B X Y) : Below B w Y := h.trans k
theorem cell_later9 {w W u : World} {xa xb xc xg xh xi xj : Int} {xd : ByteArray} {xe : Int} {v : Value} (h : Dw w W w.heap.size #[.int .i64 xa, .int .i64 xb, .int .i64 xc, .int .i64 xg, .int .i64 xh, .int .i64 xi, .int .i64 xj, .string xd, .int .i64 xe, v]) (hb : Below (w.heap.size + 2) W u) : u.cell? ⟨w.heap.size, 9, none⟩ = some v := (h.above hb).cell 9
theorem free9 {w W u : World} {cs : Array Value} (h : Dw w W w.heap.size cs) (hb : Below (w.heap.size + 2) W u) : u.frozen? ⟨w.heap.size, 9, none⟩ = false := (h.above hb).free 9
set_option maxHeartbeats 16000000 in
set_option maxRecDepth 100000 in
theorem rremove_any (x : Nd) (ao : Option Addr) (n c : Nat) (s : ByteArray) (w : World) (hw : WfN x) (h : IsS w ao n c x.names) (hnc : n ≤ c) (hn : n ≤ 50000) (hr : Ris x.names) :
    Calls Try.prog 19 #[aggN x (.slice ao n c), .string s] w fun e w' => ∃ ao' c', e = .returned (.tuple #[aggN (removeZ x s) (.slice ao' (removeZ x s).names.length c'), .bool (hereS x.names s)]) ∧ IsS w' ao' (removeZ x s).names.length c' (removeZ x s).names ∧ (removeZ x s).names.length ≤ c' ∧ (∀ p, ao' = some p → (ao' = ao ∧ (removeZ x s).names.length = n) ∨ w.heap.size ≤ p.block) ∧ Below w.heap.size w w' := by
  have HPL := Lib.hid (fun (u : World) (hb : Below w.heap.size w u) => place_any ao n c x.names s u (h.below hb) (by omega))
  rw [thereS_eq hr] at HPL
  have HIS := Lib.hid (fun (u : World) (hb : Below w.heap.size w u) => h.below hb)
  have HNL := Lib.hid h.len
  have HNC := hnc
  unfold removeZ
  generalize hhh : hereS x.names s = hh at *
  have hpk := placeS_le x.names s
  have HRR := Lib.hid hr
  have hk := hw.kids
  have hx := hw.next
  obtain ⟨hk1, hk2⟩ := hk
  obtain ⟨hx1, hx2⟩ := hx
  have HHS := Lib.hid hhh
  have HSE := Lib.hid (seekS_eq hr s)
  rw [h.len] at hpk
  clear h hr hw hhh
  cases x with
  | mk xa xb xc xg xh xi xj xd xe xn =>
  simp only at *
  generalize hq : placeS xn s = k at *
  have HK := Lib.hid hq; clear hq
  simp only [aggN, cellsN]
  cases hh with
  | false =>
    simp only [Bool.false_eq_true, if_false]
    go_enter Try.func19, Try.ntmps19
    go_upto_region 1 with (fail)
    have hd := dw_start w #[.int .i64 xa, .int .i64 xb, .int .i64 xc, .int .i64 xg, .int .i64 xh, .int .i64 xi, .int .i64 xj, .string xd, .int .i64 xe, .slice ao n c]
    have hwz : w.heap.size + 2 ≤ ((w.alloc (.cells #[.int .i64 xa, .int .i64 xb, .int .i64 xc, .int .i64 xg, .int .i64 xh, .int .i64 xi, .int .i64 xj, .string xd, .int .i64 xe, .slice ao n c] 36)).alloc (.cells #[.int .i64 0, .int .i64 0, .int .i64 0, .int .i64 0, .int .i64 0, .int .i64 0, .int .i64 0, .string ⟨#[]⟩, .int .i64 0, .slice none 0 0] 36)).heap.size := by simp
    generalize World.alloc (World.alloc w _) _ = w0 at *
    have HD := Lib.hid hd; clear hd
    have c9 : w0.cell? ⟨w.heap.size, 9, none⟩ = some (.slice ao n c) := HD.out.cell 9
    go_wp2_with fail
    refine (HPL.out _ HD.out.bl).mono ?_
    rintro e w1 ⟨rfl, d, rfl⟩
    have HD1 := Lib.hid (HD.out.later (below_drew (Below.refl _ _) d))
    have hwz1 : w.heap.size + 2 ≤ (w0.drewN d).heap.size := Nat.le_trans hwz (below_drew (Below.refl w0.heap.size w0) d).size
    generalize w0.drewN d = w1 at *
    clear c9 hwz HPL HD
    go_wp2_with (first
      | (refine wpList_load_row rfl 36 (.tmp 2) rfl w.heap.size rfl 36 #[.int .i64 xa, .int .i64 xb, .int .i64 xc, .int .i64 xg, .int .i64 xh, .int .i64 xi, .int .i64 xj, .string xd, .int .i64 xe, .slice ao n c] (0, 0) _ HD1.out.box Try.underlying36 rfl size36 ?_)
      | (refine wpList_store_row rfl 36 (.tmp 4) (.tmp 17) rfl (w.heap.size + 1) #[.int .i64 xa, .int .i64 xb, .int .i64 xc, .int .i64 xg, .int .i64 xh, .int .i64 xi, .int .i64 xj, .string xd, .int .i64 xe, .slice ao n c] rfl rfl 36 _ HD1.out.res size36 rfl (cellsN_ones ⟨xa, xb, xc, xg, xh, xi, xj, xd, xe, []⟩ ao n c) ?_))
    have HHP := Lib.hid (setRow_heap _ (w.heap.size + 1) _ #[.int .i64 xa, .int .i64 xb, .int .i64 xc, .int .i64 xg, .int .i64 xh, .int .i64 xi, .int .i64 xj, .string xd, .int .i64 xe, .slice ao n c] 36 (0, 0) HD1.out.res)
    (try simp only [Exit.inBlock, Exit.then])
    refine bodyPost_ret (results_row2 (fn := Try.f19) rfl _ _ (w.heap.size + 1) #[.int .i64 xa, .int .i64 xb, .int .i64 xc, .int .i64 xg, .int .i64 xh, .int .i64 xi, .int .i64 xj, .string xd, .int .i64 xe, .slice ao n c] (.bool false) rfl rfl HHP.out rfl) rfl ?_
    refine ⟨ao, c, by rw [HNL.out]; try rfl, by rw [HNL.out]; exact HIS.out _ (HD1.out.last _), by rw [HNL.out]; exact hnc, fun p hp => .inl ⟨rfl, HNL.out⟩, HD1.out.last _⟩
  | true =>
    simp only [if_true]
    have hkn : k < n := by
      have h1 := hereS_lt HHS.out
      rw [HSE.out, HNL.out] at h1
      exact h1
    go_enter Try.func19, Try.ntmps19
    go_upto_region 1 with (fail)
    have hd := dw_start w #[.int .i64 xa, .int .i64 xb, .int .i64 xc, .int .i64 xg, .int .i64 xh, .int .i64 xi, .int .i64 xj, .string xd, .int .i64 xe, .slice ao n c]
    have hwz : w.heap.size + 2 ≤ ((w.alloc (.cells #[.int .i64 xa, .int .i64 xb, .int .i64 xc, .int .i64 xg, .int .i64 xh, .int .i64 xi, .int .i64 xj, .string xd, .int .i64 xe, .slice ao n c] 36)).alloc (.cells #[.int .i64 0, .int .i64 0, .int .i64 0, .int .i64 0, .int .i64 0, .int .i64 0, .int .i64 0, .string ⟨#[]⟩, .int .i64 0, .slice none 0 0] 36)).heap.size := by simp
    generalize World.alloc (World.alloc w _) _ = w0 at *
    have HD := Lib.hid hd; clear hd
    have c9 : w0.cell? ⟨w.heap.size, 9, none⟩ = some (.slice ao n c) := HD.out.cell 9
    go_wp2_with fail
    refine (HPL.out _ HD.out.bl).mono ?_
    rintro e w1 ⟨rfl, d, rfl⟩
    have HD1 := Lib.hid (HD.out.later (below_drew (Below.refl _ _) d))
    have hwz1 : w.heap.size + 2 ≤ (w0.drewN d).heap.size := Nat.le_trans hwz (below_drew (Below.refl w0.heap.size w0) d).size
    generalize w0.drewN d = w1 at *
    clear c9 hwz HPL HD
    have HS1 := Lib.hid (fun (u : World) (hb : Below (w.heap.size + 2) w1 u) => HIS.out u (HD1.out.bl.trans (hb.mono (by omega))))
    have hc0 : w1.cell? ⟨w.heap.size, 9, none⟩ = some (.slice ao n c) := HD1.out.cell 9
    have hf0 := HD1.out.free 9
    have hx1' : ∀ o : Obj, (w1.alloc o).cell? ⟨w.heap.size, 9, none⟩ = some (.slice ao n c) := fun o => cell_later9 HD1.out ((Below.refl _ _).alloc hwz1 o)
    have hkc : k ≤ c := by omega
    have g1 : k + 1 ≤ n := by omega
    have q1 : IntKind.i64.wrap ((k : Int) + 1) = ((k + 1 : Nat) : Int) := IntWalk.i64_in _ (by omega)
    have g3 : 0 ≤ (k : Int) + 1 ∧ (k : Int) + 1 ≤ (n : Int) := by omega
    have g4 : (0 ≤ (k : Int) + 1) = True := eq_true (by omega)
    have g5 : ((k : Int) + 1 ≤ (n : Int)) = True := eq_true (by omega)
    cases ao with
    | none =>
      exfalso
      have := ((HIS.out w (Below.refl _ _)).nil rfl).1
      omega
    | some p =>
      obtain ⟨q, hq, hdr⟩ : ∃ q, (if c = k + 1 then some p else some (p.add (k + 1))) = some q ∧ Hid (∀ u, Below (w.heap.size + 2) w1 u → IsS u (some q) (n - (k + 1)) (c - (k + 1)) (xn.drop (k + 1))) := isS_fromS HS1.out (by omega) hnc
      rw [Addr.add_succ'] at hq
      go_wp2_with fail
      go_cut [] (fun wx => ∃ na nn w13, wx = w13.setCell ⟨w.heap.size, 9, none⟩ (.slice na (n - 1) nn) ∧ OwnS w13 (w.heap.size + 2) 9 (.slice na (n - 1) nn) (outS xn k) ∧ Below (w.heap.size + 2) w1 w13)
      case first =>
        go_region_law (first
          | (refine step_append_texts (by rfl) (.tmp 18) (.tmp 22) (by rfl) (w.heap.size + 2) (.slice (some ⟨w1.heap.size, 0, none⟩) 0 0) [] k (by rfl) ?_ _ _ _ (xn.take k) (by rfl) ?_ (by simp) (by omega) ?_ ?_; (with_reducible exact (mk1d w1 (w.heap.size + 2) hwz1).1); (refine isS_takeS (HS1.out _ ?_) hpk); (with_reducible exact (mk1d w1 (w.heap.size + 2) hwz1).2); (refine Nat.le_trans hwz1 (below_size (B := (w.heap.size + 2)) (w := w1) ?_)); (with_reducible exact (mk1d w1 (w.heap.size + 2) hwz1).2); intro a5 c5 w5 ho5 hb5 hg5; have hB5 : Below (w.heap.size + 2) w1 w5 := (below_trans (mk1d w1 (w.heap.size + 2) hwz1).2 hb5); have HO5 := Lib.hid ho5; have hc5 : w5.cell? ⟨w.heap.size, 9, none⟩ = some (.slice (some p) n c) := cell_later9 HD1.out hB5; have f5 := free9 HD1.out hB5; clear ho5 hb5 hg5; rw [List.nil_append] at HO5)
          | (refine step_append_texts (by rfl) (.tmp 23) (.tmp 28) (by rfl) (w.heap.size + 2) (.slice a5 k c5) (xn.take k) (n - 1) (by rfl) ?_ _ _ _ (xn.drop (k + 1)) (by rfl) ?_ (by rw [List.length_take, HNL.out]; omega) (by omega) ?_ ?_; (exact HO5.out); (exact hdr.out _ hB5); (exact Nat.le_trans hwz1 hB5.size); intro a13 c13 w13 ho13 hb13 hg13; have hB13 : Below (w.heap.size + 2) w1 w13 := hB5.trans hb13; have HO13 := Lib.hid ho13; have hc13 : w13.cell? ⟨w.heap.size, 9, none⟩ = some (.slice (some p) n c) := cell_later9 HD1.out hB13; have f13 := free9 HD1.out hB13; clear ho13 hb13 hg13)
          | fail)
        all_goals
          go_wp2_with fail
          go_meet
          exact ⟨a13, c13, w13, rfl, HO13.out, hB13⟩
      case rest =>
        obtain ⟨na, nn, w13, rfl, ho13, hb13⟩ := hcut
        have HO13 := Lib.hid ho13
        have HD13 := Lib.hid (HD1.out.above hb13)
        have HHO := Lib.hid (show Only [w.heap.size] w13 (w13.setCell ⟨w.heap.size, 9, none⟩ (.slice na (n - 1) nn)) from (Only.refl _ _).setCell (by simp) _)
        have hdx : Dw w (w13.setCell ⟨w.heap.size, 9, none⟩ (.slice na (n - 1) nn)) w.heap.size #[.int .i64 xa, .int .i64 xb, .int .i64 xc, .int .i64 xg, .int .i64 xh, .int .i64 xi, .int .i64 xj, .string xd, .int .i64 xe, .slice na (n - 1) nn] := HD13.out.set 9 _
        have HDX := Lib.hid hdx; clear hdx ho13
        have hsz13 := hb13.size
        clear hb13 hx1' hc0 hf0 hdr hq HS1 HD1 q1 g4 g5
        generalize (w13.setCell ⟨w.heap.size, 9, none⟩ (.slice na (n - 1) nn)) = w14 at *
        have c3 : w14.cell? ⟨w.heap.size, 3, none⟩ = some (.int .i64 xg) := HDX.out.cell 3
        have c6 : w14.cell? ⟨w.heap.size, 6, none⟩ = some (.int .i64 xj) := HDX.out.cell 6
        have c9 : w14.cell? ⟨w.heap.size, 9, none⟩ = some (.slice na (n - 1) nn) := HDX.out.cell 9
        have f3 := HDX.out.free 3
        have f6 := HDX.out.free 6
        go_wp2_with fail
        refine (rmore_any xg _ hk1 hk2).mono ?_
        rintro e w15 ⟨rfl, rfl⟩
        generalize hm1 : moreZ xg = m1
        have HM1 := Lib.hid hm1; clear hm1
        go_upto_region 7 with (fail)
        have hdy : Dw w ((w15.setCell ⟨w.heap.size, 3, none⟩ (.int .i64 m1)).setCell ⟨w.heap.size, 6, none⟩ (.int .i64 ((n - 1 : Nat) : Int))) w.heap.size #[.int .i64 xa, .int .i64 xb, .int .i64 xc, .int .i64 m1, .int .i64 xh, .int .i64 xi, .int .i64 ((n - 1 : Nat) : Int), .string xd, .int .i64 xe, .slice na (n - 1) nn] := (HDX.out.set 3 _).set 6 _
        have hoy : Only [w.heap.size] w15 ((w15.setCell ⟨w.heap.size, 3, none⟩ (.int .i64 m1)).setCell ⟨w.heap.size, 6, none⟩ (.int .i64 ((n - 1 : Nat) : Int))) := ((Only.refl _ _).setCell (by simp) _).setCell (by simp) _
        have HDY := Lib.hid hdy
        have HOY := Lib.hid (HHO.out.trans hoy)
        clear hdy hoy HDX c3 c6 c9 f3 f6
        generalize ((w15.setCell ⟨w.heap.size, 3, none⟩ (.int .i64 m1)).setCell ⟨w.heap.size, 6, none⟩ (.int .i64 ((n - 1 : Nat) : Int))) = w17 at *
        go_wp2_with (first
          | (refine wpList_load_row rfl 36 (.tmp 2) rfl w.heap.size rfl 36 #[.int .i64 xa, .int .i64 xb, .int .i64 xc, .int .i64 m1, .int .i64 xh, .int .i64 xi, .int .i64 ((n - 1 : Nat) : Int), .string xd, .int .i64 xe, .slice na (n - 1) nn] (0, 0) _ HDY.out.box Try.underlying36 rfl size36 ?_)
          | (refine wpList_store_row rfl 36 (.tmp 4) (.tmp 42) rfl (w.heap.size + 1) #[.int .i64 xa, .int .i64 xb, .int .i64 xc, .int .i64 m1, .int .i64 xh, .int .i64 xi, .int .i64 ((n - 1 : Nat) : Int), .string xd, .int .i64 xe, .slice na (n - 1) nn] rfl rfl 36 _ HDY.out.res size36 rfl (cellsN_ones ⟨xa, xb, xc, m1, xh, xi, (n - 1 : Nat), xd, xe, []⟩ na (n - 1) nn) ?_))
        have HHP := Lib.hid (setRow_heap _ (w.heap.size + 1) _ #[.int .i64 xa, .int .i64 xb, .int .i64 xc, .int .i64 m1, .int .i64 xh, .int .i64 xi, .int .i64 ((n - 1 : Nat) : Int), .string xd, .int .i64 xe, .slice na (n - 1) nn] 36 (0, 0) HDY.out.res)
        (try simp only [Exit.inBlock, Exit.then])
        refine bodyPost_ret (results_row2 (fn := Try.f19) rfl _ _ (w.heap.size + 1) #[.int .i64 xa, .int .i64 xb, .int .i64 xc, .int .i64 m1, .int .i64 xh, .int .i64 xi, .int .i64 ((n - 1 : Nat) : Int), .string xd, .int .i64 xe, .slice na (n - 1) nn] (.bool true) rfl rfl HHP.out rfl) rfl ?_
        have hol : Only [w.heap.size, w.heap.size + 1] w13 (w17.setRow (w.heap.size + 1) #[.int .i64 xa, .int .i64 xb, .int .i64 xc, .int .i64 m1, .int .i64 xh, .int .i64 xi, .int .i64 ((n - 1 : Nat) : Int), .string xd, .int .i64 xe, .slice na (n - 1) nn]) := (HOY.out.mono (by simp)).trans ⟨rfl, rfl, rfl, by simp, fun k _ hk => setRow_other _ _ _ _ (by simp at hk; omega)⟩
        have hown := rows_only HO13.out hol (by simp)
        have hbz := HDY.out.last #[.int .i64 xa, .int .i64 xb, .int .i64 xc, .int .i64 m1, .int .i64 xh, .int .i64 xi, .int .i64 ((n - 1 : Nat) : Int), .string xd, .int .i64 xe, .slice na (n - 1) nn]
        generalize World.setRow _ _ _ = wz at *
        rw [HSE.out, HNL.out]
        have hlen : (outS xn k).length = n - 1 := by
          have := HNL.out
          simp only [outS, List.length_append, List.length_take, List.length_drop]; omega
        obtain ⟨yo, yc, he, his⟩ := OwnS.isS (show OwnS wz (w.heap.size + 2) 9 _ _ from hown)
        rw [hlen] at he his ⊢
        simp only [Value.slice.injEq, true_and] at he
        obtain ⟨rfl, rfl⟩ := he
        obtain ⟨ao9, c9, he9, hcap, _⟩ := rows_shape hown
        rw [hlen] at he9
        simp only [Value.slice.injEq, true_and] at he9
        obtain ⟨rfl, rfl⟩ := he9
        rw [hlen] at hcap
        refine ⟨na, nn, by rw [HM1.out]; try rfl, his, hcap, fun p hp => ?_, hbz⟩
        subst hp
        have := (show OwnS wz (w.heap.size + 2) 9 _ _ from hown).lt p.block rfl
        exact .inr (by omega)
end Go.Proofs.Ytaoligpckpabfaa
