/-
  The document's net in memory: what it tells, Heal, Cut.
-/
import Derived.Test.YtmehgkbhpfcmpaaRN0
import Derived.Laws.CopyRow
import Derived.Great.BuildSlice
import Derived.Great.Ranges
namespace Go.Proofs.Ytmehgkbhpfcmpaa.G
open Go.RowKit Go.Proofs.Ytmehgkbhpfcmpaa
/-- STORE of an array inside a variable -/
theorem wpList_store_part {w : World} {ops : Array Oper} {rest : List Oper} {o : Oper} {a : Act} {Q : Exit → Act → World → Prop} (hgd : o.guard = none) (ty : TypeId) (x y : Operand) (ho : o.op = .store ty x y)
    (g off : Nat) (vs : Array Value) (hx : a.eval x = .pointer (some ⟨g, off, none⟩)) (hy : a.eval y = .agg vs)
    (t : TypeId) (cur : Array Value) (hg : w.heap[g]? = some (.cells cur t (0, 0))) (hi : (Try.prog.info? ty).map (·.size) = some vs.size)
    (hl : off + vs.size ≤ cur.size) (h1 : ∀ v ∈ vs.toList, v.oneCell' = true)
    (h : wpList Try.prog ops Q rest (a.put o.dst undef) (w.setRow g (cur.toList.take off ++ vs.toList ++ cur.toList.drop (off + vs.size)).toArray)) : wpList Try.prog ops Q (o :: rest) a w := by
  have hst : (storeVar ty ⟨g, off, none⟩ (.agg vs)).run Try.prog w = .ok () (w.setRow g (cur.toList.take off ++ vs.toList ++ cur.toList.drop (off + vs.size)).toArray) := by
    have := run_storeCells_at (P := Try.prog) g off t vs.toList 0 cur w hg (by simpa using hl) h1
    simp only [Nat.add_zero, Array.length_toList] at this
    cases hq : Try.prog.info? ty with
    | none => simp [hq] at hi
    | some i =>
      have hs : vs.size = i.size := by simp [hq] at hi; omega
      rw [hs] at this
      simp [storeVar, sizeOf, typeInfo, hq, Value.cells, hs, this]
  refine wpList_plain hgd fun _ hK => ?_
  unfold Oper.wp execOp
  simp only [ho, hx, hy, Instr.storeAt, Instr.sureAddr, Sem.run_bind, Sem.run_pure, Result.andThen_ok, hst]
  exact hK _ _ h

/-- behind the pointer to block d lies the document's net -/
structure IsDoc (w : World) (base d : Nat) (s : Nt) (es : List ((Int × Int) × Bool)) : Prop where
  row : ∃ cs v ps, w.heap[d]? = some (.cells cs 44 (0, 0)) ∧ cs.size = 4099 ∧ cs[0]? = some (.int .i64 s.nodes) ∧ cs[1]? = some (.int .i64 s.room) ∧ cs[2]? = some v ∧ (∀ x y : Nat, x < 64 → y < 64 → cs[3 + x * 64 + y]? = some (.bool (cutOf es (way x y)))) ∧ w.ownsRow base 49 5 v s.l.length (row5 ps) ∧ Holds5 w base ps s.l
  ge : base ≤ d
section
variable {w : World} {base d : Nat} {s : Nt} {es : List ((Int × Int) × Bool)}
theorem row_shape49 {v : Value} {n : Nat} {xs : List Value} (h : w.ownsRow base 49 5 v n xs) : ∃ ao cap, v = .slice ao n cap ∧ n ≤ cap ∧ cap ≤ 9223372036854775807 := by
  rcases h.2 with ⟨rfl, h0⟩ | ⟨g, cap, cur, rfl, hb, hh, hn, hm, hs, ht⟩
  · exact ⟨none, 0, by rw [h0], by omega, by decide⟩
  · unfold maxLen at hm
    exact ⟨_, cap, rfl, hn, by omega⟩
set_option maxHeartbeats 400000 in
theorem node_doc (h : IsDoc w base d s es) (x : Int) :
    Calls Try.prog 30 #[.pointer (some ⟨d, 0, none⟩), .int .i64 x] w fun e w' => e = .returned (.bool (isNode s x)) ∧ w = w' := by
  obtain ⟨⟨cs, v, ps, h1, _, h0, _⟩, _⟩ := h
  have hc0 : w.cell? ⟨d, 0, none⟩ = some (.int .i64 s.nodes) := by rw [cell_heap h1]; exact h0
  clear h1 h0
  unfold isNode
  generalize s.nodes = n at *
  by_cases hx : 0 ≤ x
  · rw [decide_eq_true hx, Bool.true_and]
    go_enter Try.func30, Try.ntmps30
    go_wp2_with fail
    go_ret
    exact ⟨rfl, rfl⟩
  · have hd : decide (0 ≤ x) = false := decide_eq_false hx
    rw [hd, Bool.false_and]
    clear hx
    go_enter Try.func30, Try.ntmps30
    go_wp2_with fail
    go_ret
    exact ⟨rfl, rfl⟩
theorem heal_cells (cs zs : Array Value) (h : cs.size = 4099) (hz : zs.size = 4096) (hf : ∀ v ∈ zs.toList, v = .bool false) :
    let c2 := (cs.toList.take 3 ++ zs.toList ++ cs.toList.drop (3 + zs.size)).toArray
    c2.size = 4099 ∧ c2[0]? = cs[0]? ∧ c2[1]? = cs[1]? ∧ c2[2]? = cs[2]? ∧ ∀ j, j < 4096 → c2[3 + j]? = some (.bool false) := by
  have hl : (cs.toList.take 3).length = 3 := by simp; omega
  refine ⟨by simp; omega, ?_, ?_, ?_, fun j hj => ?_⟩
  · simp [List.getElem?_append, List.getElem?_take, h]
  · simp [List.getElem?_append, List.getElem?_take, h]
  · simp [List.getElem?_append, List.getElem?_take, h]
  · simp only [List.getElem?_toArray, List.append_assoc]
    rw [List.getElem?_append_right (by omega), hl, show 3 + j - 3 = j by omega, List.getElem?_append_left (by simp; omega)]
    rw [List.getElem?_eq_getElem (by simp; omega)]
    congr 1
    exact hf _ (List.getElem_mem _)
set_option maxHeartbeats 1000000 in
theorem heal_doc (h : IsDoc w base d s es) :
    Calls Try.prog 24 #[.pointer (some ⟨d, 0, none⟩)] w fun e w' => e = .returned (.tuple #[]) ∧ IsDoc w' base d s [] ∧ Only [d] w w' := by
  obtain ⟨⟨cs, v, ps, h1, h2, h3, h4, h5, h6, h7, h8⟩, h9⟩ := h
  obtain ⟨zs, hb, hz, hf⟩ := built42
  have hone : ∀ v ∈ zs.toList, v.oneCell' = true := fun v hv => by rw [hf v hv]; rfl
  have HC := Lib.hid (heal_cells cs zs h2 hz hf)
  have H := Lib.hid (And.intro h3 (And.intro h4 (And.intro h5 (And.intro h6 (And.intro h7 h8)))))
  have H1 := Lib.hid h1; have H2 := Lib.hid h2
  have HZ : Hid ((Try.prog.info? 42).map (·.size) = some zs.size) := Lib.hid (by rw [hz]; exact size42)
  have HL : Hid (3 + zs.size ≤ cs.size) := Lib.hid (by omega)
  have hlt := lt_of_heap h1
  clear h1 h2 h3 h4 h5 h6 h7 h8 hf hz
  have HB := Lib.hid hb
  have HON := Lib.hid hone
  clear hb hone
  go_enter Try.func24, Try.ntmps24
  go_wp2_with (first
    | (refine wpList_buildTo rfl 42 #[] rfl (some 3) rfl zs ?h42 ?_; (simpa using HB.out))
    | refine wpList_store_part rfl 42 (.tmp 5) (.tmp 3) rfl d 3 zs rfl rfl 44 cs H1.out HZ.out HL.out HON.out ?_)
  go_end0
  have hon : Only [d] w (w.setRow d (List.take 3 cs.toList ++ (zs.toList ++ List.drop (3 + zs.size) cs.toList)).toArray) := ⟨rfl, rfl, rfl, by simp, fun k _ hk => setRow_other _ _ _ _ (by simpa using hk)⟩
  have hh := setRow_heap w d cs (List.take 3 cs.toList ++ (zs.toList ++ List.drop (3 + zs.size) cs.toList)).toArray 44 (0, 0) H1.out
  obtain ⟨k1, k2, k3, k4, k5⟩ := HC.out
  obtain ⟨h3, h4, h5, _, h7, h8⟩ := H.out
  simp only [List.append_assoc] at k1 k2 k3 k4 k5
  have ht : NoRow w [d] := by
    intro j hj cur
    rw [List.mem_singleton.1 hj, H1.out]; simp
  refine ⟨rfl, ⟨⟨_, v, ps, hh, k1, k2.trans h3, k3.trans h4, k4.trans h5, fun x y hx hy => ?_, rows_types h7 hon (fun j hj cur => by rw [List.mem_singleton.1 hj, H1.out]; simp), h8.only hon ht⟩, h9⟩, hon⟩
  rw [Nat.add_assoc, k5 _ (by omega)]
  rfl
theorem set_low (cs : Array Value) (i j : Nat) (u : Value) (k : Nat) (h : k < 3) : ((cs.setIfInBounds (3 + i * 64 + j) u).setIfInBounds (3 + j * 64 + i) u)[k]? = cs[k]? := by
  rw [Array.getElem?_setIfInBounds_ne (by omega), Array.getElem?_setIfInBounds_ne (by omega)]
theorem way_eq (x y p q : Nat) : way (p : Int) (q : Int) = way (x : Int) (y : Int) ↔ (p = x ∧ q = y) ∨ (p = y ∧ q = x) := by
  unfold way
  split <;> split <;> split <;> split <;> simp <;> omega
theorem cut_cell (cs : Array Value) (hs : cs.size = 4099) (es : List ((Int × Int) × Bool)) (h : ∀ x y : Nat, x < 64 → y < 64 → cs[3 + x * 64 + y]? = some (.bool (cutOf es (way x y)))) (x y : Nat) (b : Bool) (hx : x < 64) (hy : y < 64) (p q : Nat) (hp : p < 64) (hq : q < 64) :
    ((cs.setIfInBounds (3 + x * 64 + y) (.bool b)).setIfInBounds (3 + y * 64 + x) (.bool b))[3 + p * 64 + q]? = some (.bool (cutOf (putCut es (way x y) b) (way p q))) := by
  rw [putCut_of]
  by_cases h1 : p = y ∧ q = x
  · obtain ⟨rfl, rfl⟩ := h1
    rw [if_pos ((way_eq _ _ _ _).2 (.inr ⟨rfl, rfl⟩)), Array.getElem?_setIfInBounds_self_of_lt (by simp; omega)]
  · rw [Array.getElem?_setIfInBounds_ne (by omega)]
    by_cases h2 : p = x ∧ q = y
    · obtain ⟨rfl, rfl⟩ := h2
      rw [if_pos ((way_eq _ _ _ _).2 (.inl ⟨rfl, rfl⟩)), Array.getElem?_setIfInBounds_self_of_lt (by omega)]
    · rw [if_neg (fun e => by rcases (way_eq _ _ _ _).1 e with e | e; exact h2 ⟨e.1.symm, e.2.symm⟩; exact h1 ⟨e.2.symm, e.1.symm⟩), Array.getElem?_setIfInBounds_ne (by omega), h p q hp hq]
set_option maxHeartbeats 1000000 in
theorem cut_doc_no (h : IsDoc w base d s es) (x y : Int) (b : Bool) (hx : (isNode s x && isNode s y) = false) :
    Calls Try.prog 23 #[.pointer (some ⟨d, 0, none⟩), .int .i64 x, .int .i64 y, .bool b] w fun e w' => e = .returned (.tuple #[]) ∧ w = w' := by
  have HN1 := Lib.hid (node_doc h x)
  have HN2 := Lib.hid (node_doc h y)
  clear h
  cases hnx : isNode s x with
  | false =>
    rw [hnx] at HN1
    clear hx hnx
    go_enter Try.func23, Try.ntmps23
    go_wp2_with fail
    refine HN1.out.mono ?_
    rintro e w1 ⟨rfl, rfl⟩
    go_wp2_with fail
    go_end0
    exact ⟨rfl, rfl⟩
  | true =>
    rw [hnx, Bool.true_and] at hx
    rw [hnx] at HN1
    rw [hx] at HN2
    clear hx hnx
    go_enter Try.func23, Try.ntmps23
    go_wp2_with fail
    refine HN1.out.mono ?_
    rintro e w1 ⟨rfl, rfl⟩
    go_wp2_with fail
    refine HN2.out.mono ?_
    rintro e w1 ⟨rfl, rfl⟩
    go_wp2_with fail
    go_end0
    exact ⟨rfl, rfl⟩
set_option maxHeartbeats 2000000 in
theorem cut_doc (h : IsDoc w base d s es) (x y : Nat) (b : Bool) (hx : isNode s x = true) (hy : isNode s y = true) (hn : s.nodes ≤ 64) :
    Calls Try.prog 23 #[.pointer (some ⟨d, 0, none⟩), .int .i64 (x : Int), .int .i64 (y : Int), .bool b] w fun e w' => e = .returned (.tuple #[]) ∧ IsDoc w' base d s (putCut es (way x y) b) ∧ Only [d] w w' := by
  have HN1 := Lib.hid (node_doc h x)
  have HN2 := Lib.hid (node_doc h y)
  rw [hx] at HN1
  rw [hy] at HN2
  have hx64 : x < 64 := by
    unfold isNode at hx
    simp only [Bool.and_eq_true, decide_eq_true_eq] at hx
    omega
  have hy64 : y < 64 := by
    unfold isNode at hy
    simp only [Bool.and_eq_true, decide_eq_true_eq] at hy
    omega
  have HD := Lib.hid h
  obtain ⟨⟨cs, v, ps, h1, h2, h3, h4, h5, h6, h7, h8⟩, h9⟩ := h
  have H1 := Lib.hid h1
  have hc : ∀ p q : Nat, p < 64 → q < 64 → ∃ u, w.cell? ⟨d, 3 + p * 64 + q, none⟩ = some u := fun p q hp hq => ⟨_, by rw [cell_heap h1]; exact h6 p q hp hq⟩
  obtain ⟨u1, hc1⟩ := hc x y hx64 hy64
  obtain ⟨u2, hc2⟩ := hc y x hy64 hx64
  have hf1 := free_heap h1 (3 + x * 64 + y)
  have hf2 := free_heap h1 (3 + y * 64 + x)
  have hset := heap_set h1 (3 + x * 64 + y) (.bool b)
  have hc3 : ∃ u, (w.setCell ⟨d, 3 + x * 64 + y, none⟩ (.bool b)).cell? ⟨d, 3 + y * 64 + x, none⟩ = some u := by
    rw [cell_heap hset]
    have : 3 + y * 64 + x < (cs.setIfInBounds (3 + x * 64 + y) (.bool b)).size := by simp; omega
    exact ⟨_, Array.getElem?_eq_getElem this⟩
  obtain ⟨u3, hc3⟩ := hc3
  have hf3 := free_heap hset (3 + y * 64 + x)
  have HS1 := Lib.hid hset
  have HS2 := Lib.hid (heap_set hset (3 + y * 64 + x) (.bool b))
  clear hset
  have H := Lib.hid (And.intro h2 (And.intro h3 (And.intro h4 (And.intro h5 (And.intro h6 (And.intro h7 h8))))))
  have hxi : (x : Int) < 64 := by omega
  have hyi : (y : Int) < 64 := by omega
  clear hx hy h1 h2 h3 h4 h5 h6 h7 h8 hc
  go_enter Try.func23, Try.ntmps23
  go_wp2_with fail
  refine HN1.out.mono ?_
  rintro e w1 ⟨rfl, rfl⟩
  go_wp2_with fail
  refine HN2.out.mono ?_
  rintro e w1 ⟨rfl, rfl⟩
  go_wp2_with fail
  go_region_with (fail)
  all_goals
    go_wp2_with fail
    go_end0
    have o1 : Only [d] w (w.setCell ⟨d, 3 + x * 64 + y, none⟩ (.bool b)) := (Only.refl _ _).setCell (by simp) _
    have o2 : Only [d] w ((w.setCell ⟨d, 3 + x * 64 + y, none⟩ (.bool b)).setCell ⟨d, 3 + y * 64 + x, none⟩ (.bool b)) := o1.setCell (by simp) _
    have hon : Only [d] w ((w.setCell ⟨d, 3 + x * 64 + y, none⟩ (.bool b)).setCell ⟨d, 3 + y * 64 + x, none⟩ (.bool b)).drew := only_heap o2 rfl rfl rfl rfl
    obtain ⟨k2, k3, k4, k5, k6, k7, k8⟩ := H.out
    have ht : NoRow w [d] := by
      intro j hj cur
      rw [List.mem_singleton.1 hj, H1.out]; simp
    exact ⟨rfl, ⟨⟨_, v, ps, HS2.out, by simp [k2], (set_low cs _ _ _ 0 (by omega)).trans k3, (set_low cs _ _ _ 1 (by omega)).trans k4, (set_low cs _ _ _ 2 (by omega)).trans k5, fun p q hp hq => cut_cell cs k2 es k6 x y b hx64 hy64 p q hp hq, rows_types k7 hon (fun j hj cur => by rw [List.mem_singleton.1 hj, H1.out]; simp), k8.only hon ht⟩, h9⟩, hon⟩
end
end Go.Proofs.Ytmehgkbhpfcmpaa.G
