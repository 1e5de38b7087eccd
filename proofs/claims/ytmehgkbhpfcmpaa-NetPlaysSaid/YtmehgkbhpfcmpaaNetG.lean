/-
  Messages with texts of bytes, in memory; they are copied. No condition.
-/
import Derived.Test.YtmehgkbhpfcmpaaNetC
import Derived.Deep.DeepCutAuto
import Derived.Laws.Rows
namespace Go.Proofs.Ytmehgkbhpfcmpaa
open Go.RowKit

theorem info5 : (Try.prog.info? 5).map (fun i => (i.zero, i.size, i.bytes)) = some (some (.int .u8 0), 1, 1) := by kernel_rfl
theorem info65 : (Try.prog.info? 65).map (fun i => (i.zero, i.size, i.bytes)) = some (some (.slice none 0 0), 1, 24) := by kernel_rfl
/-- a message -/
structure Mg where
  from_ : Int
  to_ : Int
  kind : Int
  ns : List Int
  bs : List (List UInt8)
deriving DecidableEq
/-- a slice of slices of bytes that the call made itself: its row holds cells of type 65, each one's bytes lie in a block of bytes -/
def OwnL (w : World) (base : Nat) (v : Value) (ls : List (List UInt8)) : Prop :=
  ∃ vs : List Value, vs.length = ls.length ∧ w.ownsRow base 65 1 v ls.length vs ∧ (∀ u ∈ vs, u.oneCell' = true) ∧ ∀ i, i < ls.length → OwnB w base 5 (vs.getD i undef) (ls.getD i [])
theorem OwnL.nil (w : World) (base : Nat) : OwnL w base (.slice none 0 0) [] := ⟨[], rfl, World.ownsRow_nil _ _ _ _, (fun u hu => by cases hu), (fun i hi => by simp at hi)⟩
/-- what turns only blocks of other cells turns no row -/
theorem rows_types {w w' : World} {base : Nat} {e : TypeId} {k n : Nat} {v : Value} {xs : List Value} (h : w.ownsRow base e k v n xs) {S : List Nat} (ho : Only S w w') (hs : ∀ j ∈ S, ∀ cur, w.heap[j]? ≠ some (.cells cur e (0, 0))) : w'.ownsRow base e k v n xs :=
  rows_only h ho fun b hb hm => by
    obtain ⟨_, cur, hc⟩ := rows_block h hb
    exact hs b hm cur hc
theorem rows_below {w w' : World} {base : Nat} {e : TypeId} {k n : Nat} {v : Value} {xs : List Value} (h : w.ownsRow base e k v n xs) (hb : Below w.heap.size w w') : w'.ownsRow base e k v n xs :=
  rows_only h (Only.ofBelow hb []) (fun b _ => by simp)
/-- another row's growth leaves it, where the elements' types differ -/
theorem rows_grown {w w' : World} {base b2 : Nat} {e e2 : TypeId} {size n s2 n2 : Nat} {v v2 : Value} {xs x2 : List Value} (h : w.ownsRow base e size v n xs) (h2 : w.ownsRow b2 e2 s2 v2 n2 x2) (hne : e ≠ e2) (hg : w.grownBy w' v2.ownBlock) : w'.ownsRow base e size v n xs := by
  refine ⟨h.1, ?_⟩
  rcases h.2 with h3 | ⟨g, cap, cur, rfl, hg1, hh, r⟩
  · exact .inl h3
  · refine .inr ⟨g, cap, cur, rfl, hg1, ?_, r⟩
    rw [hg.block g (lt_of_heap hh) (fun he => ?_)]
    · exact hh
    · obtain ⟨_, cur2, hh2⟩ := rows_block h2 he.symm
      rw [hh] at hh2
      cases hh2
      exact hne rfl
theorem OwnL.only {w w' : World} {base : Nat} {v : Value} {ls : List (List UInt8)} (h : OwnL w base v ls) {S : List Nat} (ho : Only S w w') (hs : ∀ j ∈ S, ∀ cur, w.heap[j]? ≠ some (.cells cur 65 (0, 0)) ∧ w.heap[j]? ≠ some (.cells cur 5 (0, 0))) : OwnL w' base v ls := by
  obtain ⟨vs, h1, h2, h3, h4⟩ := h
  exact ⟨vs, h1, rows_types h2 ho (fun j hj cur => (hs j hj cur).1), h3, fun i hi => rows_types (h4 i hi) ho (fun j hj cur => (hs j hj cur).2)⟩
theorem OwnL.below {w w' : World} {base : Nat} {v : Value} {ls : List (List UInt8)} (h : OwnL w base v ls) (hb : Below w.heap.size w w') : OwnL w' base v ls :=
  h.only (Only.ofBelow hb []) (fun j hj => by cases hj)
theorem OwnL.mono {w : World} {base base' : Nat} {v : Value} {ls : List (List UInt8)} (h : OwnL w base v ls) (hb : base' ≤ base) : OwnL w base' v ls := by
  obtain ⟨vs, h1, h2, h3, h4⟩ := h
  exact ⟨vs, h1, rows_mono h2 hb, h3, fun i hi => (h4 i hi).mono hb⟩
theorem OwnL.shape {w : World} {base : Nat} {v : Value} {ls : List (List UInt8)} (h : OwnL w base v ls) : ∃ ao c, v = .slice ao ls.length c ∧ ls.length ≤ c ∧ c ≤ 9223372036854775807 := by
  obtain ⟨vs, h1, ⟨_, h2⟩, h3, h4⟩ := h
  rcases h2 with ⟨rfl, h0⟩ | ⟨g, cap, cur, rfl, hb, hh, hn, hm, hs, ht⟩
  · exact ⟨none, 0, by rw [h0], by omega, by decide⟩
  · unfold maxLen at hm
    exact ⟨_, cap, rfl, hn, by omega⟩
/-- it reads as a slice of slices of bytes -/
theorem OwnL.isBB {w : World} {base : Nat} {v : Value} {ls : List (List UInt8)} (h : OwnL w base v ls) (hb : ∀ l ∈ ls, l.length ≤ 140737488351232) : ∃ ao c, v = .slice ao ls.length c ∧ IsBB w ao ls.length ls := by
  obtain ⟨vs, h1, ⟨h9, h5⟩, h3, h4⟩ := h
  rcases h5 with ⟨rfl, h6⟩ | ⟨g, cap, cur, rfl, hg, hh, hn, hm, hs, ht⟩
  · exact ⟨none, 0, by rw [h6], ⟨rfl, .inl h6⟩⟩
  · refine ⟨_, cap, rfl, ⟨rfl, .inr ⟨g, 0, rfl, fun i hi => ?_⟩⟩⟩
    obtain ⟨a, c, k1, k2⟩ := (h4 i hi).isB
    have h7 : (cur.toList.take (ls.length * 1))[i]? = vs[i]? := by rw [ht]
    rw [List.getElem?_take, if_pos (by omega)] at h7
    have h8 : i < vs.length := by omega
    refine ⟨a, (ls.getD i []).length, c, ?_, k2, hb _ ?_⟩
    · rw [← k1]
      simp only [World.cell?, hh, Nat.zero_add]
      rw [Array.getElem?_toList] at h7
      rw [h7]
      simp [h8]
    · rw [List.getD_eq_getElem?_getD, List.getElem?_eq_getElem hi]; exact List.getElem_mem hi
/-- APPEND of one slice of bytes of the call's own -/
theorem wpList_append_own_sl {w : World} {ops : Array Oper} {rest : List Oper} {o : Oper} {a : Act} {Q : Exit → Act → World → Prop} (hgd : o.guard = none) (s x : Operand)
    (ho : o.op = .call { callee := .builtin .append, args := #[s, x], argTypes := #[30, 30] })
    (base : Nat) (v : Value) (ls : List (List UInt8)) (hs : a.eval s = v) (hown : OwnL w base v ls)
    (H : Nat) (u : Value) (l : List UInt8) (hx : a.eval x = .slice (some ⟨H, 0, none⟩) 1 1) (hcell : w.cell? ⟨H, 0, none⟩ = some u) (hel : OwnB w base 5 u l)
    (hbytes : ls.length + 1 ≤ 1000000) (hbase : base ≤ w.heap.size)
    (h : ∀ ao c w', OwnL w' base (.slice ao (ls.length + 1) c) (ls ++ [l]) → Below base w w' → w.grownBy w' v.ownBlock → wpList Try.prog ops Q rest (a.put o.dst (.slice ao (ls.length + 1) c)) w') : wpList Try.prog ops Q (o :: rest) a w := by
  obtain ⟨i0, hi0, hz0, hz1, hz2⟩ := info_parts info65
  obtain ⟨vs, h1, h2, h3, h4⟩ := hown
  have hone : u.oneCell' = true := by
    obtain ⟨ao, c, rfl, _⟩ := hel.isB
    rfl
  refine wpList_append_own w hgd s x 30 ho base 65 i0 (.slice none 0 0) 1 24 Try.underlying30 hi0 hz0 hz1 hz2 rfl (by decide) v _ _ hs h2 ⟨H, 0, none⟩ 1 1 [u] hx rfl ?_ ?_ (by unfold maxLen; omega) (by omega) hbase ?_
  · intro j y hj
    match j, hj with
    | 0, hj => rw [Addr.add_lit]; simp at hj; rw [hcell, ← hj]
  · intro y hy
    obtain rfl := List.mem_singleton.1 hy
    exact hone
  · intro v' w' g1 g2 _
    have hb : Below base w w' := (Below.refl base w).grown g2 hbase (fun k hk => (rows_block h2 hk).1)
    have g3 := g1
    obtain ⟨_, g4⟩ := g3
    have hsh : ∃ ao c, v' = .slice ao (ls.length + 1) c := by
      rcases g4 with ⟨rfl, h0⟩ | ⟨g, cap, cur, rfl, _⟩
      · omega
      · exact ⟨_, _, rfl⟩
    obtain ⟨ao, c, rfl⟩ := hsh
    refine h ao c w' ⟨vs ++ [u], by simp [h1], by rw [List.length_append]; exact g1, ?_, ?_⟩ hb g2
    · intro y hy
      rcases List.mem_append.1 hy with hy | hy
      · exact h3 y hy
      · obtain rfl := List.mem_singleton.1 hy; exact hone
    · intro i hi
      by_cases hlt : i < ls.length
      · have := rows_grown (h4 i hlt) h2 (by decide) g2
        unfold OwnB
        simpa [List.getElem?_append_left, hlt, h1] using this
      · obtain rfl : i = ls.length := by simp at hi; omega
        have := rows_grown hel h2 (by decide) g2
        rw [List.getD_eq_getElem?_getD, List.getD_eq_getElem?_getD, List.getElem?_append_right (by omega), List.getElem?_append_right (by omega), h1, Nat.sub_self]
        exact this
set_option maxHeartbeats 1000000 in
theorem cloneB_any (ao : Option Addr) (n c : Nat) (l : List UInt8) (w : World) (h : IsB w ao n c l) (hn : n ≤ 140737488351232) :
    Calls Try.prog 32 #[.slice ao n c] w fun e w' => ∃ v, e = .returned v ∧ OwnB w' w.heap.size 5 v l ∧ Below w.heap.size w w' := by
  have q65 : ∀ (w : World) (a : Option Addr) (n c n' c' : Nat), (binOp .eql 65 (.slice a n c) (.slice none n' c')).run Try.prog w = .ok (.bool a.isNone) w := fun w a n c n' c' => Lib.run_eql_slice_nil w _ _ a n c n' c' Try.underlying65
  have HI := Lib.hid h
  cases ao with
  | none =>
    obtain ⟨rfl, rfl⟩ := h.nil rfl
    obtain rfl : l = [] := List.length_eq_zero_iff.1 h.len
    clear h
    go_enter Try.func32, Try.ntmps32
    go_wp2_with fail
    go_ret
    exact ⟨_, rfl, OwnB.nil _ _ _, Below.refl _ _⟩
  | some p =>
    have hl := h.len
    clear h
    go_enter Try.func32, Try.ntmps32
    go_wp2_with (at_builtin; go_loud (refine wpList_append_bytes rfl _ _ 65 rfl w.heap.size 5 Try.underlying65 info5 _ [] rfl (OwnB.new w w.heap.size 5 [] #[] rfl w.heap.size rfl (Nat.le_refl _) 0 rfl (by decide)) _ _ _ l rfl (HI.out.alloc _) (by simp; omega) (by simp) ?_; intro v3 w3 hown3 hgr3 hb3; obtain ⟨ao3, c3, rfl, _⟩ := OwnB.isB hown3; have HB3 := Lib.hid hb3; have HW := Lib.hid hown3; clear hgr3 hb3 hown3))
    go_ret
    exact ⟨_, rfl, by rw [← hl]; simpa using HW.out, ((Below.refl _ _).alloc (Nat.le_refl _) _).trans HB3.out⟩
/-- a message that lies in the call's own memory: its numbers behind v, its texts behind u -/
structure OwnM (w : World) (base : Nat) (m : Mg) (v u : Value) : Prop where
  ns : OwnI w base 2 v m.ns
  bs : OwnL w base u m.bs
theorem OwnM.only {w w' : World} {base : Nat} {m : Mg} {v u : Value} (h : OwnM w base m v u) {S : List Nat} (ho : Only S w w') (hs : ∀ j ∈ S, ∀ cur, w.heap[j]? ≠ some (.cells cur 2 (0, 0)) ∧ w.heap[j]? ≠ some (.cells cur 65 (0, 0)) ∧ w.heap[j]? ≠ some (.cells cur 5 (0, 0))) : OwnM w' base m v u :=
  ⟨rows_types h.ns ho (fun j hj cur => (hs j hj cur).1), h.bs.only ho (fun j hj cur => (hs j hj cur).2)⟩
theorem OwnM.below {w w' : World} {base : Nat} {m : Mg} {v u : Value} (h : OwnM w base m v u) (hb : Below w.heap.size w w') : OwnM w' base m v u := ⟨h.ns.below hb, h.bs.below hb⟩
theorem OwnM.mono {w : World} {base base' : Nat} {m : Mg} {v u : Value} (h : OwnM w base m v u) (hb : base' ≤ base) : OwnM w base' m v u := ⟨h.ns.mono hb, h.bs.mono hb⟩
/-- a message that can be read -/
structure IsM (w : World) (m : Mg) (v u : Value) : Prop where
  ns : ∃ ao c, v = .slice ao m.ns.length c ∧ IsI w ao m.ns.length c m.ns
  bs : ∃ bo c, u = .slice bo m.bs.length c ∧ IsBB w bo m.bs.length m.bs
theorem IsM.below {w w' : World} {m : Mg} {v u : Value} (h : IsM w m v u) (hb : Below w.heap.size w w') : IsM w' m v u := by
  obtain ⟨⟨ao, c, h1, h2⟩, ⟨bo, c2, h3, h4⟩⟩ := h
  exact ⟨⟨ao, c, h1, h2.below hb⟩, ⟨bo, c2, h3, h4.below hb⟩⟩
def LightM (m : Mg) : Prop := m.ns.length ≤ 1000000 ∧ m.bs.length ≤ 100000 ∧ ∀ l ∈ m.bs, l.length ≤ 140737488351232
theorem OwnM.is {w : World} {base : Nat} {m : Mg} {v u : Value} (h : OwnM w base m v u) (hl : LightM m) : IsM w m v u := by
  obtain ⟨ao, c, h1, h2⟩ := h.ns.isI
  obtain ⟨bo, c2, h3, h4⟩ := h.bs.isBB hl.2.2
  exact ⟨⟨ao, c, h1, h2⟩, ⟨bo, c2, h3, h4⟩⟩
def cellsM (m : Mg) (v u : Value) : Array Value := #[.int .i64 m.from_, .int .i64 m.to_, .int .i64 m.kind, v, u]
def aggM (m : Mg) (v u : Value) : Value := .agg (cellsM m v u)
theorem five_ones (f t k : Int) (ao : Option Addr) (n c : Nat) (bo : Option Addr) (q d : Nat) : (#[Value.int .i64 f, .int .i64 t, .int .i64 k, .slice ao n c, .slice bo q d]).all (·.oneCell') = true := by
  refine Array.all_eq_true_iff_forall_mem.2 fun u hu => ?_
  simp only [List.mem_toArray, List.mem_cons, List.not_mem_nil, or_false] at hu
  rcases hu with rfl | rfl | rfl | rfl | rfl <;> rfl
set_option maxHeartbeats 4000000 in
theorem copiedM_any (m : Mg) (v u : Value) (w : World) (h : IsM w m v u) (hm : LightM m) :
    Calls Try.prog 27 #[aggM m v u] w fun e w' => ∃ v' u', e = .returned (aggM m v' u') ∧ OwnM w' w.heap.size m v' u' ∧ Below w.heap.size w w' := by
  obtain ⟨⟨ao, c, rfl, hns⟩, ⟨bo, c2, rfl, hbs⟩⟩ := h
  have HI := Lib.hid hns
  have HBB := Lib.hid hbs
  have HLM := Lib.hid hm
  have hb9 := hm.2.1
  have hn9 := hm.1
  clear hns hbs hm
  cases m with
  | mk f t k ns bs =>
  simp only [aggM, cellsM] at *
  go_enter Try.func27, Try.ntmps27
  go_wp2_with fail
  have hbx : Below w.heap.size w ((w.alloc (.cells #[.int .i64 f, .int .i64 t, .int .i64 k, .slice ao ns.length c, .slice bo bs.length c2] 32)).alloc (.cells #[.int .i64 0, .int .i64 0, .int .i64 0, .slice none 0 0, .slice none 0 0] 32)) := ((Below.refl _ _).alloc (Nat.le_refl _) _).alloc (by simp) _
  refine (clone_any ao ns.length c ns _ (HI.out.below hbx) hn9).mono ?_
  rintro e w1 ⟨v1, rfl, hown, hb⟩
  have hb' := hbx.trans (hb.mono hbx.size)
  have h0 := heap_below hb (j := w.heap.size) (by simp; omega) (heap_old (heap_new w (.cells #[.int .i64 f, .int .i64 t, .int .i64 k, .slice ao ns.length c, .slice bo bs.length c2] 32)) (.cells #[.int .i64 0, .int .i64 0, .int .i64 0, .slice none 0 0, .slice none 0 0] 32))
  have h1 := heap_below hb (j := w.heap.size + 1) (by simp) (by have := heap_new (w.alloc (.cells #[.int .i64 f, .int .i64 t, .int .i64 k, .slice ao ns.length c, .slice bo bs.length c2] 32)) (.cells #[.int .i64 0, .int .i64 0, .int .i64 0, .slice none 0 0, .slice none 0 0] 32); simpa using this)
  have hown' := hown.mono (show w.heap.size + 2 ≤ _ by simp)
  obtain ⟨a1, c1, rfl, _⟩ := hown'.isI
  have hsz1 : w.heap.size + 2 ≤ w1.heap.size := by have := hb.size; simp at this; omega
  have HO := Lib.hid hown'
  have HB := Lib.hid hb'
  clear hb hb' hown hown' hbx
  generalize hH : w.heap.size = H at *
  have HH := Lib.hid hH; clear hH
  have hc3 : w1.cell? ⟨H, 3, none⟩ = some (.slice ao ns.length c) := by rw [cell_heap h0]; rfl
  have hc4 : w1.cell? ⟨H, 4, none⟩ = some (.slice bo bs.length c2) := by rw [cell_heap h0]; rfl
  have hf3 := free_heap h0 3
  have K0 := Lib.hid (heap_set h0 3 (.slice a1 ns.length c1))
  have o1 : Only [H] w1 (w1.setCell ⟨H, 3, none⟩ (.slice a1 ns.length c1)) := (Only.refl _ _).setCell (by simp) _
  have K1 := Lib.hid (o1.keeps h1 (by simp))
  have HOX := Lib.hid (rows_types HO.out o1 (fun j hj cur => by obtain rfl := List.mem_singleton.1 hj; rw [h0]; simp))
  have HB2 := Lib.hid (HB.out.trans (o1.below (by rw [← HH.out]; exact HB.out.size) (by simp)))
  have hsz2 : H + 2 ≤ (w1.setCell ⟨H, 3, none⟩ (.slice a1 ns.length c1)).heap.size := Nat.le_trans hsz1 o1.size
  clear h0 h1 o1
  go_upto_region 2 with (fail)
  generalize (w1.setCell ⟨H, 3, none⟩ (.slice a1 ns.length c1)) = w2 at *
  have hc42 : w2.cell? ⟨H, 4, none⟩ = some (.slice bo bs.length c2) := by rw [cell_heap K0.out]; rfl
  have hf42 := free_heap K0.out 4
  clear hc3 hc4 hf3
  have hbl0 : Below (H + 2) w2 w2 := Below.refl _ _
  have HOX2 : OwnI w2 (H + 2) 2 (.slice a1 ns.length c1) ns := HOX.out
  have hnil : OwnL w2 (H + 2) (.slice none 0 0) [] := OwnL.nil _ _
  have HN := Lib.hid hnil
  have HOX3 := Lib.hid HOX2
  generalize hnb : bs.length = nb at *
  have HNB := Lib.hid hnb
  clear HOX2 hnil HOX hnb
  go_wp2_with fail
  go_loopw [3, 13] (fun v i wr => ∃ j : Nat, j ≤ nb ∧ i = .int .i64 (j : Int) ∧ ∃ ao' c', v = .slice ao' j c' ∧ OwnL wr (H + 2) v (bs.take j) ∧ OwnI wr (H + 2) 2 (.slice a1 ns.length c1) ns ∧ Below (H + 2) w2 wr) (fun _ i _ => nb - (intOf i).toNat)
  case atStart => exact ⟨0, by omega, rfl, none, 0, rfl, HN.out, HOX3.out, hbl0⟩
  case round =>
    obtain ⟨j, hj, rfl, vo, vc, rfl, hol, hoi, hbl⟩ := hrel
    have HOL := Lib.hid hol; have HOI := Lib.hid hoi; have HBL := Lib.hid hbl
    have hszr : H + 2 ≤ wr.heap.size := Nat.le_trans hsz2 hbl.size
    clear hol hoi hbl hbl0
    have hbW : Below H w wr := HB2.out.trans (HBL.out.mono (by omega))
    by_cases hlt : j < nb
    · obtain ⟨b, off, rfl, hel⟩ : ∃ b off, bo = some ⟨b, off, none⟩ ∧ ∃ a m c, w.cell? ⟨b, off + j, none⟩ = some (.slice a m c) ∧ IsB w a m c (bs.getD j []) ∧ m ≤ 140737488351232 := by
        rcases HBB.out.at_ with h0 | ⟨b, off, h1, h2⟩
        · omega
        · exact ⟨b, off, h1, h2 j hlt⟩
      obtain ⟨ea, em, ec, he1, he2, he3⟩ := hel
      have hce := cell_later (show Below w.heap.size w wr from HH.out ▸ hbW) he1
      have HE2 := Lib.hid (he2.below (show Below w.heap.size w wr from HH.out ▸ hbW))
      have HTK : Hid (bs.take (j + 1) = bs.take j ++ [bs.getD j []]) := Lib.hid (by
        rw [List.take_succ_eq_append_getElem (by rw [HNB.out]; exact hlt)]
        simp [show j < bs.length by rw [HNB.out]; exact hlt])
      have HTL : Hid ((bs.take j).length = j) := Lib.hid (by rw [List.length_take, HNB.out]; omega)
      generalize bs.getD j [] = el at *
      clear he1 he2
      have HBW := Lib.hid hbW
      clear hbW
      go_wp2_with fail
      refine (cloneB_any ea em ec el wr HE2.out he3).mono ?_
      rintro e w5 ⟨v5, rfl, ho5, hb5⟩
      obtain ⟨a5, c5, rfl, _⟩ := ho5.isB
      have HO5 := Lib.hid (ho5.mono hszr)
      have HB5 := Lib.hid hb5
      have hsz5 : H + 2 ≤ w5.heap.size := Nat.le_trans hszr hb5.size
      clear ho5 hb5 hce
      go_wp2_with (at_builtin; refine wpList_append_own_sl rfl _ _ rfl (H + 2) (.slice vo j vc) (bs.take j) rfl ((HOL.out.below HB5.out).below ((Below.refl _ _).alloc (Nat.le_refl _) _)) w5.heap.size _ el rfl (by rw [cell_heap (heap_new _ _)]; rfl) (HO5.out.alloc _) (by rw [HTL.out]; omega) (by simp; omega) ?_; intro a6 c6 w6 ho6 hb6 hg6; rw [HTL.out] at ho6 ⊢; have HO6 := Lib.hid ho6; have HB6 := Lib.hid hb6; have HI6 := Lib.hid (by obtain ⟨vs, _, hr, _⟩ := (HOL.out.below HB5.out).below ((Below.refl _ _).alloc (Nat.le_refl _) (.cells #[.slice a5 el.length c5] 65)); exact rows_grown ((HOI.out.below HB5.out).below ((Below.refl _ _).alloc (Nat.le_refl _) (.cells #[.slice a5 el.length c5] 65))) hr (by decide) hg6); clear ho6 hb6 hg6)
      go_roundw
      case rel => exact ⟨j + 1, by omega, by go_num, a6, c6, rfl, by rw [HTK.out]; exact HO6.out, HI6.out, HBL.out.trans (((HB5.out.mono hszr).alloc hsz5 _).trans HB6.out)⟩
      case measure => simp [intOf]; omega
    · obtain rfl : j = nb := by omega
      have hol := HOL.out
      rw [List.take_of_length_le (by rw [HNB.out]; omega)] at hol
      have HOL2 := Lib.hid hol
      have hx0 := (HBL.out.block H (by omega)).trans K0.out
      have hx1 := (HBL.out.block (H + 1) (by omega)).trans ((show w2.heap[H + 1]? = _ from K1.out))
      have hc4 : wr.cell? ⟨H, 4, none⟩ = some (.slice bo j c2) := by rw [cell_heap hx0]; rfl
      have hf4 : wr.frozen? ⟨H, 4, none⟩ = false := free_heap hx0 4
      have oA : Only [H] wr (wr.setCell ⟨H, 4, none⟩ (.slice vo j vc)) := (Only.refl _ _).setCell (by simp) _
      have hx0' : (wr.setCell ⟨H, 4, none⟩ (.slice vo j vc)).heap[H]? = some (.cells #[.int .i64 f, .int .i64 t, .int .i64 k, .slice a1 ns.length c1, .slice vo j vc] 32 (0, 0)) := heap_set hx0 4 _
      have hx1' := oA.keeps hx1 (by simp)
      have HA := Lib.hid oA; have HX0 := Lib.hid hx0'; have HX1 := Lib.hid hx1'
      have HNT : Hid (∀ j ∈ [H], ∀ cur, wr.heap[j]? ≠ some (.cells cur 2 (0, 0)) ∧ wr.heap[j]? ≠ some (.cells cur 65 (0, 0)) ∧ wr.heap[j]? ≠ some (.cells cur 5 (0, 0))) := Lib.hid (by
        intro q hq cur
        obtain rfl := List.mem_singleton.1 hq
        rw [hx0]; simp)
      clear oA hx0 hx1 hx0' hx1' hol hc42 hf42 hbW
      go_upto_region 9 with (fail)
      clear hc4 hf4
      have HM1 : Hid (OwnM (wr.setCell ⟨H, 4, none⟩ (.slice vo j vc)) (H + 2) ⟨f, t, k, ns, bs⟩ (.slice a1 ns.length c1) (.slice vo j vc)) := Lib.hid (OwnM.only ⟨HOI.out, HOL2.out⟩ HA.out HNT.out)
      have hbA : Below H w (wr.setCell ⟨H, 4, none⟩ (.slice vo j vc)) := (HB2.out.trans (HBL.out.mono (by omega))).trans (HA.out.below (by omega) (by simp))
      have HBA := Lib.hid hbA; clear hbA
      generalize (wr.setCell ⟨H, 4, none⟩ (.slice vo j vc)) = wa at *
      go_wp2_with (first
        | (refine wpList_load_row rfl 32 (.tmp 1) rfl H rfl 32 #[.int .i64 f, .int .i64 t, .int .i64 k, .slice a1 ns.length c1, .slice vo j vc] (0, 0) _ HX0.out Try.underlying32 rfl size32 ?_)
        | (refine wpList_store_row rfl 32 (.tmp 2) (.tmp 25) rfl (H + 1) #[.int .i64 f, .int .i64 t, .int .i64 k, .slice a1 ns.length c1, .slice vo j vc] rfl rfl 32 _ HX1.out size32 rfl (five_ones _ _ _ _ _ _ _ _ _) ?_))
      have HHP := Lib.hid (setRow_heap _ (H + 1) _ #[.int .i64 f, .int .i64 t, .int .i64 k, .slice a1 ns.length c1, .slice vo j vc] 32 (0, 0) HX1.out)
      have hon : Only [H + 1] wa (wa.setRow (H + 1) #[.int .i64 f, .int .i64 t, .int .i64 k, .slice a1 ns.length c1, .slice vo j vc]) := ⟨rfl, rfl, rfl, by simp, fun k _ hk => setRow_other _ _ _ _ (by simpa using hk)⟩
      (try simp only [Exit.inBlock, Exit.then])
      refine bodyPost_ret (results_cell_row (P := Try.prog) (fn := Try.f27) rfl _ _ (H + 1) 32 _ (0, 0) _ rfl HHP.out Try.underlying32 rfl size32) rfl ?_
      rw [HH.out]
      refine ⟨_, _, rfl, (HM1.out.only hon ?_).mono (by omega), HBA.out.trans (hon.below (by have := HBA.out.size; rw [HH.out] at this; exact this) (by simp))⟩
      intro q hq cur
      obtain rfl := List.mem_singleton.1 hq
      rw [HX1.out]; simp
end Go.Proofs.Ytmehgkbhpfcmpaa
