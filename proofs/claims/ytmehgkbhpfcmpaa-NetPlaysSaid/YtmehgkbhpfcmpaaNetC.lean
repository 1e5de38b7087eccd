/-
  Messages are copied; one is told.
-/
import Derived.Test.YtmehgkbhpfcmpaaNetM
import Derived.Lib.SliceRun
namespace Go.Proofs.Ytmehgkbhpfcmpaa
open Go.RowKit

theorem info2 : (Try.prog.info? 2).map (fun i => (i.zero, i.size, i.bytes)) = some (some (.int .i64 0), 1, 8) := by kernel_rfl
set_option maxHeartbeats 1000000 in
theorem clone_any (ao : Option Addr) (n c : Nat) (l : List Int) (w : World) (h : IsI w ao n c l) (hn : n ≤ 1000000) :
    Calls Try.prog 31 #[.slice ao n c] w fun e w' => ∃ v, e = .returned v ∧ OwnI w' w.heap.size 2 v l ∧ Below w.heap.size w w' := by
  have q29 : ∀ (w : World) (a : Option Addr) (n c n' c' : Nat), (binOp .eql 29 (.slice a n c) (.slice none n' c')).run Try.prog w = .ok (.bool a.isNone) w := fun w a n c n' c' => Lib.run_eql_slice_nil w _ _ a n c n' c' Try.underlying29
  have HI := Lib.hid h
  cases ao with
  | none =>
    obtain ⟨rfl, rfl⟩ := h.nil rfl
    obtain rfl : l = [] := List.length_eq_zero_iff.1 h.len
    clear h
    go_enter Try.func31, Try.ntmps31
    go_wp2_with fail
    go_ret
    exact ⟨_, rfl, OwnI.nil _ _ _, Below.refl _ _⟩
  | some p =>
    have hl := h.len
    clear h
    go_enter Try.func31, Try.ntmps31
    go_wp2_with (at_builtin; go_loud (refine wpList_append_ints rfl _ _ 29 rfl w.heap.size 2 Try.underlying29 info2 _ [] rfl (OwnI.new w w.heap.size 2 [] #[] rfl w.heap.size rfl (Nat.le_refl _) 0 rfl (by decide)) _ _ _ l rfl (HI.out.alloc _) (by simp; omega) (by simp) ?_; intro v3 w3 hown3 hgr3 hb3; obtain ⟨ao3, c3, rfl, _⟩ := OwnI.isI hown3; have HB3 := Lib.hid hb3; have HW := Lib.hid hown3; clear hgr3 hb3 hown3))
    go_ret
    exact ⟨_, rfl, by rw [← hl]; simpa using HW.out, ((Below.refl _ _).alloc (Nat.le_refl _) _).trans HB3.out⟩

theorem heap_below {w w' : World} {B j : Nat} {o : Obj} (hb : Below B w w') (hj : j < B) (h : w.heap[j]? = some o) : w'.heap[j]? = some o := by
  rw [hb.block j hj]; exact h
/-- what turns only a block of other cells turns no row of numbers -/
theorem OwnI.only2 {w w' : World} {base : Nat} {v : Value} {l : List Int} (h : OwnI w base 2 v l) {a : Nat} (ho : Only [a] w w') {cs : Array Value} {t : TypeId} {fr : Nat × Nat} (ha : w.heap[a]? = some (.cells cs t fr)) (ht : t ≠ 2 := by decide) : OwnI w' base 2 v l :=
  rows_only h ho (fun b hb hm => by
    obtain ⟨_, cur, hc⟩ := rows_block h hb
    obtain rfl : b = a := by simpa using hm
    rw [ha] at hc
    simp only [Option.some.injEq, Obj.cells.injEq] at hc
    exact ht hc.2.1)
def msgV (f t k : Int) (v : Value) : Value := .agg #[.int .i64 f, .int .i64 t, .int .i64 k, v, .slice none 0 0]
set_option maxHeartbeats 2000000 in
theorem copied_any (f t k : Int) (ao : Option Addr) (n c : Nat) (l : List Int) (w : World) (h : IsI w ao n c l) (hn : n ≤ 1000000) :
    Calls Try.prog 27 #[msgV f t k (.slice ao n c)] w fun e w' => ∃ v, e = .returned (msgV f t k v) ∧ OwnI w' w.heap.size 2 v l ∧ Below w.heap.size w w' := by
  have HI := Lib.hid h; clear h
  unfold msgV
  go_enter Try.func27, Try.ntmps27
  go_wp2_with fail
  refine (clone_any ao n c l _ ((HI.out.alloc _).alloc _) hn).mono ?_
  rintro e w1 ⟨v, rfl, hown, hb⟩
  have hb' : Below w.heap.size w w1 := (((Below.refl _ _).alloc (Nat.le_refl _) _).alloc (by simp) _).trans (hb.mono (by simp; omega))
  have h0 := heap_below hb (j := w.heap.size) (by simp; omega) (heap_old (heap_new w (.cells #[.int .i64 f, .int .i64 t, .int .i64 k, .slice ao n c, .slice none 0 0] 32)) (.cells #[.int .i64 0, .int .i64 0, .int .i64 0, .slice none 0 0, .slice none 0 0] 32))
  have h1 := heap_below hb (j := w.heap.size + 1) (by simp) (by have := heap_new (w.alloc (.cells #[.int .i64 f, .int .i64 t, .int .i64 k, .slice ao n c, .slice none 0 0] 32)) (.cells #[.int .i64 0, .int .i64 0, .int .i64 0, .slice none 0 0, .slice none 0 0] 32); simpa using this)
  have hown' := hown.mono (show w.heap.size ≤ _ by simp; omega)
  obtain ⟨a1, c1, rfl, _⟩ := hown'.isI
  have HO := Lib.hid hown'
  have HB := Lib.hid hb'
  clear hb hb' hown hown'
  generalize hH : w.heap.size = H at *
  have HH := Lib.hid hH; clear hH
  have hc0 : w1.cell? ⟨H, 0, none⟩ = some (.int .i64 f) := by rw [cell_heap h0]; rfl
  have hc1 : w1.cell? ⟨H, 1, none⟩ = some (.int .i64 t) := by rw [cell_heap h0]; rfl
  have hc2 : w1.cell? ⟨H, 2, none⟩ = some (.int .i64 k) := by rw [cell_heap h0]; rfl
  have hc3 : w1.cell? ⟨H, 3, none⟩ = some (.slice ao n c) := by rw [cell_heap h0]; rfl
  have hc4 : w1.cell? ⟨H, 4, none⟩ = some (.slice none 0 0) := by rw [cell_heap h0]; rfl
  have hf3 := free_heap h0 3
  have hf4 := free_heap h0 4
  have hd0 : w1.cell? ⟨H + 1, 0, none⟩ = some (.int .i64 0) := by rw [cell_heap h1]; rfl
  have hd1 : w1.cell? ⟨H + 1, 1, none⟩ = some (.int .i64 0) := by rw [cell_heap h1]; rfl
  have hd2 : w1.cell? ⟨H + 1, 2, none⟩ = some (.int .i64 0) := by rw [cell_heap h1]; rfl
  have hd3 : w1.cell? ⟨H + 1, 3, none⟩ = some (.slice none 0 0) := by rw [cell_heap h1]; rfl
  have hd4 : w1.cell? ⟨H + 1, 4, none⟩ = some (.slice none 0 0) := by rw [cell_heap h1]; rfl
  have he0 := free_heap h1 0
  have he1 := free_heap h1 1
  have he2 := free_heap h1 2
  have he3 := free_heap h1 3
  have he4 := free_heap h1 4
  have K0 := Lib.hid h0
  have K1 := Lib.hid h1
  clear h0 h1
  go_wp2_with fail
  go_loopw [3, 13] (fun v i wr => v = .slice none 0 0 ∧ i = .int .i64 0 ∧ wr = w1.setCell ⟨H, 3, none⟩ (.slice a1 l.length c1)) (fun _ i _ => 0)
  case atStart => exact ⟨rfl, rfl, rfl⟩
  case round =>
    obtain ⟨rfl, rfl, rfl⟩ := hrel
    go_wp2_with fail
    (try simp only [Exit.inBlock, Exit.then])
    have o1 : Only [H] w1 ((w1.setCell ⟨H, 3, none⟩ (.slice a1 l.length c1)).setCell ⟨H, 4, none⟩ (.slice none 0 0)) := ((Only.refl _ _).setCell (by simp) _).setCell (by simp) _
    have k1 := o1.keeps K1.out (by simp)
    have q1 := OwnI.only2 HO.out o1 K0.out
    have b1 := HB.out.trans (o1.below (by rw [← HH.out]; exact HB.out.size) (by simp))
    generalize ((w1.setCell ⟨H, 3, none⟩ (.slice a1 l.length c1)).setCell ⟨H, 4, none⟩ (.slice none 0 0)) = w2 at *
    have o2 : Only [H + 1] w2 (((((w2.setCell ⟨H + 1, 0, none⟩ (.int .i64 f)).setCell ⟨H + 1, 1, none⟩ (.int .i64 t)).setCell ⟨H + 1, 2, none⟩ (.int .i64 k)).setCell ⟨H + 1, 3, none⟩ (.slice a1 l.length c1)).setCell ⟨H + 1, 4, none⟩ (.slice none 0 0)) :=
      (((((Only.refl _ _).setCell (by simp) _).setCell (by simp) _).setCell (by simp) _).setCell (by simp) _).setCell (by simp) _
    have k2 := heap_set (heap_set (heap_set (heap_set (heap_set k1 0 (.int .i64 f)) 1 (.int .i64 t)) 2 (.int .i64 k)) 3 (.slice a1 l.length c1)) 4 (.slice none 0 0)
    have q2 := OwnI.only2 q1 o2 k1
    have b2 := b1.trans (o2.below (by have := b1.size; rw [HH.out] at this; exact this) (by simp))
    refine bodyPost_ret (results_cell_row (P := Try.prog) (fn := Try.f27) rfl _ _ (H + 1) 32 #[.int .i64 f, .int .i64 t, .int .i64 k, .slice a1 l.length c1, .slice none 0 0] (0, 0) _ rfl (by simpa using k2) Try.underlying32 rfl size32) rfl ?_
    rw [HH.out]
    exact ⟨_, rfl, q2, b2⟩
end Go.Proofs.Ytmehgkbhpfcmpaa
