/-
  A message as the document's; are two the same?
-/
import Derived.Test.YtmehgkbhpfcmpaaRN
namespace Go.Proofs.Ytmehgkbhpfcmpaa.G
open Go.RowKit Go.Proofs.Ytmehgkbhpfcmpaa
theorem size49 : (Try.prog.info? 49).map (·.size) = some 5 := by kernel_rfl
set_option maxHeartbeats 1000000 in
theorem nm_any (m : Mg) (ao : Option Addr) (n c : Nat) (bo : Option Addr) (q c2 : Nat) (w : World) :
    Calls Try.prog 18 #[aggM m (.slice ao n c) (.slice bo q c2)] w fun e w' => e = .returned (aggM m (.slice ao n c) (.slice bo q c2)) ∧ Below w.heap.size w w' := by
  cases m with
  | mk f t k ns bs =>
  simp only [aggM, cellsM]
  go_enter Try.func18, Try.ntmps18
  go_wp2_with fail
  (try simp only [Exit.inBlock, Exit.then])
  refine bodyPost_ret (results_cell_row (P := Try.prog) (fn := Try.f18) rfl _ _ (w.heap.size + 1) 49 #[.int .i64 f, .int .i64 t, .int .i64 k, .slice ao n c, .slice bo q c2] (0, 0) _ rfl ?_ Try.underlying49 rfl size49) rfl ⟨rfl, ((Below.refl _ _).alloc (Nat.le_refl _) _).alloc (by simp) _⟩
  have := heap_new (w.alloc (.cells #[.int .i64 f, .int .i64 t, .int .i64 k, .slice ao n c, .slice bo q c2] 32)) (.cells #[.int .i64 f, .int .i64 t, .int .i64 k, .slice ao n c, .slice bo q c2] 49)
  simpa using this
def strA (l : List UInt8) : ByteArray := ⟨l.toArray⟩
theorem convA_any (w : World) (ao : Option Addr) (n c : Nat) (l : List UInt8) (h : IsB w ao n c l) : (convert 65 9 (.slice ao n c)).run Try.prog w = .ok (.string (strA l)) w := by
  obtain ⟨h1, h2, h3⟩ := h
  cases ao with
  | none =>
    obtain ⟨rfl, rfl⟩ := h2 rfl
    obtain rfl := List.length_eq_zero_iff.1 h1
    rw [run_convert_bytes_nil w 65 5 Try.underlying65 Try.underlying5 0 0 9 Try.underlying9]
    rfl
  | some p =>
    rcases h3 with h3 | ⟨b, off, h4, h5⟩
    · subst h3
      obtain rfl := List.length_eq_zero_iff.1 h1
      rw [run_convert_bytes_string w 65 9 5 _ 0 c Try.underlying65 Try.underlying5 Try.underlying9, run_bytesToString w p 0 c [] (run_loadCells_list w p [] (by simp))]
      rfl
    · cases h4
      rw [run_convert_bytes_arg w 65 5 Try.underlying65 Try.underlying5 b off n c (l.map fun x => (x.toNat : Int)) (by simpa using h1) (fun i hi => by rw [h5 i hi]; simp [h1, hi]) 9 Try.underlying9]
      simp only [strOfNums, strA, List.map_map]
      congr 4
      rw [List.map_congr_left (g := id)]
      · simp
      · intro x _; simp
/-- the cells of a slice of numbers -/
theorem isI_cell {w : World} {ao : Option Addr} {n c : Nat} {l : List Int} (h : IsI w ao n c l) (i : Nat) (hi : i < n) : ∃ b off, ao = some ⟨b, off, none⟩ ∧ w.cell? ⟨b, off + i, none⟩ = some (.int .i64 (l.getD i 0)) := by
  obtain ⟨h1, h2, h3⟩ := h
  rcases h3 with h0 | ⟨b, off, rfl, h4⟩
  · omega
  · exact ⟨b, off, rfl, by rw [h4 i hi]⟩
set_option maxHeartbeats 4000000 in
theorem same_refl (m : Mg) (v u v2 u2 : Value) (w : World) (h : IsM w m v u) (k : IsM w m v2 u2) (hm : LightM m) :
    Calls Try.prog 21 #[aggM m v u, aggM m v2 u2] w fun e w' => e = .returned (.bool true) ∧ Below w.heap.size w w' := by
  obtain ⟨⟨ao, c, rfl, hi⟩, ⟨bo, d, rfl, hb⟩⟩ := h
  obtain ⟨⟨ao2, c2, rfl, hi2⟩, ⟨bo2, d2, rfl, hb2⟩⟩ := k
  have HL := Lib.hid hm
  have HI := Lib.hid hi; have HI2 := Lib.hid hi2; have HB := Lib.hid hb; have HB2 := Lib.hid hb2
  have hq1 := hm.1; have hq2 := hm.2.1
  clear hi hi2 hb hb2 hm
  cases m with
  | mk f t mk ns bs =>
  simp only [aggM, cellsM] at *
  generalize ns.length = n at *
  generalize bs.length = q at *
  go_enter Try.func21, Try.ntmps21
  have hbW : Below w.heap.size w ((w.alloc (.cells #[.int .i64 f, .int .i64 t, .int .i64 mk, .slice ao n c, .slice bo q d] 49)).alloc (.cells #[.int .i64 f, .int .i64 t, .int .i64 mk, .slice ao2 n c2, .slice bo2 q d2] 49)) := ((Below.refl _ _).alloc (Nat.le_refl _) _).alloc (by simp) _
  have hA := heap_old (heap_new w (.cells #[.int .i64 f, .int .i64 t, .int .i64 mk, .slice ao n c, .slice bo q d] 49)) (.cells #[.int .i64 f, .int .i64 t, .int .i64 mk, .slice ao2 n c2, .slice bo2 q d2] 49)
  have hB := heap_new (w.alloc (.cells #[.int .i64 f, .int .i64 t, .int .i64 mk, .slice ao n c, .slice bo q d] 49)) (.cells #[.int .i64 f, .int .i64 t, .int .i64 mk, .slice ao2 n c2, .slice bo2 q d2] 49)
  rw [show (w.alloc (.cells #[.int .i64 f, .int .i64 t, .int .i64 mk, .slice ao n c, .slice bo q d] 49)).heap.size = w.heap.size + 1 by simp] at hB
  have hx3 : ((w.alloc (.cells #[.int .i64 f, .int .i64 t, .int .i64 mk, .slice ao n c, .slice bo q d] 49)).alloc (.cells #[.int .i64 f, .int .i64 t, .int .i64 mk, .slice ao2 n c2, .slice bo2 q d2] 49)).cell? ⟨w.heap.size, 3, none⟩ = some (.slice ao n c) := by rw [cell_heap hA]; rfl
  have hx4 : ((w.alloc (.cells #[.int .i64 f, .int .i64 t, .int .i64 mk, .slice ao n c, .slice bo q d] 49)).alloc (.cells #[.int .i64 f, .int .i64 t, .int .i64 mk, .slice ao2 n c2, .slice bo2 q d2] 49)).cell? ⟨w.heap.size, 4, none⟩ = some (.slice bo q d) := by rw [cell_heap hA]; rfl
  have hy3 : ((w.alloc (.cells #[.int .i64 f, .int .i64 t, .int .i64 mk, .slice ao n c, .slice bo q d] 49)).alloc (.cells #[.int .i64 f, .int .i64 t, .int .i64 mk, .slice ao2 n c2, .slice bo2 q d2] 49)).cell? ⟨w.heap.size + 1, 3, none⟩ = some (.slice ao2 n c2) := by rw [cell_heap hB]; rfl
  have hy4 : ((w.alloc (.cells #[.int .i64 f, .int .i64 t, .int .i64 mk, .slice ao n c, .slice bo q d] 49)).alloc (.cells #[.int .i64 f, .int .i64 t, .int .i64 mk, .slice ao2 n c2, .slice bo2 q d2] 49)).cell? ⟨w.heap.size + 1, 4, none⟩ = some (.slice bo2 q d2) := by rw [cell_heap hB]; rfl
  clear hA hB
  go_upto_region 3 with (fail)
  generalize (w.alloc (.cells #[.int .i64 f, .int .i64 t, .int .i64 mk, .slice ao n c, .slice bo q d] 49)).alloc (.cells #[.int .i64 f, .int .i64 t, .int .i64 mk, .slice ao2 n c2, .slice bo2 q d2] 49) = W at *
  have HBW := Lib.hid hbW
  clear hbW
  generalize hH : w.heap.size = H at *
  have HH := Lib.hid hH; clear hH
  have H4 := Lib.hid (And.intro hx4 hy4)
  clear hx4 hy4
  go_wp2_with fail
  go_loopw [5] (fun i wr => ∃ k : Nat, k ≤ n ∧ i = .int .i64 (k : Int) ∧ Hid (Below W.heap.size W wr)) (fun i _ => n - (intOf i).toNat)
  case atStart => exact ⟨0, by omega, rfl, Lib.hid (Below.refl _ _)⟩
  case round =>
    obtain ⟨k, hk, rfl, HR⟩ := hrel
    have hx3r := cell_later HR.out hx3
    have hy3r := cell_later HR.out hy3
    by_cases hlt : k < n
    · obtain ⟨b1, o1, rfl, e1⟩ := isI_cell HI.out k hlt
      obtain ⟨b2, o2, rfl, e2⟩ := isI_cell HI2.out k hlt
      have hbw : Below w.heap.size w wr := by rw [HH.out]; exact HBW.out.trans (HR.out.mono (by have := HBW.out.size; have := HH.out; omega))
      have e1r := cell_later hbw e1
      have e2r := cell_later hbw e2
      clear e1 e2 hbw hx3 hy3
      generalize ns.getD k 0 = z at *
      go_wp2_with fail
      go_quiet (fail)
      go_wp2_with fail
      go_roundw
      case rel => exact ⟨k + 1, by omega, by go_num, Lib.hid (below_drew HR.out _)⟩
      case measure => simp [intOf]; omega
    · obtain rfl : k = n := by omega
      have hx4 := cell_later HR.out H4.out.1
      have hy4 := cell_later HR.out H4.out.2
      go_wp2_with fail
      clear hx3r hy3r
      have hbw : Below w.heap.size w wr := by rw [HH.out]; exact HBW.out.trans (HR.out.mono (by have := HBW.out.size; have := HH.out; omega))
      have HBR := Lib.hid hbw; clear hbw HR HBW hx3 hy3
      generalize wr = wp at *
      go_loopw [6] (fun i wq => ∃ j : Nat, j ≤ q ∧ i = .int .i64 (j : Int) ∧ Hid (Below wp.heap.size wp wq)) (fun i _ => q - (intOf i).toNat)
      case atStart => exact ⟨0, by omega, rfl, Lib.hid (Below.refl _ _)⟩
      case round =>
        obtain ⟨j, hj, rfl, HQ⟩ := hrel
        have hx4r := cell_later HQ.out hx4
        have hy4r := cell_later HQ.out hy4
        by_cases hlt2 : j < q
        · have hbq : Below w.heap.size w wr := HBR.out.trans (HQ.out.mono HBR.out.size)
          obtain ⟨e1, x1⟩ := HB.out
          obtain ⟨e2, x2⟩ := HB2.out
          rcases x1 with x1 | ⟨b, off, rfl, x1⟩
          · omega
          rcases x2 with x2 | ⟨b2, off2, rfl, x2⟩
          · omega
          obtain ⟨a1, m1, k1, y1, y2, _⟩ := x1 j hlt2
          obtain ⟨a2, m2, k2, z1, z2, _⟩ := x2 j hlt2
          have c1 := cell_later hbq y1
          have c2' := cell_later hbq z1
          have v1 := fun e => convA_any (wr.drewN e) _ _ _ _ ((y2.below hbq).heapw (w' := wr.drewN e) rfl)
          have v2 := fun e => convA_any (wr.drewN e) _ _ _ _ ((z2.below hbq).heapw (w' := wr.drewN e) rfl)
          generalize strA (bs.getD j []) = t at v1 v2
          have hst : (t.toList == t.toList) = true := by simp
          clear e1 e2 x1 x2 y1 y2 z1 z2 hbq hx4 hy4 H4 HB HB2 HI HI2 hlt HL
          go_wp2_with fail
          go_quiet (fail)
          go_wp2_with fail
          go_roundw
          case rel => exact ⟨j + 1, by omega, by go_num, Lib.hid (below_drew HQ.out _)⟩
          case measure => simp [intOf]; omega
        · obtain rfl : j = q := by omega
          have hbq : Below w.heap.size w wr := HBR.out.trans (HQ.out.mono HBR.out.size)
          have HBQ := Lib.hid hbq
          clear hbq
          go_wp2_with fail
          go_ret
          exact ⟨rfl, HBQ.out⟩
end Go.Proofs.Ytmehgkbhpfcmpaa.G
