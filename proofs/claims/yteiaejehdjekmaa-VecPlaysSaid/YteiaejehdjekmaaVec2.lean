/-
  vec.Vec's All, Within, Join, told by lists of numbers. Condition: at most 4 of them.
-/
import Derived.Test.YteiaejehdjekmaaVec
namespace Go.Proofs.Yteiaejehdjekmaa
open Go.RowKit

theorem info2 : (Try.prog.info? 2).map (fun i => (i.zero, i.size, i.bytes)) = some (some (.int .i64 0), 1, 8) := by kernel_rfl

theorem IsV.isI {T : TypeId} {w : World} {a g : Nat} {l : List Int} (h : IsV T w a g l) : IsI w (some ⟨g, 0, none⟩) l.length l.length l :=
  ⟨rfl, (fun h => by cases h), .inr ⟨g, 0, rfl, fun i hi => by rw [Nat.zero_add]; exact h.at i hi⟩⟩

set_option maxHeartbeats 400000 in
theorem clone_some (b off n c : Nat) (l : List Int) (w : World) (h : IsI w (some ⟨b, off, none⟩) n c l) (hn : n ≤ 1000) :
    Calls Try.prog 23 #[.slice (some ⟨b, off, none⟩) n c] w fun e w' => ∃ v, e = .returned v ∧ OwnI w' w.heap.size 2 v l ∧ Below w.heap.size w w' := by
  have hq : ∀ w, (binOp .eql 22 (.slice (some ⟨b, off, none⟩) n c) (.slice none 0 0)).run Try.prog w = .ok (.bool false) w := fun w => by
    exact Lib.run_eql_slice_nil (P := Try.prog) w 22 2 (some ⟨b, off, none⟩) n c 0 0 Try.underlying22
  have hc1 : ([] : List Int).length + n ≤ 17592186044416 := by simp; omega
  have HO := OwnI.new w w.heap.size 2 [] #[] (by rfl) _ rfl (Nat.le_refl _) 0 rfl (by omega)
  have hc2 : w.heap.size ≤ (w.alloc (.cells #[] 2)).heap.size := by simp
  go_enter Try.func23, Try.ntmps23
  go_wp2_with (at_builtin; refine wpList_append_ints rfl _ _ 22 rfl w.heap.size 2 Try.underlying22 info2 _ _ rfl HO _ _ _ _ rfl (h.alloc _) hc1 hc2 ?_; intro v' w3 hown' hgr hb2)
  go_ret
  exact ⟨v', rfl, by rw [List.nil_append] at hown'; exact hown', ((Below.refl _ _).alloc (Nat.le_refl _) _).trans hb2⟩

set_option maxHeartbeats 400000 in
theorem all_any (a g : Nat) (l : List Int) (w : World) (h : IsV 48 w a g l) :
    Calls Try.prog 16 #[.pointer (some ⟨a, 0, none⟩)] w fun e w' => ∃ v, e = .returned v ∧ OwnI w' w.heap.size 2 v l ∧ Below w.heap.size w w' := by
  have hh := h.head
  have hi := h.isI
  have hl := h.len
  clear h
  generalize hn : l.length = n at hh hi hl
  clear hn
  go_enter Try.func16, Try.ntmps16
  go_wp2_with fail
  refine (clone_some _ _ _ _ l _ hi (by omega)).mono ?_
  rintro e w' ⟨v, rfl, h1, h2⟩
  go_wp2
  go_ret
  exact ⟨v, rfl, h1, h2⟩

/-- is each no more than the other's? -/
def withinB (l m : List Int) : Bool := decide (l.length = m.length) && (List.range l.length).all fun i => decide (l.getD i 0 ≤ m.getD i 0)

theorem withinB_no (l m : List Int) (k : Nat) (hk : k < l.length) (h : m.getD k 0 < l.getD k 0) : withinB l m = false := by
  simp only [withinB, Bool.and_eq_false_iff, List.all_eq_false]
  right
  exact ⟨k, List.mem_range.2 hk, by simp only [decide_eq_true_eq]; omega⟩
theorem withinB_yes (l m : List Int) (hl : l.length = m.length) (h : ∀ j, j < l.length → l.getD j 0 ≤ m.getD j 0) : withinB l m = true := by
  simp only [withinB, Bool.and_eq_true, decide_eq_true_eq, List.all_eq_true, List.mem_range]
  exact ⟨hl, h⟩

/-- so far each is no more than the other's -/
def Ups (l m : List Int) (k : Nat) : Prop := ∀ j, j < k → l.getD j 0 ≤ m.getD j 0

set_option maxHeartbeats 400000 in
theorem within_any (a g : Nat) (l : List Int) (a2 g2 : Nat) (m : List Int) (w : World) (h : IsV 48 w a g l) (h2 : IsV 48 w a2 g2 m) :
    Calls Try.prog 14 #[.pointer (some ⟨a, 0, none⟩), .pointer (some ⟨a2, 0, none⟩)] w fun e w' => e = .returned (.bool (withinB l m)) ∧ ∃ n, w' = w.drewN n := by
  have hh := h.head
  have hh2 := h2.head
  have HA := Lib.hid (fun i hi => h.at i hi)
  have HA2 := Lib.hid (fun i hi => h2.at i hi)
  have h4 := h.len
  clear h h2
  by_cases hl : l.length = m.length
  · have HL := Lib.hid hl
    have d0 : ((l.length : Int) != (m.length : Int)) = false := by simp; omega
    rw [← hl] at hh2 d0
    generalize hn : l.length = n at hh hh2 d0 h4
    have HN := Lib.hid hn
    clear hl hn
    go_enter Try.func14, Try.ntmps14
    go_wp2_with fail
    go_quiet (fail)
    go_wp2_with fail
    go_loop [23] (fun i => ∃ k : Nat, k ≤ n ∧ i = .int .i64 k ∧ Ups l m k) (fun i => n - (intOf i).toNat)
    case atStart => exact ⟨0, Nat.zero_le _, rfl, fun j hj => by omega⟩
    case round =>
      obtain ⟨k, hk, rfl, hup⟩ := hrel
      by_cases hlt : k < n
      · have c1 := HA.out k (by rw [HN.out]; exact hlt)
        have c2 := HA2.out k (by rw [← HL.out, HN.out]; exact hlt)
        generalize h1 : l.getD k 0 = x at c1
        generalize h2 : m.getD k 0 = y at c2
        by_cases hxy : y < x
        · have hfin : withinB l m = false := withinB_no l m k (by rw [HN.out]; exact hlt) (by omega)
          have HF := Lib.hid hfin
          clear hfin h1 h2
          go_wp2
          go_ret
          exact ⟨by rw [HF.out]; rfl, _, rfl⟩
        · have hup' : Ups l m (k + 1) := by
            intro j hj
            by_cases hjk : j = k
            · subst hjk; omega
            · exact hup j (by omega)
          clear h1 h2 hup
          go_wp2
          go_round
          case rel => exact ⟨k + 1, by omega, by go_num, hup'⟩
          case measure => simp [intOf]; omega
      · have hfin : withinB l m = true := withinB_yes l m HL.out (fun j hj => hup j (by have := HN.out; omega))
        have HF := Lib.hid hfin
        clear hfin hup
        go_wp2
        go_ret
        exact ⟨by rw [HF.out]; rfl, _, rfl⟩
  · have hfin : withinB l m = false := by simp only [withinB, hl, decide_false, Bool.false_and]
    have d0 : ((l.length : Int) != (m.length : Int)) = true := by simp; omega
    rw [hfin]
    clear hfin HA HA2
    clear h4
    generalize l.length = n at hh d0
    generalize m.length = n2 at hh2 d0
    clear hl
    go_enter Try.func14, Try.ntmps14
    go_wp2_with fail
    go_quiet (fail)
    go_wp2
    go_ret
    exact ⟨rfl, _, rfl⟩

/-- the first t numbers are raised to the other's -/
def maxTo (l m : List Int) : Nat → List Int
  | 0 => l
  | t + 1 => (maxTo l m t).set t (max ((maxTo l m t).getD t 0) (m.getD t 0))
theorem maxTo_len (l m : List Int) (t : Nat) : (maxTo l m t).length = l.length := by
  induction t with
  | zero => rfl
  | succ t ih => simp [maxTo, ih]
def joinL (l m : List Int) : List Int := maxTo l m (min l.length m.length)
theorem joinL_len (l m : List Int) : (joinL l m).length = l.length := maxTo_len _ _ _
def joinAll (l : List Int) (ms : List (List Int)) : List Int := ms.foldl joinL l
theorem joinAll_len (l : List Int) (ms : List (List Int)) : (joinAll l ms).length = l.length := by
  induction ms generalizing l with
  | nil => rfl
  | cons m ms ih => exact (ih (joinL l m)).trans (joinL_len l m)
theorem joinAll_take (l : List Int) (ms : List (List Int)) (k : Nat) (h : k < ms.length) : joinAll l (ms.take (k + 1)) = joinL (joinAll l (ms.take k)) (ms.getD k []) := by
  unfold joinAll
  rw [List.take_succ_eq_append_getElem h, List.foldl_append]
  simp [h]

/-- whom one is joined with: pointers that lie in a row -/
structure Them (w : World) (b n g : Nat) (ms : List (List Int)) : Prop where
  len : ms.length = n
  far : b ≠ g
  at_ : ∀ i, i < n → ∃ a' g', w.cell? ⟨b, i, none⟩ = some (.pointer (some ⟨a', 0, none⟩)) ∧ IsV 48 w a' g' (ms.getD i []) ∧ g' ≠ g ∧ a' ≠ g
theorem Them.only {w w' : World} {b n g : Nat} {ms : List (List Int)} (h : Them w b n g ms) (ho : Only [g] w w') : Them w' b n g ms := by
  refine ⟨h.len, h.far, fun i hi => ?_⟩
  obtain ⟨a', g', h1, h2, h3, h4⟩ := h.at_ i hi
  exact ⟨a', g', ho.cell h1 (by simpa using h.far), h2.only ho (by simpa using h4) (by simpa using h3), h3, h4⟩

set_option maxHeartbeats 1000000 in
theorem join_any (a g : Nat) (l : List Int) (b n c : Nat) (ms : List (List Int)) (w : World) (h : IsV 48 w a g l) (hm : Them w b n g ms) (hn : n ≤ 10) :
    Calls Try.prog 13 #[.pointer (some ⟨a, 0, none⟩), .slice (some ⟨b, 0, none⟩) n c] w fun e w' => e = .returned (.tuple #[]) ∧ IsV 48 w' a g (joinAll l ms) ∧ Only [g] w w' := by
  have HM := Lib.hid hm
  clear hm
  go_enter Try.func13, Try.ntmps13
  go_wp2_with fail
  go_loopw [9] (fun i wr => ∃ k : Nat, k ≤ n ∧ i = .int .i64 k ∧ IsV 48 wr a g (joinAll l (ms.take k)) ∧ Only [g] w wr) (fun i _ => n - (intOf i).toNat)
  case atStart => exact ⟨0, Nat.zero_le _, rfl, h, Only.refl _ _⟩
  case round =>
    obtain ⟨k, hk, rfl, hv, ho⟩ := hrel
    by_cases hlt : k < n
    · have hjt := joinAll_take l ms k (by rw [HM.out.len]; exact hlt)
      generalize joinAll l (ms.take k) = lk at hv hjt
      have HJ := Lib.hid hjt
      have hmr := HM.out.only ho
      obtain ⟨a', g', q1, hv', hg', ha'⟩ := hmr.at_ k hlt
      have hpa := hv.head
      have hpb := hv'.head
      have HV := Lib.hid hv
      have HV' := Lib.hid hv'
      generalize hlk : lk.length = n1 at hpa
      generalize hlm : (ms.getD k []).length = n2 at hpb
      have b1 : n1 ≤ 4 := by rw [← hlk]; exact hv.len
      have b2 : n2 ≤ 4 := by rw [← hlm]; exact hv'.len
      have HL1 := Lib.hid hlk
      have HL2 := Lib.hid hlm
      clear hjt hmr hv hv' hlk hlm h
      by_cases hmin : n2 < n1
      · go_wp2_with fail
        go_quiet (fail)
        generalize hw0 : wr.drewN nq = w0
        have HW0 := Lib.hid hw0
        clear hw0
        have hpa0 : w0.cell? ⟨a, 0, none⟩ = some (.slice (some ⟨g, 0, none⟩) n1 n1) := by rw [← HW0.out]; exact hpa
        have hpb0 : w0.cell? ⟨a', 0, none⟩ = some (.slice (some ⟨g', 0, none⟩) n2 n2) := by rw [← HW0.out]; exact hpb
        replace HV : Hid (IsV 48 w0 a g lk) := by rw [← HW0.out]; exact ⟨HV.out.ptr, HV.out.row, HV.out.ne, HV.out.len⟩
        replace HV' : Hid (IsV 48 w0 a' g' (ms.getD k [])) := by rw [← HW0.out]; exact ⟨HV'.out.ptr, HV'.out.row, HV'.out.ne, HV'.out.len⟩
        clear hpa hpb q1
        go_wp2_with fail
        go_loopw [24] (fun i wi => ∃ t : Nat, t ≤ n2 ∧ i = .int .i64 t ∧ IsV 48 wi a g (maxTo lk (ms.getD k []) t) ∧ Only [g] w0 wi) (fun i _ => n2 - (intOf i).toNat)
        case atStart => exact ⟨0, Nat.zero_le _, rfl, ⟨HV.out.ptr, HV.out.row, HV.out.ne, HV.out.len⟩, Only.refl _ _⟩
        case round =>
          obtain ⟨t, ht, rfl, hvi, hoi⟩ := hrel
          by_cases hlt4 : t < n2
          · have hl1 : (maxTo lk (ms.getD k []) t).length = n1 := by rw [maxTo_len, HL1.out]
            have hvi' : IsV 48 wr a' g' (ms.getD k []) := HV'.out.only hoi (by simpa using ha') (by simpa using hg')
            have ha1 := hvi.head
            have ha2 := hvi'.head
            have hr1 := hvi.at t (by rw [hl1]; omega)
            have hr2 := hvi'.at t (by rw [HL2.out]; omega)
            have hf1 := hvi.free t
            rw [hl1] at ha1
            rw [HL2.out] at ha2
            have hset : IsV 48 (wr.setCell ⟨g, t, none⟩ (.int .i64 (max ((maxTo lk (ms.getD k []) t).getD t 0) ((ms.getD k []).getD t 0)))) a g (maxTo lk (ms.getD k []) (t + 1)) := hvi.set t _
            generalize (maxTo lk (ms.getD k []) t).getD t 0 = x at hr1 hset
            generalize (ms.getD k []).getD t 0 = y at hr2 hset
            have HS := Lib.hid hset
            clear hset hvi hvi' hl1
            by_cases hxy : x < y
            · have e1 : max x y = y := by omega
              rw [e1] at HS
              clear e1
              go_wp2_with fail
              go_region
              have HS2 : Hid (IsV 48 (wr.setCell ⟨g, t, none⟩ (.int .i64 y)).drew a g (maxTo lk (ms.getD k []) (t + 1))) := HS.out.drew
              have ho2 : Only [g] w0 (wr.setCell ⟨g, t, none⟩ (.int .i64 y)).drew := (hoi.setCell (p := ⟨g, t, none⟩) (by simp) _).drew
              generalize (wr.setCell ⟨g, t, none⟩ (.int .i64 y)).drew = w9 at HS2 ho2
              clear HS hr1 hr2 hf1 ha1 ha2
              go_wp2_with fail
              go_roundw
              case rel => exact ⟨t + 1, by omega, by go_num, HS2.out, ho2⟩
              case measure => simp [intOf]; omega
            · have e1 : max x y = x := by omega
              rw [e1] at HS
              clear e1
              go_wp2_with fail
              go_region
              have HS2 : Hid (IsV 48 (wr.setCell ⟨g, t, none⟩ (.int .i64 x)).drew a g (maxTo lk (ms.getD k []) (t + 1))) := HS.out.drew
              have ho2 : Only [g] w0 (wr.setCell ⟨g, t, none⟩ (.int .i64 x)).drew := (hoi.setCell (p := ⟨g, t, none⟩) (by simp) _).drew
              generalize (wr.setCell ⟨g, t, none⟩ (.int .i64 x)).drew = w9 at HS2 ho2
              clear HS hr1 hr2 hf1 ha1 ha2
              go_wp2_with fail
              go_roundw
              case rel => exact ⟨t + 1, by omega, by go_num, HS2.out, ho2⟩
              case measure => simp [intOf]; omega
          · obtain rfl : t = n2 := by omega
            have hj : IsV 48 wr a g (joinAll l (ms.take (k + 1))) := by
              rw [HJ.out]
              unfold joinL
              rw [HL1.out, HL2.out, show min n1 t = t from by omega]
              exact hvi
            have ho3 : Only [g] w wr := (ho.drewN nq).trans (by rw [HW0.out]; exact hoi)
            clear hvi hoi HV HV' HW0 HJ HL1 HL2 hpa0 hpb0
            go_wp2_with fail
            go_roundw
            case rel => exact ⟨k + 1, by omega, by go_num, hj, ho3⟩
            case measure => simp [intOf]; omega
      · go_wp2_with fail
        go_quiet (fail)
        generalize hw0 : wr.drewN nq = w0
        have HW0 := Lib.hid hw0
        clear hw0
        have hpa0 : w0.cell? ⟨a, 0, none⟩ = some (.slice (some ⟨g, 0, none⟩) n1 n1) := by rw [← HW0.out]; exact hpa
        have hpb0 : w0.cell? ⟨a', 0, none⟩ = some (.slice (some ⟨g', 0, none⟩) n2 n2) := by rw [← HW0.out]; exact hpb
        replace HV : Hid (IsV 48 w0 a g lk) := by rw [← HW0.out]; exact ⟨HV.out.ptr, HV.out.row, HV.out.ne, HV.out.len⟩
        replace HV' : Hid (IsV 48 w0 a' g' (ms.getD k [])) := by rw [← HW0.out]; exact ⟨HV'.out.ptr, HV'.out.row, HV'.out.ne, HV'.out.len⟩
        clear hpa hpb q1
        go_wp2_with fail
        go_loopw [24] (fun i wi => ∃ t : Nat, t ≤ n1 ∧ i = .int .i64 t ∧ IsV 48 wi a g (maxTo lk (ms.getD k []) t) ∧ Only [g] w0 wi) (fun i _ => n1 - (intOf i).toNat)
        case atStart => exact ⟨0, Nat.zero_le _, rfl, ⟨HV.out.ptr, HV.out.row, HV.out.ne, HV.out.len⟩, Only.refl _ _⟩
        case round =>
          obtain ⟨t, ht, rfl, hvi, hoi⟩ := hrel
          by_cases hlt4 : t < n1
          · have hl1 : (maxTo lk (ms.getD k []) t).length = n1 := by rw [maxTo_len, HL1.out]
            have hvi' : IsV 48 wr a' g' (ms.getD k []) := HV'.out.only hoi (by simpa using ha') (by simpa using hg')
            have ha1 := hvi.head
            have ha2 := hvi'.head
            have hr1 := hvi.at t (by rw [hl1]; omega)
            have hr2 := hvi'.at t (by rw [HL2.out]; omega)
            have hf1 := hvi.free t
            rw [hl1] at ha1
            rw [HL2.out] at ha2
            have hset : IsV 48 (wr.setCell ⟨g, t, none⟩ (.int .i64 (max ((maxTo lk (ms.getD k []) t).getD t 0) ((ms.getD k []).getD t 0)))) a g (maxTo lk (ms.getD k []) (t + 1)) := hvi.set t _
            generalize (maxTo lk (ms.getD k []) t).getD t 0 = x at hr1 hset
            generalize (ms.getD k []).getD t 0 = y at hr2 hset
            have HS := Lib.hid hset
            clear hset hvi hvi' hl1
            by_cases hxy : x < y
            · have e1 : max x y = y := by omega
              rw [e1] at HS
              clear e1
              go_wp2_with fail
              go_region
              have HS2 : Hid (IsV 48 (wr.setCell ⟨g, t, none⟩ (.int .i64 y)).drew a g (maxTo lk (ms.getD k []) (t + 1))) := HS.out.drew
              have ho2 : Only [g] w0 (wr.setCell ⟨g, t, none⟩ (.int .i64 y)).drew := (hoi.setCell (p := ⟨g, t, none⟩) (by simp) _).drew
              generalize (wr.setCell ⟨g, t, none⟩ (.int .i64 y)).drew = w9 at HS2 ho2
              clear HS hr1 hr2 hf1 ha1 ha2
              go_wp2_with fail
              go_roundw
              case rel => exact ⟨t + 1, by omega, by go_num, HS2.out, ho2⟩
              case measure => simp [intOf]; omega
            · have e1 : max x y = x := by omega
              rw [e1] at HS
              clear e1
              go_wp2_with fail
              go_region
              have HS2 : Hid (IsV 48 (wr.setCell ⟨g, t, none⟩ (.int .i64 x)).drew a g (maxTo lk (ms.getD k []) (t + 1))) := HS.out.drew
              have ho2 : Only [g] w0 (wr.setCell ⟨g, t, none⟩ (.int .i64 x)).drew := (hoi.setCell (p := ⟨g, t, none⟩) (by simp) _).drew
              generalize (wr.setCell ⟨g, t, none⟩ (.int .i64 x)).drew = w9 at HS2 ho2
              clear HS hr1 hr2 hf1 ha1 ha2
              go_wp2_with fail
              go_roundw
              case rel => exact ⟨t + 1, by omega, by go_num, HS2.out, ho2⟩
              case measure => simp [intOf]; omega
          · obtain rfl : t = n1 := by omega
            have hj : IsV 48 wr a g (joinAll l (ms.take (k + 1))) := by
              rw [HJ.out]
              unfold joinL
              rw [HL1.out, HL2.out, show min t n2 = t from by omega]
              exact hvi
            have ho3 : Only [g] w wr := (ho.drewN nq).trans (by rw [HW0.out]; exact hoi)
            clear hvi hoi HV HV' HW0 HJ HL1 HL2 hpa0 hpb0
            go_wp2_with fail
            go_roundw
            case rel => exact ⟨k + 1, by omega, by go_num, hj, ho3⟩
            case measure => simp [intOf]; omega
    · obtain rfl : k = n := by omega
      rw [List.take_of_length_le (by rw [HM.out.len]; exact Nat.le_refl _)] at hv
      clear h
      go_wp2_with fail
      go_end0
      exact ⟨rfl, hv, ho⟩

end Go.Proofs.Yteiaejehdjekmaa
