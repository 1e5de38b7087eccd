/-
  What the proof of the law leans on: contracts of the program's functions, one behind another. No condition.
-/
import Derived.Deep.OwnRows
import Derived.Test.YtnicaicjgaoolaaS15
import Derived.Test.YtnicaicjgaoolaaS3
set_option linter.unusedVariables false
set_option linter.unusedSimpArgs false
namespace Go.Proofs.Ytnicaicjgaoolaa
open Go.RowKit Go.ChangeMaps Go.WideMaps Go.Maps
set_option maxRecDepth 20000
section
variable (p : String)
def z08x0 : Oper := ⟨some 7, .move (.tmp 0), 39, p, #[], none⟩
def z08x1 : Oper := ⟨some 8, .nilCheck (.tmp 7), 0, p, #[⟨0, .data⟩], none⟩
def z08x2 : Oper := ⟨some 9, .fieldAddr 66 (.tmp 8) 8, 0, p, #[⟨1, .data⟩], none⟩
def z08x3 : Oper := ⟨some 10, .load 62 (.tmp 9), 62, p, #[⟨2, .data⟩], none⟩
def z08x4 : Oper := ⟨some 11, .call { callee := Callee.builtin Builtin.len, args := #[.tmp 10], argTypes := #[62] }, 3, p, #[⟨3, .data⟩], none⟩
def z08x5 : Oper := ⟨some 12, .move (.tmp 0), 39, p, #[], none⟩
def z08x6 : Oper := ⟨some 13, .move (.tmp 0), 39, p, #[], none⟩
def z08x7 : Oper := ⟨some 14, .nilCheck (.tmp 13), 0, p, #[⟨6, .data⟩], none⟩
def z08x8 : Oper := ⟨some 15, .fieldAddr 66 (.tmp 14) 8, 0, p, #[⟨7, .data⟩], none⟩
def z08x9 : Oper := ⟨some 16, .load 62 (.tmp 15), 62, p, #[⟨8, .data⟩], none⟩
def z08x10 : Oper := ⟨some 17, .call { callee := Callee.builtin Builtin.len, args := #[.tmp 16], argTypes := #[62] }, 3, p, #[⟨9, .data⟩], none⟩
def z08x11 : Oper := ⟨some 18, .call { callee := Callee.value (Operand.func 45), args := #[.tmp 12, .tmp 17], argTypes := #[39, 3] }, 2, p, #[⟨5, .data⟩, ⟨10, .data⟩], none⟩
def z08x12 : Oper := ⟨some 3, .assign (.tmp 11), 2, p, #[⟨4, .data⟩, ⟨11, .chain⟩, ⟨0, .phase⟩, ⟨1, .phase⟩, ⟨2, .phase⟩, ⟨3, .phase⟩, ⟨4, .phase⟩, ⟨5, .textOnly Departure.lateStores⟩, ⟨6, .textOnly Departure.lateStores⟩, ⟨7, .textOnly Departure.lateStores⟩, ⟨8, .textOnly Departure.lateStores⟩, ⟨9, .textOnly Departure.lateStores⟩, ⟨10, .textOnly Departure.lateStoresUnsure⟩, ⟨11, .textOnly Departure.lateStoresUnsure⟩], none⟩
def z08x13 : Oper := ⟨some 4, .assign (.tmp 18), 2, p, #[⟨11, .data⟩, ⟨12, .chain⟩, ⟨0, .phase⟩, ⟨1, .phase⟩, ⟨2, .phase⟩, ⟨3, .phase⟩, ⟨4, .phase⟩, ⟨5, .phase⟩, ⟨6, .phase⟩, ⟨7, .phase⟩, ⟨8, .phase⟩, ⟨9, .phase⟩, ⟨10, .phase⟩, ⟨11, .phase⟩, ⟨12, .phase⟩], none⟩
end
attribute [go_sem, reducible] z08x0 z08x1 z08x2 z08x3 z08x4 z08x5 z08x6 z08x7 z08x8 z08x9 z08x10 z08x11 z08x12 z08x13
theorem heardA_at (l : List (Int × Int × Int)) (i c : Nat) (hi : i < l.length) (hc : c < 3) : (heardA l)[i * 3 + c]? = (rivA (l.getD i (0, 0, 0)))[c]? := by
 have key : ∀ (l : List (Int × Int × Int)) (i : Nat), i < l.length → (l.flatMap rivA)[i * 3 + c]? = (rivA (l.getD i (0, 0, 0)))[c]? := by
  intro l
  induction l with
  | nil => intro i hi; simp at hi
  | cons x l ih =>
   intro i hi
   cases i with
   | zero =>
    rw [List.flatMap_cons, List.getElem?_append_left (by simp [rivA]; omega)]
    simp
   | succ i =>
    rw [List.flatMap_cons, List.getElem?_append_right (by simp [rivA]; omega)]
    have := ih i (by simpa using hi)
    rw [show (i + 1) * 3 + c - (rivA x).length = i * 3 + c by simp [rivA]; omega, this]
    simp
 unfold heardA
 rw [List.getElem?_toArray]
 exact key l i hi
section
variable {w w' : World} {A A' X X' : List Nat} {r d l : Nat} {s s' : Rp} {k k' : Dk}
set_option maxHeartbeats 4000000 in
theorem best_any (h : Nd w A X r d l s k) (hw : Wf s k) (hck : s.clock ≤ 1000000) : Calls Try.prog 41 #[.pointer (some ⟨r, 0, none⟩)] w fun e w' => e = .returned (.bool (bestM s)) ∧ Below w.heap.size w w' := by
 obtain ⟨al, cl, hc8, hl1, hl2⟩ := h.loglen
 have hlb := hw.logb
 have HLT := Lib.hid (fun q => lastTerm_any (h.below (below_drewN w q)) s.log.length (Nat.le_refl _) (by omega))
 obtain ⟨D, L, R, vl, gv, gn, gm, gh, h, hX⟩ := h
 have hc0 : w.cell? ⟨r, 0, none⟩ = some (.int .i64 (s.own : Int)) := by rw [cell_heap h.cell]; rfl
 have hc16 : w.cell? ⟨r, 16, none⟩ = some (.int .i64 (s.clock : Int)) := by rw [cell_heap h.cell]; rfl
 have hc17 : w.cell? ⟨r, 17, none⟩ = some (.slice (some ⟨gh, 0, none⟩) s.n s.n) := by rw [cell_heap h.cell]; rfl
 have hhl := hw.hl
 have HH : Hid (∀ i, i < s.n → w.cell? ⟨gh, i * 3, none⟩ = some (.int .i64 (s.heard.getD i (0, 0, 0)).1) ∧ w.cell? ⟨gh, i * 3 + 1, none⟩ = some (.int .i64 (s.heard.getD i (0, 0, 0)).2.1) ∧ w.cell? ⟨gh, i * 3 + 2, none⟩ = some (.int .i64 (s.heard.getD i (0, 0, 0)).2.2)) := Lib.hid (fun i hi => ⟨by
  rw [cell_heap h.heard]; exact heardA_at s.heard i 0 (by omega) (by omega), by
  rw [cell_heap h.heard]; exact heardA_at s.heard i 1 (by omega) (by omega), by
  rw [cell_heap h.heard]; exact heardA_at s.heard i 2 (by omega) (by omega)⟩)
 have HR : Hid (∀ i, i < s.n → 0 ≤ (s.heard.getD i (0, 0, 0)).1 ∧ (s.heard.getD i (0, 0, 0)).1 ≤ (s.clock : Int)) := Lib.hid (fun i hi => by
  have e : s.heard.getD i (0, 0, 0) = s.heard[i]'(by omega) := by simp [List.getD, show i < s.heard.length by omega]
  rw [e]
  exact hw.hrd _ (List.getElem_mem _))
 have HYES : Hid ((∀ i, i < s.n → better s i (s.heard.getD i (0, 0, 0)) = false) → bestM s = true) := Lib.hid (fun hh => by
  unfold bestM
  rw [List.all_eq_true]
  intro i hi
  rw [hh i (by have := List.mem_range.1 hi; omega)]; rfl)
 have HNO1 : Hid (∀ i, i < s.n → better s i (s.heard.getD i (0, 0, 0)) = true → bestM s = false) := Lib.hid (fun i hi hb => by
  unfold bestM
  rw [List.all_eq_false]
  exact ⟨i, List.mem_range.2 (by omega), by rw [hb]; simp⟩)
 have HBT : Hid (∀ i x, better s i x = (!(x.1 == 0 || decide (4 < (s.clock : Int) - x.1)) && (decide (lastTermM s.log s.log.length < x.2.2) || (x.2.2 == lastTermM s.log s.log.length && (decide ((s.log.length : Int) < x.2.1) || (x.2.1 == (s.log.length : Int) && decide (i < s.own))))))) := Lib.hid (fun i x => rfl)
 have hn5 := hw.n5
 clear h hX hw hhl
 generalize bestM s = bm at *
 generalize better s = bt at *
 generalize lastTermM s.log s.log.length = lt at *
 generalize s.log.length = sl at *
 generalize s.n = n at *
 generalize s.own = ow at *
 generalize s.clock = ck at *
 generalize s.heard = hd at *
 go_enter Try.func41, Try.ntmps41
 go_upto_region 1 with (fail)
 refine wp_region_held_drew (S := fun w' => w'.cell? ⟨r, 8, none⟩ = some (.slice al sl cl)) (by kernel_rfl) hc8 (fun hHeld => ?_)
 refine qtl 0 (z08x0 _) rfl ?_
 refine qtl 1 (z08x1 _) rfl ?_
 refine qtl 2 (z08x2 _) rfl ?_
 refine qtl 3 (z08x3 _) rfl ?_
 refine qtl 4 (z08x4 _) rfl ?_
 refine qtl 5 (z08x5 _) rfl ?_
 refine qtl 6 (z08x6 _) rfl ?_
 refine qtl 7 (z08x7 _) rfl ?_
 refine qtl 8 (z08x8 _) rfl ?_
 refine qtl 9 (z08x9 _) rfl ?_
 refine qtl 10 (z08x10 _) rfl ?_
 refine qr1 11 (z08x11 _) rfl fun K hK => ?_
 unfold z08x11
 go_simp
 refine (HLT.out _).mono ?_
 rintro e wa ⟨rfl, rfl⟩
 go_wp2_with fail
 refine hK.out _ _ hHeld (fun hHeld => ?_)
 clear hK K
 refine qsp ?_
 refine qtl 12 (z08x12 _) rfl ?_
 refine qtl 13 (z08x13 _) rfl ?_
 refine qdn ?_
 clear hHeld
 go_wp2_with fail
 go_loopw [24] (fun i wr => ∃ j : Nat, j ≤ n ∧ i = .int .i64 (j : Int) ∧ (∀ i, i < j → bt i (hd.getD i (0, 0, 0)) = false) ∧ Below w.heap.size w wr) (fun i _ => n - (intOf i).toNat)
 case atStart => exact ⟨0, Nat.zero_le _, rfl, (fun i hi => by omega), below_drewN _ 1⟩
 case round =>
  obtain ⟨j, hj, rfl, hpr, hb⟩ := hrel
  have HPR := Lib.hid hpr
  have HB := Lib.hid hb
  clear hpr hb
  by_cases hlt2 : j < n
  ·obtain ⟨hu0, hu1, hu2⟩ := HH.out j hlt2
   obtain ⟨hr0, hr1⟩ := HR.out j hlt2
   have HBE := Lib.hid (HBT.out j (hd.getD j (0, 0, 0)))
   have HNO := Lib.hid (HNO1.out j hlt2)
   generalize hx : hd.getD j (0, 0, 0) = x at *
   obtain ⟨at_, mn, tm⟩ := x
   simp only at hu0 hu1 hu2 hr0 hr1 HBE
   have HBE : Hid (bt j (at_, mn, tm) = (!(at_ == 0 || decide (4 < (ck : Int) - at_)) && (decide (lt < tm) || (tm == lt && (decide ((sl : Int) < mn) || (mn == (sl : Int) && decide ((j : Int) < (ow : Int)))))))) := Lib.hid (by
    have e9 : decide ((j : Int) < (ow : Int)) = decide (j < ow) := decide_eq_decide.2 ⟨fun h => by omega, fun h => by omega⟩
    rw [HBE.out, e9])
   have hu0 := cell_later HB.out hu0
   have hu1 := cell_later HB.out hu1
   have hu2 := cell_later HB.out hu2
   have hbA : Below wr.heap.size wr (wr.alloc (.cells #[.int .i64 at_, .int .i64 mn, .int .i64 tm] 76)) := (Below.refl _ _).alloc (Nat.le_refl _) _
   have hy16 := cell_later hbA (cell_later HB.out hc16)
   have hy0 := cell_later hbA (cell_later HB.out hc0)
   have hz0 : (wr.alloc (.cells #[.int .i64 at_, .int .i64 mn, .int .i64 tm] 76)).cell? ⟨wr.heap.size, 0, none⟩ = some (.int .i64 at_) := by rw [cell_heap (heap_new _ _)]; rfl
   have hz1 : (wr.alloc (.cells #[.int .i64 at_, .int .i64 mn, .int .i64 tm] 76)).cell? ⟨wr.heap.size, 1, none⟩ = some (.int .i64 mn) := by rw [cell_heap (heap_new _ _)]; rfl
   have hz2 : (wr.alloc (.cells #[.int .i64 at_, .int .i64 mn, .int .i64 tm] 76)).cell? ⟨wr.heap.size, 2, none⟩ = some (.int .i64 tm) := by rw [cell_heap (heap_new _ _)]; rfl
   have HB2 : Hid (∀ q, Below w.heap.size w ((wr.alloc (.cells #[.int .i64 at_, .int .i64 mn, .int .i64 tm] 76)).drewN q)) := Lib.hid (fun q => (HB.out.trans (hbA.mono HB.out.size)).trans ((below_drewN _ q).mono (HB.out.trans (hbA.mono HB.out.size)).size))
   have q1 : IntKind.i64.wrap ((ck : Int) - at_) = (ck : Int) - at_ := IntWalk.i64_in _ (by omega)
   have q2 : IntKind.i64.wrap ((j : Int) + 1) = (j : Int) + 1 := IntWalk.i64_in _ (by omega)
   have q3 : (j : Int) < (n : Int) := by omega
   have HX := Lib.hid hx
   clear hr0 hr1 hbA hc0 hc16 hc17 hlt2 hx
   cases a1 : at_ == 0 with
   | true =>
    go_upto_region 5 with (fail)
    generalize wr.alloc (.cells #[.int .i64 at_, .int .i64 mn, .int .i64 tm] 76) = W2 at *
    go_quiet (fail)
    go_wp2_with fail
    go_roundw
    case rel => exact ⟨j + 1, by omega, rfl, fun i hi => (by
     by_cases hij : i = j
     ·rw [hij, HX.out, HBE.out]; simp [*]
     ·exact HPR.out i (by omega)), HB2.out _⟩
    case measure => simp [intOf]; omega
   | false =>
    cases a2 : decide (4 < (ck : Int) - at_) with
    | true =>
     go_upto_region 5 with (fail)
     generalize wr.alloc (.cells #[.int .i64 at_, .int .i64 mn, .int .i64 tm] 76) = W2 at *
     go_quiet (fail)
     go_wp2_with fail
     go_roundw
     case rel => exact ⟨j + 1, by omega, rfl, fun i hi => (by
      by_cases hij : i = j
      ·rw [hij, HX.out, HBE.out]; simp [*]
      ·exact HPR.out i (by omega)), HB2.out _⟩
     case measure => simp [intOf]; omega
    | false =>
     cases t1 : decide (lt < tm) with
     | true =>
      go_upto_region 5 with (fail)
      generalize wr.alloc (.cells #[.int .i64 at_, .int .i64 mn, .int .i64 tm] 76) = W2 at *
      go_quiet (fail)
      go_wp2_with fail
      go_ret
      exact ⟨by rw [HNO.out (by rw [HBE.out]; simp [*])]; rfl, HB2.out _⟩
     | false =>
      cases t2 : tm == lt with
      | true =>
       cases m1 : decide ((sl : Int) < mn) with
       | true =>
        go_upto_region 5 with (fail)
        generalize wr.alloc (.cells #[.int .i64 at_, .int .i64 mn, .int .i64 tm] 76) = W2 at *
        go_quiet (fail)
        go_wp2_with fail
        go_ret
        exact ⟨by rw [HNO.out (by rw [HBE.out]; simp [*])]; rfl, HB2.out _⟩
       | false =>
        cases m2 : mn == (sl : Int) with
        | true =>
         cases o1 : decide (j < ow) with
         | true =>
          go_upto_region 5 with (fail)
          generalize wr.alloc (.cells #[.int .i64 at_, .int .i64 mn, .int .i64 tm] 76) = W2 at *
          go_quiet (fail)
          go_wp2_with fail
          go_ret
          exact ⟨by rw [HNO.out (by rw [HBE.out]; simp [*])]; rfl, HB2.out _⟩
         | false =>
          go_upto_region 5 with (fail)
          generalize wr.alloc (.cells #[.int .i64 at_, .int .i64 mn, .int .i64 tm] 76) = W2 at *
          go_quiet (fail)
          go_wp2_with fail
          go_roundw
          case rel => exact ⟨j + 1, by omega, rfl, fun i hi => (by
           by_cases hij : i = j
           ·rw [hij, HX.out, HBE.out]; simp [*]
           ·exact HPR.out i (by omega)), HB2.out _⟩
          case measure => simp [intOf]; omega
        | false =>
         go_upto_region 5 with (fail)
         generalize wr.alloc (.cells #[.int .i64 at_, .int .i64 mn, .int .i64 tm] 76) = W2 at *
         go_quiet (fail)
         go_wp2_with fail
         go_roundw
         case rel => exact ⟨j + 1, by omega, rfl, fun i hi => (by
          by_cases hij : i = j
          ·rw [hij, HX.out, HBE.out]; simp [*]
          ·exact HPR.out i (by omega)), HB2.out _⟩
         case measure => simp [intOf]; omega
      | false =>
       go_upto_region 5 with (fail)
       generalize wr.alloc (.cells #[.int .i64 at_, .int .i64 mn, .int .i64 tm] 76) = W2 at *
       go_quiet (fail)
       go_wp2_with fail
       go_roundw
       case rel => exact ⟨j + 1, by omega, rfl, fun i hi => (by
        by_cases hij : i = j
        ·rw [hij, HX.out, HBE.out]; simp [*]
        ·exact HPR.out i (by omega)), HB2.out _⟩
       case measure => simp [intOf]; omega
  ·obtain rfl : j = n := by omega
   go_wp2_with fail
   go_ret
   exact ⟨by rw [HYES.out HPR.out]; rfl, HB.out⟩
end
end Go.Proofs.Ytnicaicjgaoolaa
namespace Go.Proofs.Ytnicaicjgaoolaa
open Go.RowKit Go.ChangeMaps Go.WideMaps Go.Maps
set_option maxRecDepth 20000
section
variable (p : String)
def z09x0 : Oper := ⟨some 3, .load 39 (.tmp 1), 39, p, #[], none⟩
def z09x1 : Oper := ⟨some 4, .nilCheck (.tmp 3), 0, p, #[⟨0, .data⟩], none⟩
def z09x2 : Oper := ⟨some 5, .fieldAddr 66 (.tmp 4) 6, 0, p, #[⟨1, .data⟩], none⟩
def z09x3 : Oper := ⟨some 6, .load 2 (.tmp 5), 2, p, #[⟨2, .data⟩], none⟩
def z09x4 : Oper := ⟨some 7, .binOp BinOp.geq 2 (.tmp 6) (Operand.const (Value.int IntKind.i64 1099511627776)) 2, 4, p, #[⟨3, .data⟩], none⟩
def z09x5 : Oper := ⟨some 8, .move (.tmp 7), 4, p, #[⟨4, .data⟩], none⟩
def z09x6 : Oper := ⟨some 9, .load 39 (.tmp 1), 39, p, #[⟨5, .guard⟩], some (5, false)⟩
def z09x7 : Oper := ⟨some 10, .load 39 (.tmp 1), 39, p, #[⟨5, .guard⟩], some (5, false)⟩
def z09x8 : Oper := ⟨some 11, .nilCheck (.tmp 10), 0, p, #[⟨7, .data⟩, ⟨5, .guard⟩], some (5, false)⟩
def z09x9 : Oper := ⟨some 12, .fieldAddr 66 (.tmp 11) 6, 0, p, #[⟨8, .data⟩, ⟨5, .guard⟩], some (5, false)⟩
def z09x10 : Oper := ⟨some 13, .load 2 (.tmp 12), 2, p, #[⟨9, .data⟩, ⟨5, .guard⟩], some (5, false)⟩
def z09x11 : Oper := ⟨some 14, .binOp BinOp.add 2 (.tmp 13) (Operand.const (Value.int IntKind.i64 1)) 2, 2, p, #[⟨10, .data⟩, ⟨5, .guard⟩], some (5, false)⟩
def z09x12 : Oper := ⟨some 15, .load 39 (.tmp 1), 39, p, #[⟨5, .guard⟩], some (5, false)⟩
def z09x13 : Oper := ⟨some 16, .nilCheck (.tmp 15), 0, p, #[⟨12, .data⟩, ⟨5, .guard⟩], some (5, false)⟩
def z09x14 : Oper := ⟨some 17, .fieldAddr 66 (.tmp 16) 0, 0, p, #[⟨13, .data⟩, ⟨5, .guard⟩], some (5, false)⟩
def z09x15 : Oper := ⟨some 18, .load 3 (.tmp 17), 3, p, #[⟨14, .data⟩, ⟨5, .guard⟩], some (5, false)⟩
def z09x16 : Oper := ⟨some 19, .call { callee := Callee.value (Operand.func 34), args := #[.tmp 9, .tmp 14, .tmp 18], argTypes := #[39, 2, 3] }, 4, p, #[⟨6, .data⟩, ⟨11, .data⟩, ⟨15, .data⟩, ⟨5, .chain⟩, ⟨5, .guard⟩], some (5, false)⟩
def z09x17 : Oper := ⟨some 20, .unOp UnOp.not 4 (.tmp 19), 4, p, #[⟨16, .data⟩, ⟨5, .guard⟩], some (5, false)⟩
def z09x18 : Oper := ⟨some 21, .pick (.tmp 8) (Operand.const (Value.bool true)) (.tmp 20), 4, p, #[⟨5, .data⟩, ⟨17, .data⟩], none⟩
def z09x19 : Oper := ⟨some 25, .load 39 (.tmp 1), 39, p, #[], none⟩
def z09x20 : Oper := ⟨some 26, .load 39 (.tmp 1), 39, p, #[], none⟩
def z09x21 : Oper := ⟨some 27, .nilCheck (.tmp 26), 0, p, #[⟨1, .data⟩], none⟩
def z09x22 : Oper := ⟨some 28, .fieldAddr 66 (.tmp 27) 1, 0, p, #[⟨2, .data⟩], none⟩
def z09x23 : Oper := ⟨some 29, .load 3 (.tmp 28), 3, p, #[⟨3, .data⟩], none⟩
def z09x24 : Oper := ⟨some 30, .makeSlice 34 (.tmp 29) (.tmp 29), 34, p, #[⟨4, .data⟩, ⟨4, .data⟩], none⟩
def z09x25 : Oper := ⟨some 31, .nilCheck (.tmp 25), 0, p, #[⟨0, .data⟩, ⟨0, .phase⟩, ⟨1, .phase⟩, ⟨2, .phase⟩, ⟨3, .phase⟩, ⟨4, .phase⟩, ⟨5, .phase⟩], none⟩
def z09x26 : Oper := ⟨some 32, .fieldAddr 66 (.tmp 31) 12, 0, p, #[⟨6, .data⟩, ⟨0, .phase⟩, ⟨1, .phase⟩, ⟨2, .phase⟩, ⟨3, .phase⟩, ⟨4, .phase⟩, ⟨5, .phase⟩], none⟩
def z09x27 : Oper := ⟨none, .store 34 (.tmp 32) (.tmp 30), 0, p, #[⟨7, .data⟩, ⟨5, .data⟩, ⟨0, .phase⟩, ⟨1, .phase⟩, ⟨2, .phase⟩, ⟨3, .phase⟩, ⟨4, .phase⟩, ⟨5, .phase⟩], none⟩
def z09x28 : Oper := ⟨some 33, .load 39 (.tmp 1), 39, p, #[], none⟩
def z09x29 : Oper := ⟨some 34, .nilCheck (.tmp 33), 0, p, #[⟨0, .data⟩], none⟩
def z09x30 : Oper := ⟨some 35, .fieldAddr 66 (.tmp 34) 12, 0, p, #[⟨1, .data⟩], none⟩
def z09x31 : Oper := ⟨some 36, .load 34 (.tmp 35), 34, p, #[⟨2, .data⟩], none⟩
def z09x32 : Oper := ⟨some 37, .load 39 (.tmp 1), 39, p, #[], none⟩
def z09x33 : Oper := ⟨some 38, .nilCheck (.tmp 37), 0, p, #[⟨4, .data⟩], none⟩
def z09x34 : Oper := ⟨some 39, .fieldAddr 66 (.tmp 38) 0, 0, p, #[⟨5, .data⟩], none⟩
def z09x35 : Oper := ⟨some 40, .load 3 (.tmp 39), 3, p, #[⟨6, .data⟩], none⟩
def z09x36 : Oper := ⟨some 41, .indexAddr 34 (.tmp 36) (.tmp 40), 0, p, #[⟨3, .data⟩, ⟨7, .data⟩, ⟨0, .phase⟩, ⟨1, .phase⟩, ⟨2, .phase⟩, ⟨3, .phase⟩, ⟨4, .phase⟩, ⟨5, .phase⟩, ⟨6, .phase⟩, ⟨7, .phase⟩], none⟩
def z09x37 : Oper := ⟨none, .store 4 (.tmp 41) (Operand.const (Value.bool true)), 0, p, #[⟨8, .data⟩, ⟨0, .phase⟩, ⟨1, .phase⟩, ⟨2, .phase⟩, ⟨3, .phase⟩, ⟨4, .phase⟩, ⟨5, .phase⟩, ⟨6, .phase⟩, ⟨7, .phase⟩], none⟩
end
attribute [go_sem, reducible] z09x0 z09x1 z09x2 z09x3 z09x4 z09x5 z09x6 z09x7 z09x8 z09x9 z09x10 z09x11 z09x12 z09x13 z09x14 z09x15 z09x16 z09x17 z09x18 z09x19 z09x20 z09x21 z09x22 z09x23 z09x24 z09x25 z09x26 z09x27 z09x28 z09x29 z09x30 z09x31 z09x32 z09x33 z09x34 z09x35 z09x36 z09x37
theorem z09xm0 {p : Prop} (h : p := by
 refine qr1 16 (z09x16 _) rfl fun K hK => ?_
 unfold z09x16
 go_simp
 refine (HEN.out _ (below_drewN _ 1)).mono ?_
 rintro e w2 ⟨rfl, hn2⟩
 have HN2 := Lib.hid hn2
 have hk2 := HKP.out w2 hn2
 clear hn2
 go_wp2_with fail
 refine hK.out _ _ hk2 (fun hHeld => ?_)
 clear hK K
 refine qsp ?_
 refine qtl 17 (z09x17 _) rfl ?_
 refine qtl 18 (z09x18 _) rfl ?_
 refine qdn ?_
 clear hHeld
 go_wp2_with fail
 go_ret
 rw [HE.out]
 exact MsP.none (NdP.trans HM0.out HN2.out)) : p := h
theorem z09xm1 {p : Prop} (h : p := by
 refine qr1 16 (z09x16 _) rfl fun K hK => ?_
 unfold z09x16
 go_simp
 refine (HEN.out _ (below_drewN _ 1)).mono ?_
 rintro e w2 ⟨rfl, hn2⟩
 have HN2 := Lib.hid hn2
 have hk2 := HKP.out w2 hn2
 clear hn2
 go_wp2_with fail
 refine hK.out _ _ hk2 (fun hHeld => ?_)
 clear hK K
 refine qsp ?_
 refine qtl 17 (z09x17 _) rfl ?_
 refine qtl 18 (z09x18 _) rfl ?_
 refine qdn ?_
 clear hHeld
 go_wp2_with fail
 go_meet
 exact ⟨rfl, HN2.out, hk2⟩) : p := h
theorem info4 : (Try.prog.info? 4).map (fun i => (i.zero, i.size, i.bytes)) = some (some (.bool false), 1, 1) := by kernel_rfl
theorem make_bools (n : Nat) (hn : n ≤ 5) (w : World) : (Instr.makeSlice 34 (.int .i64 (n : Int)) (.int .i64 (n : Int))).run Try.prog w = .ok (.slice (some ⟨w.heap.size, 0, none⟩) n n) (w.alloc (.cells (boolsA (List.replicate n false)) 4)) := by
 have h := run_make_row' (P := Try.prog) 34 4 (.bool false) 1 Try.underlying34 info4 rfl .i64 .i64 n (by omega) (by omega) w
 rw [h]
 have e : madeCells #[Value.bool false] n = boolsA (List.replicate n false) := by
  apply Array.ext'
  rw [toList_madeCells_one]
  simp [boolsA]
 rw [e]
section
variable {w w' : World} {A A' X X' : List Nat} {r d l : Nat} {s s' : Rp} {k k' : Dk}
theorem Nd.new_votes (h : Nd w A X r d l s k) (bs : List Bool) : NdP w ((w.alloc (.cells (boolsA bs) 4)).setCell ⟨r, 12, none⟩ (rowV w.heap.size s.n)) A X r d l { s with votes := bs } k := by
 have hrX := h.rX
 obtain ⟨D, L, R, vl, gv, gn, gm, gh, h, hX⟩ := h
 have hb : Below w.heap.size w (w.alloc (.cells (boolsA bs) 4)) := (Below.refl _ _).alloc (Nat.le_refl _) _
 have h1 := h.below hb
 have hnew := heap_new w (.cells (boolsA bs) 4)
 generalize w.alloc (.cells (boolsA bs) 4) = w1 at *
 have ho : Only [r] w1 (w1.setCell ⟨r, 12, none⟩ (rowV w.heap.size s.n)) := (Only.refl _ _).setCell (by simp) _
 have hS : ∀ b ∈ [r], b ∈ R := fun b hb => by rw [List.mem_singleton.1 hb]; exact h.rR
 have he : Ext A (A ++ [w.heap.size]) w := fun b hb => by
  rcases List.mem_append.1 hb with hb | hb
  ·exact .inl hb
  ·exact .inr (by rw [List.mem_singleton.1 hb]; exact Nat.le_refl _)
 have hrA : ∀ b ∈ [r], b ∈ A := fun b hb => h.rA b (hS b hb)
 have oo : Only [r] w (w1.setCell ⟨r, 12, none⟩ (rowV w.heap.size s.n)) := (Only.ofBelow hb _).trans ho
 have hlt : ∀ b ∈ A, b < w.heap.size := h.wd.alt
 refine ⟨A ++ [w.heap.size], w.heap.size :: X, ⟨D, L, w.heap.size :: R, vl, w.heap.size, gn, gm, gh, ⟨⟨h.wd.wl.keep oo (h.disL hS) hrA he, h.wd.dk.keep oo (h.disD hS), h.wd.dis, fun b hb => List.mem_append_left _ (h.wd.dA b hb), fun b hb => List.mem_append_left _ (h.wd.lA b hb), fun b hb2 => ?_⟩, by rw [heap_set h1.cell]; rfl, h.log.step oo hrA he, ho.keeps hnew (by simpa using heap_ne hnew h1.cell (by decide)), ho.keeps h1.next (by simpa using heap_ne h1.next h1.cell (by decide)), ho.keeps h1.mat (by simpa using heap_ne h1.mat h1.cell (by decide)), ho.keeps h1.heard (by simpa using heap_ne h1.heard h1.cell (by decide)), h.nm, by simp [h.rR], by simp, by simp [h.nR], by simp [h.mR], by simp [h.hR], fun b hb hd => ?_, fun b hb hd => ?_, fun b hb => ?_⟩, fun b => ?_⟩, ⟨⟨oo.mono (by simpa using hrX), fun b hb => ?_, fun b hb => List.mem_cons_of_mem _ hb⟩, he, fun b hb => List.mem_append_left _ hb⟩⟩
 ·have hsz := oo.size
  rcases List.mem_append.1 hb2 with h3 | h3
  ·have := hlt b h3; omega
  ·have := lt_of_heap (ho.keeps hnew (by simpa using heap_ne hnew h1.cell (by decide))); rw [List.mem_singleton.1 h3]; exact this
 ·rcases List.mem_cons.1 hb with rfl | hb
  ·have := h.wd.dk.lt _ hd; omega
  ·exact h.dRD b hb hd
 ·rcases List.mem_cons.1 hb with rfl | hb
  ·have := h.wd.wl.lt _ hd; omega
  ·exact h.dRL b hb hd
 ·rcases List.mem_cons.1 hb with rfl | hb
  ·simp
  ·exact List.mem_append_left _ (h.rA b hb)
 ·simp only [List.mem_cons, hX b]
  constructor
  ·rintro (h3 | h3 | h3 | h3)
   ·exact .inr (.inr (.inl h3))
   ·exact .inl h3
   ·exact .inr (.inl h3)
   ·exact .inr (.inr (.inr h3))
  ·rintro (h3 | h3 | h3 | h3)
   ·exact .inr (.inl h3)
   ·exact .inr (.inr (.inl h3))
   ·exact .inl h3
   ·exact .inr (.inr (.inr h3))
 ·rcases List.mem_cons.1 hb with rfl | hb
  ·exact .inr (Nat.le_refl _)
  ·exact .inl hb
theorem enter_same (term who : Int) : (enterM s k term who).2.1.n = s.n ∧ (enterM s k term who).2.1.own = s.own ∧ (enterM s k term who).2.1.log = s.log ∧ (enterM s k term who).2.1.clock = s.clock ∧ (enterM s k term who).2.1.votes = s.votes := by
 have h1 := write_same (s := s) (k := k) (noteT term who)
 unfold enterM
 generalize writeM s k (noteT term who) = p at *
 simp only
 split
 ·rw [h1]; exact ⟨rfl, rfl, rfl, rfl, rfl⟩
 ·have h2 := sync_same (s := p.1) (k := p.2)
  generalize syncM p.1 p.2 = q at *
  split
  ·rw [h2, h1]; exact ⟨rfl, rfl, rfl, rfl, rfl⟩
  ·simp only
   rw [h2, h1]; exact ⟨rfl, rfl, rfl, rfl, rfl⟩
theorem Nd.new_votes' (h : Nd w A X r d l s k) (bs : List Bool) (n : Nat) (hn : s.n = n) (W : World) (hW : W = (w.alloc (.cells (boolsA bs) 4)).setCell ⟨r, 12, none⟩ (.slice (some ⟨w.heap.size, 0, none⟩) n n)) : NdP w W A X r d l { s with votes := bs } k := by
 subst hn hW
 exact h.new_votes bs
set_option maxHeartbeats 4000000 in
theorem stand_any (h : Nd w A X r d l s k) (hw : Wf s k) : Calls Try.prog 42 #[.pointer (some ⟨r, 0, none⟩)] w fun e w' => MsP w w' A X r d l e (standM s k) := by
 have hbw : Below w.heap.size w (w.alloc (.cells #[.pointer (some ⟨r, 0, none⟩)] 39)) := (Below.refl _ _).alloc (Nat.le_refl _) _
 have hbx := heap_new w (.cells #[.pointer (some ⟨r, 0, none⟩)] 39)
 have h1 := h.below hbw
 have hXlt : ∀ b ∈ X, b < w.heap.size := fun b hb => h.alt b (h.xA b hb)
 have HM0 : Hid (Mv A A X X w (w.alloc (.cells #[.pointer (some ⟨r, 0, none⟩)] 39))) := Lib.hid (Mv.below hbw)
 have hP0 : (w.alloc (.cells #[.pointer (some ⟨r, 0, none⟩)] 39)).cell? ⟨w.heap.size, 0, none⟩ = some (.pointer (some ⟨r, 0, none⟩)) := by rw [cell_heap hbx]; rfl
 have HE : Hid (standM s k = (if 1099511627776 ≤ s.term then ([], s, k) else
  let p := enterM s k (s.term + 1) (s.own : Int)
  if p.1 then
   let s1 : Rp := { p.2.1 with ticks := 0, votes := (List.replicate s.n false).set s.own true }
   if chosenM s1 then leadM s1 p.2.2 else (othersM s1 (telling s1 1), s1, p.2.2)
  else ([], p.2))) := Lib.hid rfl
 obtain ⟨vl, gv, gn, gm, gh, hcell⟩ := h1.cells
 have hc6 : (w.alloc (.cells #[.pointer (some ⟨r, 0, none⟩)] 39)).cell? ⟨r, 6, none⟩ = some (.int .i64 s.term) := by rw [cell_heap hcell]; rfl
 have hc0 : (w.alloc (.cells #[.pointer (some ⟨r, 0, none⟩)] 39)).cell? ⟨r, 0, none⟩ = some (.int .i64 (s.own : Int)) := by rw [cell_heap hcell]; rfl
 have HKP : Hid (∀ w2 s2 k2, NdP (w.alloc (.cells #[.pointer (some ⟨r, 0, none⟩)] 39)) w2 A X r d l s2 k2 → w2.cell? ⟨w.heap.size, 0, none⟩ = some (.pointer (some ⟨r, 0, none⟩))) := Lib.hid (fun w2 s2 k2 hn => by
  obtain ⟨A2, X2, h2, m2⟩ := hn
  exact m2.mv.only.cell hP0 (fun hm => by have := hXlt _ hm; simp at this))
 have HW := Lib.hid hw
 have HPN : Hid (∀ b ∈ X, b ≠ w.heap.size) := Lib.hid (fun b hb e => by have := hXlt b hb; omega)
 have hPW : w.heap.size < (w.alloc (.cells #[.pointer (some ⟨r, 0, none⟩)] 39)).heap.size := by simp
 have HN1 := Lib.hid h1
 have ht0 := hw.term0
 have hn5 := hw.n5
 clear h hbx hbw hcell hXlt h1
 go_enter Try.func42, Try.ntmps42
 go_upto_region 1 with (fail)
 generalize w.alloc (.cells #[.pointer (some ⟨r, 0, none⟩)] 39) = W at *
 generalize w.heap.size = P at *
 by_cases htm : 1099511627776 ≤ s.term
 ·rw [if_pos htm] at HE
  have HNW : Hid (NdP w W.drew A X r d l s k) := Lib.hid (NdP.trans HM0.out ((HN1.out.below (below_drewN W 1)).ndp (Mv.below (below_drewN W 1))))
  have g1 : decide (1099511627776 ≤ s.term) = true := decide_eq_true htm
  have hP1 : W.drew.cell? ⟨P, 0, none⟩ = some (.pointer (some ⟨r, 0, none⟩)) := hP0
  refine wp_region_held_drew (S := fun w' => w'.cell? ⟨P, 0, none⟩ = some (.pointer (some ⟨r, 0, none⟩))) (by kernel_rfl) hP1 (fun hHeld => ?_)
  refine qtl 0 (z09x0 _) rfl ?_
  refine qtl 1 (z09x1 _) rfl ?_
  refine qtl 2 (z09x2 _) rfl ?_
  refine qr1 3 (z09x3 _) rfl fun K hK => ?_
  unfold z09x3
  go_simp
  refine hK.out _ _ hHeld (fun hHeld => ?_)
  clear hK K
  refine qsp ?_
  refine qtl 4 (z09x4 _) rfl ?_
  refine qtl 5 (z09x5 _) rfl ?_
  refine qtu 6 (z09x6 _) rfl ?_
  refine qtu 7 (z09x7 _) rfl ?_
  refine qtu 8 (z09x8 _) rfl ?_
  refine qtu 9 (z09x9 _) rfl ?_
  refine qtu 10 (z09x10 _) rfl ?_
  refine qtu 11 (z09x11 _) rfl ?_
  refine qtu 12 (z09x12 _) rfl ?_
  refine qtu 13 (z09x13 _) rfl ?_
  refine qtu 14 (z09x14 _) rfl ?_
  refine qtu 15 (z09x15 _) rfl ?_
  refine qtu 16 (z09x16 _) rfl ?_
  refine qtu 17 (z09x17 _) rfl ?_
  refine qtl 18 (z09x18 _) rfl ?_
  refine qdn ?_
  clear hHeld
  go_wp2_with fail
  go_ret
  rw [HE.out]
  exact MsP.none HNW.out
 ·rw [if_neg htm] at HE
  have g1 : decide (1099511627776 ≤ s.term) = false := decide_eq_false htm
  have q1 : IntKind.i64.wrap (s.term + 1) = s.term + 1 := IntWalk.i64_in _ (by omega)
  have hP1 : W.drew.cell? ⟨P, 0, none⟩ = some (.pointer (some ⟨r, 0, none⟩)) := hP0
  have HEN := Lib.hid (fun W' (hb : Below W.heap.size W W') => (enter_any (HN1.out.below hb) HW.out (s.term + 1) (s.own : Int)).mono (R' := fun e w' => e = .returned (.bool (enterM s k (s.term + 1) (s.own : Int)).1) ∧ NdP W w' A X r d l (enterM s k (s.term + 1) (s.own : Int)).2.1 (enterM s k (s.term + 1) (s.own : Int)).2.2) (by rintro e w' ⟨h1, h2⟩; exact ⟨h1, h2.trans (Mv.below hb)⟩))
  have HWE := Lib.hid (wf_enter HW.out (s.term + 1) (s.own : Int) (by omega) (by omega) (by omega) (by have := HW.out.own; omega))
  have HSE := Lib.hid (enter_same (s := s) (k := k) (s.term + 1) (s.own : Int))
  have HWV := Lib.hid (wf_scal HWE.out (enterM s k (s.term + 1) (s.own : Int)).2.1.lives 0 (enterM s k (s.term + 1) (s.own : Int)).2.1.clock ((List.replicate s.n false).set s.own true) (Nat.zero_le _) (by rw [HSE.out.1]; simp) (Nat.le_refl _))
  simp only at HE
  generalize enterM s k (s.term + 1) (s.own : Int) = p at *
  obtain ⟨ok, s2, k2⟩ := p
  (try simp only at HE); (try simp only at HEN); (try simp only at HWE); (try simp only at HSE); (try simp only at HWV)
  have HKP := Lib.hid (fun w2 => HKP.out w2 s2 k2)
  cases ok with
  | false =>
   rw [if_neg (by simp)] at HE
   refine wp_region_held_drew (S := fun w' => w'.cell? ⟨P, 0, none⟩ = some (.pointer (some ⟨r, 0, none⟩))) (by kernel_rfl) hP1 (fun hHeld => ?_)
   refine qtl 0 (z09x0 _) rfl ?_
   refine qtl 1 (z09x1 _) rfl ?_
   refine qtl 2 (z09x2 _) rfl ?_
   refine qr1 3 (z09x3 _) rfl fun K hK => ?_
   unfold z09x3
   go_simp
   refine hK.out _ _ hHeld (fun hHeld => ?_)
   clear hK K
   refine qsp ?_
   refine qtl 4 (z09x4 _) rfl ?_
   refine qtl 5 (z09x5 _) rfl ?_
   refine qtl 6 (z09x6 _) rfl ?_
   refine qtl 7 (z09x7 _) rfl ?_
   refine qtl 8 (z09x8 _) rfl ?_
   refine qtl 9 (z09x9 _) rfl ?_
   refine qtl 12 (z09x12 _) rfl ?_
   refine qtl 13 (z09x13 _) rfl ?_
   refine qtl 14 (z09x14 _) rfl ?_
   refine qr2 10 15 (z09x10 _) (z09x15 _) rfl rfl (fun K hK => ?_) fun K hK => ?_
   ·unfold z09x10
    go_simp
    refine hK.out _ _ hHeld (fun hHeld => ?_)
    clear hK K
    refine qsp ?_
    refine qtl 11 (z09x11 _) rfl ?_
    refine qr1 15 (z09x15 _) rfl fun K hK => ?_
    unfold z09x15
    go_simp
    refine hK.out _ _ hHeld (fun hHeld => ?_)
    clear hK K
    refine qsp ?_
    exact z09xm0
   ·unfold z09x15
    go_simp
    refine hK.out _ _ hHeld (fun hHeld => ?_)
    clear hK K
    refine qsp ?_
    refine qr1 10 (z09x10 _) rfl fun K hK => ?_
    unfold z09x10
    go_simp
    refine hK.out _ _ hHeld (fun hHeld => ?_)
    clear hK K
    refine qsp ?_
    refine qtl 11 (z09x11 _) rfl ?_
    exact z09xm0
  | true =>
   rw [if_pos rfl] at HE
   go_cut [21] (fun v wx => v = .bool false ∧ NdP W wx A X r d l s2 k2 ∧ wx.cell? ⟨P, 0, none⟩ = some (.pointer (some ⟨r, 0, none⟩)))
   case first =>
     refine wp_region_held_drew (S := fun w' => w'.cell? ⟨P, 0, none⟩ = some (.pointer (some ⟨r, 0, none⟩))) (by kernel_rfl) hP1 (fun hHeld => ?_)
     refine qtl 0 (z09x0 _) rfl ?_
     refine qtl 1 (z09x1 _) rfl ?_
     refine qtl 2 (z09x2 _) rfl ?_
     refine qr1 3 (z09x3 _) rfl fun K hK => ?_
     unfold z09x3
     go_simp
     refine hK.out _ _ hHeld (fun hHeld => ?_)
     clear hK K
     refine qsp ?_
     refine qtl 4 (z09x4 _) rfl ?_
     refine qtl 5 (z09x5 _) rfl ?_
     refine qtl 6 (z09x6 _) rfl ?_
     refine qtl 7 (z09x7 _) rfl ?_
     refine qtl 8 (z09x8 _) rfl ?_
     refine qtl 9 (z09x9 _) rfl ?_
     refine qtl 12 (z09x12 _) rfl ?_
     refine qtl 13 (z09x13 _) rfl ?_
     refine qtl 14 (z09x14 _) rfl ?_
     refine qr2 10 15 (z09x10 _) (z09x15 _) rfl rfl (fun K hK => ?_) fun K hK => ?_
     ·unfold z09x10
      go_simp
      refine hK.out _ _ hHeld (fun hHeld => ?_)
      clear hK K
      refine qsp ?_
      refine qtl 11 (z09x11 _) rfl ?_
      refine qr1 15 (z09x15 _) rfl fun K hK => ?_
      unfold z09x15
      go_simp
      refine hK.out _ _ hHeld (fun hHeld => ?_)
      clear hK K
      refine qsp ?_
      exact z09xm1
     ·unfold z09x15
      go_simp
      refine hK.out _ _ hHeld (fun hHeld => ?_)
      clear hK K
      refine qsp ?_
      refine qr1 10 (z09x10 _) rfl fun K hK => ?_
      unfold z09x10
      go_simp
      refine hK.out _ _ hHeld (fun hHeld => ?_)
      clear hK K
      refine qsp ?_
      refine qtl 11 (z09x11 _) rfl ?_
      exact z09xm1
   case rest =>
   obtain ⟨rfl, hn3, hP3⟩ := hcut
   rename World => w3
   obtain ⟨A3, X3, h3, m3⟩ := hn3
   have H3 := Lib.hid h3
   have M3 := Lib.hid (HM0.out.trans m3)
   obtain ⟨vl, gv, gn, gm, gh, hcell⟩ := h3.cells
   have hc15 : w3.cell? ⟨r, 15, none⟩ = some (.int .i64 (s2.ticks : Int)) := by rw [cell_heap hcell]; rfl
   have hz15 := free_heap hcell 15
   have hrlt := lt_of_heap hcell
   have HPX : Hid (∀ b ∈ X3, b ≠ P) := Lib.hid (fun b hb e => by
     subst e
     rcases m3.mv.gr b hb with h4 | h4
     · exact HPN.out b h4 rfl
     · omega)
   have HT : Hid (NdP w3 (w3.setCell ⟨r, 15, none⟩ (.int .i64 0)) A3 X3 r d l { s2 with ticks := 0 } k2) := Lib.hid (by
     refine Nd.scal h3 ((Only.refl _ _).setCell (by simp) _) ?_ rfl rfl rfl rfl rfl rfl
     intro vl gv gn gm gh hc
     rw [heap_set hc]
     rfl)
   have hrP : r ≠ P := HPX.out r h3.rX
   have HP3 : Hid (P < w3.heap.size) := Lib.hid (by have := m3.mv.only.size; omega)
   clear h3 m3 hcell hc0 hc6 hP0 hP1 g1 q1 HEN HKP
   go_upto_region 4 with (fail)
   have ho4 : Only [r] w3 (w3.setCell ⟨r, 15, none⟩ (.int .i64 0)) := (Only.refl _ _).setCell (by simp) _
   have hP4 := ho4.cell hP3 (by simpa using hrP.symm)
   obtain ⟨A4, X4, h4, m4⟩ := HT.out
   have M4 := Lib.hid (M3.out.trans m4)
   have HPX4 : Hid (∀ b ∈ X4, b ≠ P) := Lib.hid (fun b hb e => by
     rcases m4.mv.gr b hb with h5 | h5
     · exact HPX.out b h5 e
     · have := ho4.size; have := HP3.out; omega)
   have HP4s : Hid (P < (w3.setCell ⟨r, 15, none⟩ (.int .i64 0)).heap.size) := Lib.hid (by have := ho4.size; have := HP3.out; omega)
   clear ho4 hc15 hz15 hP3 m4
   generalize w3.setCell ⟨r, 15, none⟩ (.int .i64 0) = W4 at *
   have h4 := h4.below (below_drewN W4 1)
   have M4 := Lib.hid (M4.out.trans (Mv.below (A := A4) (X := X4) (below_drewN W4 1)))
   have hP4 : W4.drew.cell? ⟨P, 0, none⟩ = some (.pointer (some ⟨r, 0, none⟩)) := hP4
   have HP4s : Hid (P < W4.drew.heap.size) := HP4s
   have hsn : s2.n = s.n := HSE.out.1
   have hso : s2.own = s.own := HSE.out.2.1
   change Nd W4.drew A4 X4 r d l { s2 with ticks := 0 } k2 at h4
   change Hid (Mv A A4 X X4 w W4.drew) at M4
   have HM4 := Lib.hid (fun W => Nd.new_votes' h4 (List.replicate s.n false) s.n hsn W)
   obtain ⟨vl, gv, gn, gm, gh, hcell⟩ := h4.cells
   have hc1 : W4.drew.cell? ⟨r, 1, none⟩ = some (.int .i64 (s.n : Int)) := by rw [cell_heap hcell, ← hsn]; rfl
   have hc12 : W4.drew.cell? ⟨r, 12, none⟩ = some (rowV gv s2.n) := by rw [cell_heap hcell]; rfl
   have hz12 := free_heap hcell 12
   have hmk := make_bools s.n hn5
   have hrl4 := lt_of_heap hcell
   have HK4 : Hid (∀ v, (W4.drew.alloc (.cells (boolsA (List.replicate s.n false)) 4)).cell? ⟨P, 0, none⟩ = some (.pointer (some ⟨r, 0, none⟩)) ∧ (W4.drew.alloc (.cells (boolsA (List.replicate s.n false)) 4)).cell? ⟨r, 1, none⟩ = some (.int .i64 (s.n : Int)) ∧ ((W4.drew.alloc (.cells (boolsA (List.replicate s.n false)) 4)).setCell ⟨r, 12, none⟩ v).cell? ⟨P, 0, none⟩ = some (.pointer (some ⟨r, 0, none⟩)) ∧ ((W4.drew.alloc (.cells (boolsA (List.replicate s.n false)) 4)).setCell ⟨r, 12, none⟩ v).cell? ⟨r, 1, none⟩ = some (.int .i64 (s.n : Int))) := Lib.hid (fun v => by
     have hb : Below W4.drew.heap.size W4.drew (W4.drew.alloc (.cells (boolsA (List.replicate s.n false)) 4)) := (Below.refl _ _).alloc (Nat.le_refl _) _
     have e1 := cell_later hb hP4
     have ho : Only [r] (W4.drew.alloc (.cells (boolsA (List.replicate s.n false)) 4)) ((W4.drew.alloc (.cells (boolsA (List.replicate s.n false)) 4)).setCell ⟨r, 12, none⟩ v) := (Only.refl _ _).setCell (by simp) _
     have hh := heap_old hcell (.cells (boolsA (List.replicate s.n false)) 4)
     refine ⟨e1, cell_later hb hc1, ho.cell e1 (by simpa using hrP.symm), ?_⟩
     rw [cell_heap (heap_set hh 12 v), ← hsn]
     rfl)
   have hcz : (W4.drew.alloc (.cells (boolsA (List.replicate s.n false)) 4)).cell? ⟨r, 12, none⟩ = some (rowV gv s2.n) := by rw [cell_heap (heap_old hcell (.cells (boolsA (List.replicate s.n false)) 4))]; rfl
   have hzz : (W4.drew.alloc (.cells (boolsA (List.replicate s.n false)) 4)).frozen? ⟨r, 12, none⟩ = false := free_heap (heap_old hcell (.cells (boolsA (List.replicate s.n false)) 4)) 12
   clear h4 hcell hc12 hz12
   refine wp_region_held_drew (S := fun w' => w'.cell? ⟨P, 0, none⟩ = some (.pointer (some ⟨r, 0, none⟩)) ∧ w'.cell? ⟨r, 1, none⟩ = some (.int .i64 (s.n : Int))) (by kernel_rfl) ⟨hP4, hc1⟩ (fun hHeld => ?_)
   refine qtl 0 (z09x19 _) rfl ?_
   refine qtl 1 (z09x20 _) rfl ?_
   refine qtl 2 (z09x21 _) rfl ?_
   refine qtl 3 (z09x22 _) rfl ?_
   refine qtl 4 (z09x23 _) rfl ?_
   generalize W4.drew = V4 at *
   refine qr1 5 (z09x24 _) rfl fun K hK => ?_
   unfold z09x24
   go_simp
   refine hK.out _ _ ⟨(HK4.out undef).1, (HK4.out undef).2.1⟩ (fun hHeld => ?_)
   clear hK K
   refine qsp ?_
   generalize hv5 : V4.alloc (.cells (boolsA (List.replicate s.n false)) 4) = V5 at *
   have hnv : V5.heap.size = V4.heap.size + 1 := by rw [← hv5]; simp
   refine qtl 6 (z09x25 _) rfl ?_
   refine qtl 7 (z09x26 _) rfl ?_
   refine qr1 8 (z09x27 _) rfl fun K hK => ?_
   unfold z09x27
   go_simp
   refine hK.out _ _ ⟨(HK4.out _).2.2.1, (HK4.out _).2.2.2⟩ (fun hHeld => ?_)
   clear hK K
   refine qsp ?_
   refine qdn ?_
   clear hHeld
   obtain ⟨A5, X5, h5, m5⟩ := HM4.out _ rfl
   have hP5 := (HK4.out (.slice (some ⟨V4.heap.size, 0, none⟩) s.n s.n)).2.2.1
   have M5 := Lib.hid (M4.out.trans m5)
   have HPX5 : Hid (∀ b ∈ X5, b ≠ P) := Lib.hid (fun b hb e => by
     rcases m5.mv.gr b hb with h6 | h6
     · exact HPX4.out b h6 e
     · have := HP4s.out; omega)
   go_upto_region 5 with (fail)
   clear hcz hzz HM4 HK4 hc1 hP4 hmk
   generalize V5.setCell ⟨r, 12, none⟩ (.slice (some ⟨V4.heap.size, 0, none⟩) s.n s.n) = W5 at *
   have h5 := h5.below (below_drewN W5 1)
   have M5 := Lib.hid (M5.out.trans (Mv.below (A := A5) (X := X5) (below_drewN W5 1)))
   have hP5 : (W5.drewN 1).cell? ⟨P, 0, none⟩ = some (.pointer (some ⟨r, 0, none⟩)) := hP5
   change (W5.drew).cell? ⟨P, 0, none⟩ = some (.pointer (some ⟨r, 0, none⟩)) at hP5
   change Nd W5.drew A5 X5 r d l { s2 with ticks := 0, votes := List.replicate s.n false } k2 at h5
   change Hid (Mv A A5 X X5 w W5.drew) at M5
   obtain ⟨D, L, R, vl, gv, gn, gm, gh, h6, hX6⟩ := h5
   have hc12 : W5.drew.cell? ⟨r, 12, none⟩ = some (.slice (some ⟨gv, 0, none⟩) s.n s.n) := by rw [cell_heap h6.cell, ← hsn]; rfl
   have hc0 : W5.drew.cell? ⟨r, 0, none⟩ = some (.int .i64 (s.own : Int)) := by rw [cell_heap h6.cell, ← hso]; rfl
   have hown : (s.own : Int) < (s.n : Int) := by have := HW.out.own; omega
   have hcv : W5.drew.cell? ⟨gv, s.own, none⟩ = some (.bool ((List.replicate s.n false).getD s.own false)) := by rw [cell_heap h6.votes]; exact boolsA_at _ _ (by simp; omega)
   have hzv := free_heap h6.votes s.own
   have hPgv : P ≠ gv := fun e => HPX5.out gv ((hX6 gv).2 (.inr (.inr h6.vR))) e.symm
   have hrgv : r ≠ gv := heap_ne h6.cell h6.votes (by decide)
   have HK5 : Hid (∀ v, (W5.drew.setCell ⟨gv, s.own, none⟩ v).cell? ⟨P, 0, none⟩ = some (.pointer (some ⟨r, 0, none⟩)) ∧ (W5.drew.setCell ⟨gv, s.own, none⟩ v).cell? ⟨r, 12, none⟩ = some (.slice (some ⟨gv, 0, none⟩) s.n s.n) ∧ (W5.drew.setCell ⟨gv, s.own, none⟩ v).cell? ⟨r, 0, none⟩ = some (.int .i64 (s.own : Int))) := Lib.hid (fun v => by
     have ho : Only [gv] W5.drew (W5.drew.setCell ⟨gv, s.own, none⟩ v) := (Only.refl _ _).setCell (by simp) _
     exact ⟨ho.cell hP5 (by simpa using hPgv), ho.cell hc12 (by simpa using hrgv), ho.cell hc0 (by simpa using hrgv)⟩)
   have H7 : Hid (NdP W5.drew (W5.drew.setCell ⟨gv, s.own, none⟩ (.bool true)) A5 X5 r d l { s2 with ticks := 0, votes := (List.replicate s.n false).set s.own true } k2) := Lib.hid ((h6.set_votes s.own true).ndpR hX6 (S := [gv]) ((Only.refl _ _).setCell (by simp) _) (fun b hb => by rw [List.mem_singleton.1 hb]; exact h6.vR))
   clear h6 hX6 hPgv hrgv
   refine wp_region_held_drew (S := fun w' => w'.cell? ⟨P, 0, none⟩ = some (.pointer (some ⟨r, 0, none⟩)) ∧ w'.cell? ⟨r, 12, none⟩ = some (.slice (some ⟨gv, 0, none⟩) s.n s.n) ∧ w'.cell? ⟨r, 0, none⟩ = some (.int .i64 (s.own : Int))) (by kernel_rfl) ⟨hP5, hc12, hc0⟩ (fun hHeld => ?_)
   refine qtl 0 (z09x28 _) rfl ?_
   refine qtl 1 (z09x29 _) rfl ?_
   refine qtl 2 (z09x30 _) rfl ?_
   refine qtl 3 (z09x31 _) rfl ?_
   refine qtl 4 (z09x32 _) rfl ?_
   refine qtl 5 (z09x33 _) rfl ?_
   refine qtl 6 (z09x34 _) rfl ?_
   refine qtl 7 (z09x35 _) rfl ?_
   refine qtl 8 (z09x36 _) rfl ?_
   generalize W5.drew = V5b at *
   refine qr1 9 (z09x37 _) rfl fun K hK => ?_
   unfold z09x37
   go_simp
   refine hK.out _ _ (HK5.out _) (fun hHeld => ?_)
   clear hK K
   refine qsp ?_
   refine qdn ?_
   clear hHeld
   have hP8 := (HK5.out (.bool true)).1
   generalize V5b.setCell ⟨gv, s.own, none⟩ (.bool true) = W8 at *
   obtain ⟨A7, X7, h7, m7⟩ := H7.out
   have H7 := Lib.hid h7
   have M7 := Lib.hid (M5.out.trans m7)
   clear h7 m7 hc12 hc0 hcv hzv hP5
   have HWV : Hid (Wf { s2 with ticks := 0, votes := (List.replicate s.n false).set s.own true } k2) := HWV
   have hlog : s2.log.length ≤ 1000000 := by have := HWV.out.logb; have h9 : s2.log.length ≤ 87381 := this; omega
   have HCH := Lib.hid (chosen_any H7.out HWV.out.n5 HWV.out.vl)
   (try simp only at HE)
   generalize hs7 : ({ s2 with ticks := 0, votes := (List.replicate s.n false).set s.own true } : Rp) = s7 at *
   have HLG : Hid (s7.log.length ≤ 1000000) := Lib.hid (by rw [← hs7]; exact hlog)
   clear hs7
   go_wp2_with fail
   refine HCH.out.mono ?_
   rintro e w9 ⟨rfl, rfl⟩
   cases hch : chosenM s7 with
   | true =>
     rw [hch, if_pos rfl] at HE
     go_wp2_with fail
     refine (lead_any H7.out HWV.out).mono ?_
     rintro e w9 hms
     obtain ⟨v9, A9, X9, rfl, h9, ho9, m9⟩ := hms
     have HF := Lib.hid (MsP.trans M7.out ⟨v9, A9, X9, rfl, h9, ho9, m9⟩)
     clear h9 ho9 m9
     go_wp2_with fail
     go_ret
     rw [HE.out]
     exact HF.out
   | false =>
     rw [hch, if_neg (by simp)] at HE
     go_wp2_with fail
     refine (others_stand1 H7.out HWV.out.n5 HLG.out P hP8).mono ?_
     rintro e w9 ⟨v9, rfl, ho9, hb9⟩
     have HF := Lib.hid (MsP.trans M7.out (others_fin H7.out ho9 hb9))
     clear ho9 hb9
     go_wp2_with fail
     go_ret
     rw [HE.out]
     exact HF.out
end
end Go.Proofs.Ytnicaicjgaoolaa
