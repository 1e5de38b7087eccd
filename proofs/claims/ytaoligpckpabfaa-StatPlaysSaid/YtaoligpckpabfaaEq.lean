/-
  Whether two nodes are alike, the program's and the document's. No condition.
-/
import Derived.Test.YtaoligpckpabfaaRise
namespace Go.Proofs.Ytaoligpckpabfaa
open Go.RowKit
def sameS (l m : List ByteArray) : Bool := decide (l = m)

set_option maxHeartbeats 400000 in
theorem sameS35_any (ao : Option Addr) (n c : Nat) (l : List ByteArray) (bo : Option Addr) (q c2 : Nat) (m : List ByteArray) (w : World) (h : IsS w ao n c l) (h2 : IsS w bo q c2 m) (hn : n ≤ 8796093022208) (hq : q ≤ 8796093022208) :
    Calls Try.prog 35 #[.slice ao n c, .slice bo q c2] w fun e w' => e = .returned (.bool (sameS l m)) ∧ ∃ d, w' = w.drewN d := by
  by_cases hnq : n = q
  · subst hnq
    have d0 : ((n : Int) != (n : Int)) = false := by simp
    obtain ⟨e1, _, x1⟩ := h
    obtain ⟨e2, _, x2⟩ := h2
    have E1 := Lib.hid e1
    have E2 := Lib.hid e2
    clear e1 e2
    go_enter Try.func35, Try.ntmps35
    go_wp2_with fail
    go_loopw [13] (fun i wr => ∃ k : Nat, k ≤ n ∧ i = .int .i64 k ∧ (∀ j, j < k → l.getD j ByteArray.empty = m.getD j ByteArray.empty) ∧ ∃ d, wr = w.drewN d) (fun i _ => n - (intOf i).toNat)
    case atStart => exact ⟨0, Nat.zero_le _, rfl, fun j hj => by omega, 0, rfl⟩
    case round =>
      obtain ⟨k, hk, rfl, hup, d, rfl⟩ := hrel
      have hd2 : ∀ n, ∃ m, (w.drewN d).drewN n = w.drewN m := fun n => ⟨_, World.drewN_drewN _ _ _⟩
      have hD := Lib.hid hd2
      have hU := Lib.hid hup
      clear hd2 hup
      by_cases hlt : k < n
      · rcases x1 with x1 | ⟨b, off, rfl, x1⟩
        · omega
        rcases x2 with x2 | ⟨b2, off2, rfl, x2⟩
        · omega
        have c1 : (w.drewN d).cell? ⟨b, off + k, none⟩ = some (.string (l.getD k ByteArray.empty)) := x1 k hlt
        have c2' : (w.drewN d).cell? ⟨b2, off2 + k, none⟩ = some (.string (m.getD k ByteArray.empty)) := x2 k hlt
        generalize hx : l.getD k ByteArray.empty = x at c1
        generalize hy : m.getD k ByteArray.empty = y at c2'
        have HX := Lib.hid hx
        have HY := Lib.hid hy
        generalize w.drewN d = wd at c1 c2' hD
        clear hx hy x1 x2
        by_cases hxy : x = y
        · have g1 : (x.toList == y.toList) = true := by simp [hxy]
          have HXY := Lib.hid hxy
          clear hxy
          go_wp2_with fail
          go_quiet (fail)
          go_wp2_with fail
          go_roundw
          case rel =>
            refine ⟨k + 1, by omega, by go_num, ?_, hD.out _⟩
            intro j hj
            by_cases hjk : j = k
            · subst hjk; rw [HX.out, HY.out, HXY.out]
            · exact hU.out j (by omega)
          case measure => simp [intOf]; omega
        · have g1 : (x.toList == y.toList) = false := by simpa using fun e => hxy (toList_inj e)
          have g2 : sameS l m = false := by
            unfold sameS
            refine decide_eq_false fun e => hxy ?_
            rw [← HX.out, ← HY.out, e]
          go_wp2_with fail
          go_quiet (fail)
          go_wp2_with fail
          go_ret
          exact ⟨by rw [g2]; rfl, hD.out _⟩
      · go_wp2_with fail
        go_ret
        refine ⟨?_, _, rfl⟩
        have : sameS l m = true := by
          unfold sameS
          refine decide_eq_true (List.ext_getElem? fun j => ?_)
          have hU2 := hU.out j
          by_cases hj : j < k
          · have := hU2 hj
            have k1 : j < l.length := by rw [E1.out]; omega
            have k2 : j < m.length := by rw [E2.out]; omega
            simp [k1, k2] at this ⊢
            exact this
          · rw [List.getElem?_eq_none (by rw [E1.out]; omega), List.getElem?_eq_none (by rw [E2.out]; omega)]
        rw [this]; rfl
  · have d0 : ((n : Int) != (q : Int)) = true := by simp; omega
    have g2 : sameS l m = false := by
      unfold sameS
      refine decide_eq_false fun e => hnq ?_
      rw [← h.len, ← h2.len, e]
    go_enter Try.func35, Try.ntmps35
    go_wp2_with fail
    go_ret
    exact ⟨by rw [g2]; rfl, 0, rfl⟩

set_option maxHeartbeats 400000 in
theorem sameS34_any (ao : Option Addr) (n c : Nat) (l : List ByteArray) (bo : Option Addr) (q c2 : Nat) (m : List ByteArray) (w : World) (h : IsS w ao n c l) (h2 : IsS w bo q c2 m) (hn : n ≤ 8796093022208) (hq : q ≤ 8796093022208) :
    Calls Try.prog 34 #[.slice ao n c, .slice bo q c2] w fun e w' => e = .returned (.bool (sameS l m)) ∧ ∃ d, w' = w.drewN d := by
  by_cases hnq : n = q
  · subst hnq
    have d0 : ((n : Int) != (n : Int)) = false := by simp
    obtain ⟨e1, _, x1⟩ := h
    obtain ⟨e2, _, x2⟩ := h2
    have E1 := Lib.hid e1
    have E2 := Lib.hid e2
    clear e1 e2
    go_enter Try.func34, Try.ntmps34
    go_wp2_with fail
    go_loopw [5] (fun i wr => ∃ k : Nat, k ≤ n ∧ i = .int .i64 k ∧ (∀ j, j < k → l.getD j ByteArray.empty = m.getD j ByteArray.empty) ∧ ∃ d, wr = w.drewN d) (fun i _ => n - (intOf i).toNat)
    case atStart => exact ⟨0, Nat.zero_le _, rfl, fun j hj => by omega, 0, rfl⟩
    case round =>
      obtain ⟨k, hk, rfl, hup, d, rfl⟩ := hrel
      have hd2 : ∀ n, ∃ m, (w.drewN d).drewN n = w.drewN m := fun n => ⟨_, World.drewN_drewN _ _ _⟩
      have hD := Lib.hid hd2
      have hU := Lib.hid hup
      clear hd2 hup
      by_cases hlt : k < n
      · rcases x1 with x1 | ⟨b, off, rfl, x1⟩
        · omega
        rcases x2 with x2 | ⟨b2, off2, rfl, x2⟩
        · omega
        have c1 : (w.drewN d).cell? ⟨b, off + k, none⟩ = some (.string (l.getD k ByteArray.empty)) := x1 k hlt
        have c2' : (w.drewN d).cell? ⟨b2, off2 + k, none⟩ = some (.string (m.getD k ByteArray.empty)) := x2 k hlt
        generalize hx : l.getD k ByteArray.empty = x at c1
        generalize hy : m.getD k ByteArray.empty = y at c2'
        have HX := Lib.hid hx
        have HY := Lib.hid hy
        generalize w.drewN d = wd at c1 c2' hD
        clear hx hy x1 x2
        by_cases hxy : x = y
        · have g1 : (x.toList == y.toList) = true := by simp [hxy]
          have HXY := Lib.hid hxy
          clear hxy
          go_wp2_with fail
          go_quiet (fail)
          go_wp2_with fail
          go_roundw
          case rel =>
            refine ⟨k + 1, by omega, by go_num, ?_, hD.out _⟩
            intro j hj
            by_cases hjk : j = k
            · subst hjk; rw [HX.out, HY.out, HXY.out]
            · exact hU.out j (by omega)
          case measure => simp [intOf]; omega
        · have g1 : (x.toList == y.toList) = false := by simpa using fun e => hxy (toList_inj e)
          have g2 : sameS l m = false := by
            unfold sameS
            refine decide_eq_false fun e => hxy ?_
            rw [← HX.out, ← HY.out, e]
          go_wp2_with fail
          go_quiet (fail)
          go_wp2_with fail
          go_ret
          exact ⟨by rw [g2]; rfl, hD.out _⟩
      · go_wp2_with fail
        go_ret
        refine ⟨?_, _, rfl⟩
        have : sameS l m = true := by
          unfold sameS
          refine decide_eq_true (List.ext_getElem? fun j => ?_)
          have hU2 := hU.out j
          by_cases hj : j < k
          · have := hU2 hj
            have k1 : j < l.length := by rw [E1.out]; omega
            have k2 : j < m.length := by rw [E2.out]; omega
            simp [k1, k2] at this ⊢
            exact this
          · rw [List.getElem?_eq_none (by rw [E1.out]; omega), List.getElem?_eq_none (by rw [E2.out]; omega)]
        rw [this]; rfl
  · have d0 : ((n : Int) != (q : Int)) = true := by simp; omega
    have g2 : sameS l m = false := by
      unfold sameS
      refine decide_eq_false fun e => hnq ?_
      rw [← h.len, ← h2.len, e]
    go_enter Try.func34, Try.ntmps34
    go_wp2_with fail
    go_ret
    exact ⟨by rw [g2]; rfl, 0, rfl⟩
theorem below_two (w : World) (o p : Obj) : Below w.heap.size w ((w.alloc o).alloc p) :=
  ((Below.refl _ _).alloc (Nat.le_refl _) o).alloc (by simp) p
set_option maxHeartbeats 4000000 in
theorem same23_any (x y : Nd) (ao : Option Addr) (n c : Nat) (bo : Option Addr) (q c2 : Nat) (w : World) (h1 : IsS w ao n c x.names) (h2 : IsS w bo q c2 y.names) (b1 : n ≤ 8796093022208) (b2 : q ≤ 8796093022208) :
    Calls Try.prog 23 #[aggN x (.slice ao n c), aggN y (.slice bo q c2)] w fun e w' => e = .returned (.bool (decide (x = y))) ∧ Below w.heap.size w w' := by
  have i1 := Lib.hid h1
  have i2 := Lib.hid h2
  clear h1 h2
  cases x with
  | mk xa xb xc xg xh xi xj xd xe xn =>
  cases y with
  | mk ya yb yc yg yh yi yj yd ye yn =>
  simp only [aggN, cellsN] at *
  by_cases h1 : xd = yd
  · subst h1
    have g1 : (xd.toList == xd.toList) = true := by simp
    by_cases h2 : xe = ye
    · subst h2
      have g2 : (xe == xe) = true := by simp
      go_enter Try.func23, Try.ntmps23
      go_wp2_with fail
      · refine (sameS35_any _ _ _ _ _ _ _ _ _ (i1.out.below (below_two _ _ _)) (i2.out.below (below_two _ _ _)) b1 b2).mono ?_
        rintro e w' ⟨rfl, d, rfl⟩
        go_wp2_with fail
        go_ret
        exact ⟨by simp_all [sameS], below_drew (below_two _ _ _) _⟩
      all_goals go_ret
      all_goals exact ⟨by simp_all, below_two _ _ _⟩
    · have g2 : (xe == ye) = false := by simpa using h2
      go_enter Try.func23, Try.ntmps23
      go_wp2_with fail
      all_goals go_ret
      all_goals exact ⟨by simp_all, below_two _ _ _⟩
  · have g1 : (xd.toList == yd.toList) = false := by simpa using fun e => h1 (toList_inj e)
    go_enter Try.func23, Try.ntmps23
    go_wp2_with fail
    all_goals go_ret
    all_goals exact ⟨by simp_all, below_two _ _ _⟩
set_option maxHeartbeats 4000000 in
theorem same20_any (x y : Nd) (ao : Option Addr) (n c : Nat) (bo : Option Addr) (q c2 : Nat) (w : World) (h1 : IsS w ao n c x.names) (h2 : IsS w bo q c2 y.names) (b1 : n ≤ 8796093022208) (b2 : q ≤ 8796093022208) :
    Calls Try.prog 20 #[aggN x (.slice ao n c), aggN y (.slice bo q c2)] w fun e w' => e = .returned (.bool (decide (x = y))) ∧ Below w.heap.size w w' := by
  have i1 := Lib.hid h1
  have i2 := Lib.hid h2
  clear h1 h2
  cases x with
  | mk xa xb xc xg xh xi xj xd xe xn =>
  cases y with
  | mk ya yb yc yg yh yi yj yd ye yn =>
  simp only [aggN, cellsN] at *
  by_cases h1 : xd = yd
  · subst h1
    have g1 : (xd.toList == xd.toList) = true := by simp
    by_cases h2 : xe = ye
    · subst h2
      have g2 : (xe == xe) = true := by simp
      go_enter Try.func20, Try.ntmps20
      go_wp2_with fail
      · refine (sameS34_any _ _ _ _ _ _ _ _ _ (i1.out.below (below_two _ _ _)) (i2.out.below (below_two _ _ _)) b1 b2).mono ?_
        rintro e w' ⟨rfl, d, rfl⟩
        go_wp2_with fail
        go_ret
        exact ⟨by simp_all [sameS], below_drew (below_two _ _ _) _⟩
      all_goals go_ret
      all_goals exact ⟨by simp_all, below_two _ _ _⟩
    · have g2 : (xe == ye) = false := by simpa using h2
      go_enter Try.func20, Try.ntmps20
      go_wp2_with fail
      all_goals go_ret
      all_goals exact ⟨by simp_all, below_two _ _ _⟩
  · have g1 : (xd.toList == yd.toList) = false := by simpa using fun e => h1 (toList_inj e)
    go_enter Try.func20, Try.ntmps20
    go_wp2_with fail
    all_goals go_ret
    all_goals exact ⟨by simp_all, below_two _ _ _⟩
end Go.Proofs.Ytaoligpckpabfaa
