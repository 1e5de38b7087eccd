/-
  Results, and whether they are alike.
-/
import Derived.Test.YtpikdeikcmdcmaaPBack
import Derived.Test.YtpikdeikcmdcmaaQuiet
import Derived.Test.YtpikdeikcmdcmaaKitS
namespace Go.Proofs.Ytpikdeikcmdcmaa
open Go.RowKit

/-- a result -/
structure Re where
  err : Int
  path : ByteArray
  data : ByteArray
  names : List ByteArray
  made : Int
  changed : Int
  version : Int
  kids : Int
  owner : Int
  length : Int
  count : Int
deriving DecidableEq
instance : Inhabited Re := ⟨⟨0, ByteArray.empty, ByteArray.empty, [], 0, 0, 0, 0, 0, 0, 0⟩⟩
/-- what a result's cells hold: its names lie behind v -/
def cellsR (x : Re) (v : Value) : List Value :=
  [.int .i64 x.err, .string x.path, .string x.data, v, .int .i64 x.made, .int .i64 x.changed, .int .i64 x.version, .int .i64 x.kids, .int .i64 x.owner, .int .i64 x.length, .int .i64 x.count]
def aggR (x : Re) (v : Value) : Value :=
  .agg #[.int .i64 x.err, .string x.path, .string x.data, v, .int .i64 x.made, .int .i64 x.changed, .int .i64 x.version, .int .i64 x.kids, .int .i64 x.owner, .int .i64 x.length, .int .i64 x.count]
def NamesAt (w : World) (v : Value) (l : List ByteArray) : Prop := ∃ ao n c, v = .slice ao n c ∧ IsS w ao n c l ∧ n ≤ 8796093022208
theorem NamesAt.below {w w' : World} {v : Value} {l : List ByteArray} (h : NamesAt w v l) (hb : Below w.heap.size w w') : NamesAt w' v l := by
  obtain ⟨ao, n, c, rfl, h1, h2⟩ := h
  exact ⟨ao, n, c, rfl, h1.below hb, h2⟩
def rowR (l : List (Re × Value)) : List Value := l.flatMap fun p => cellsR p.1 p.2
theorem rowR_len (l : List (Re × Value)) : (rowR l).length = l.length * 11 := by
  induction l with
  | nil => rfl
  | cons x l ih => simp only [rowR, List.flatMap_cons, List.length_append, cellsR, List.length_cons, List.length_nil] at ih ⊢; omega
theorem rowR_append (l m : List (Re × Value)) : rowR (l ++ m) = rowR l ++ rowR m := by simp [rowR]
theorem rowR_at (l : List (Re × Value)) (i j : Nat) (hi : i < l.length) (hj : j < 11) : (rowR l)[i * 11 + j]? = (cellsR (l.getD i default).1 (l.getD i default).2)[j]? := by
  induction l generalizing i with
  | nil => simp at hi
  | cons x l ih =>
    have hlx : (cellsR x.1 x.2).length = 11 := rfl
    cases i with
    | zero =>
      simp only [rowR, List.flatMap_cons, Nat.zero_mul, Nat.zero_add, List.getD_cons_zero]
      rw [List.getElem?_append_left (by omega)]
    | succ i =>
      have h := ih i (by simpa using hi)
      simp only [rowR, List.flatMap_cons, List.getD_cons_succ] at h ⊢
      rw [List.getElem?_append_right (by omega), hlx, show (i + 1) * 11 + j - 11 = i * 11 + j from by omega]
      exact h
/-- a slice of results that reads as l -/
structure IsRes (w : World) (ao : Option Addr) (n : Nat) (l : List (Re × Value)) : Prop where
  len : l.length = n
  at_ : n = 0 ∨ ∃ b off, ao = some ⟨b, off, none⟩ ∧ ∀ j u, (rowR l)[j]? = some u → w.cell? ⟨b, off + j, none⟩ = some u
  names : ∀ p ∈ l, NamesAt w p.2 p.1.names
theorem IsRes.below {w w' : World} {ao : Option Addr} {n : Nat} {l : List (Re × Value)} (h : IsRes w ao n l) (hb : Below w.heap.size w w') : IsRes w' ao n l := by
  refine ⟨h.len, ?_, fun p hp => (h.names p hp).below hb⟩
  rcases h.at_ with h0 | ⟨b, off, h1, h2⟩
  · exact .inl h0
  · exact .inr ⟨b, off, h1, fun j u hj => cell_later hb (h2 j u hj)⟩
/-- one of them -/
theorem IsRes.get {w : World} {ao : Option Addr} {n : Nat} {l : List (Re × Value)} (h : IsRes w ao n l) {i : Nat} (hi : i < n) : ∃ b off, ao = some ⟨b, off, none⟩ ∧ ∃ x v, l.getD i default = (x, v) ∧ NamesAt w v x.names ∧
    w.cell? ⟨b, off + i * 11, none⟩ = some (.int .i64 x.err) ∧ w.cell? ⟨b, off + i * 11 + 1, none⟩ = some (.string x.path) ∧ w.cell? ⟨b, off + i * 11 + 2, none⟩ = some (.string x.data) ∧ w.cell? ⟨b, off + i * 11 + 3, none⟩ = some v ∧
    w.cell? ⟨b, off + i * 11 + 4, none⟩ = some (.int .i64 x.made) ∧ w.cell? ⟨b, off + i * 11 + 5, none⟩ = some (.int .i64 x.changed) ∧ w.cell? ⟨b, off + i * 11 + 6, none⟩ = some (.int .i64 x.version) ∧ w.cell? ⟨b, off + i * 11 + 7, none⟩ = some (.int .i64 x.kids) ∧
    w.cell? ⟨b, off + i * 11 + 8, none⟩ = some (.int .i64 x.owner) ∧ w.cell? ⟨b, off + i * 11 + 9, none⟩ = some (.int .i64 x.length) ∧ w.cell? ⟨b, off + i * 11 + 10, none⟩ = some (.int .i64 x.count) := by
  rcases h.at_ with h0 | ⟨b, off, rfl, hc⟩
  · omega
  · have hl := h.len
    have hmem : l.getD i default ∈ l := by rw [List.getD_eq_getElem?_getD, List.getElem?_eq_getElem (by omega)]; exact List.getElem_mem (by omega)
    refine ⟨b, off, rfl, (l.getD i default).1, (l.getD i default).2, rfl, h.names _ hmem, ?_⟩
    have k : ∀ j, j < 11 → ∀ u, (cellsR (l.getD i default).1 (l.getD i default).2)[j]? = some u → w.cell? ⟨b, off + i * 11 + j, none⟩ = some u := by
      intro j hj u hu
      rw [Nat.add_assoc]
      exact hc _ _ (by rw [rowR_at l i j (by omega) hj]; exact hu)
    exact ⟨k 0 (by omega) _ rfl, k 1 (by omega) _ rfl, k 2 (by omega) _ rfl, k 3 (by omega) _ rfl, k 4 (by omega) _ rfl, k 5 (by omega) _ rfl, k 6 (by omega) _ rfl, k 7 (by omega) _ rfl, k 8 (by omega) _ rfl, k 9 (by omega) _ rfl, k 10 (by omega) _ rfl⟩

theorem toList_inj {x y : ByteArray} (h : x.toList = y.toList) : x = y := by
  rw [ByteArray.toList_eq, ByteArray.toList_eq] at h
  cases x; cases y
  simp at h
  rw [h]
def sameS (l m : List ByteArray) : Bool := decide (l = m)

set_option maxHeartbeats 400000 in
theorem sameS43_any (ao : Option Addr) (n c : Nat) (l : List ByteArray) (bo : Option Addr) (q c2 : Nat) (m : List ByteArray) (w : World) (h : IsS w ao n c l) (h2 : IsS w bo q c2 m) (hn : n ≤ 8796093022208) (hq : q ≤ 8796093022208) :
    Calls Try.prog 43 #[.slice ao n c, .slice bo q c2] w fun e w' => e = .returned (.bool (sameS l m)) ∧ ∃ d, w' = w.drewN d := by
  by_cases hnq : n = q
  · subst hnq
    have d0 : ((n : Int) != (n : Int)) = false := by simp
    obtain ⟨e1, _, x1⟩ := h
    obtain ⟨e2, _, x2⟩ := h2
    have E1 := Lib.hid e1
    have E2 := Lib.hid e2
    clear e1 e2
    go_enter Try.func43, Try.ntmps43
    go_wp2_with fail
    go_loopw [13] (fun i wr => ∃ k : Nat, k ≤ n ∧ i = .int .i64 k ∧ (∀ j, j < k → l.getD j ByteArray.empty = m.getD j ByteArray.empty) ∧ ∃ d, wr = w.drewN d) (fun i _ => n - (intOf i).toNat)
    case atStart => exact ⟨0, Nat.zero_le _, rfl, fun j hj => by omega, 0, rfl⟩
    case round =>
      obtain ⟨k, hk, rfl, hup, d, rfl⟩ := hrel
      have hd2 : ∀ n, ∃ m, (w.drewN d).drewN n = w.drewN m := fun n => ⟨_, World.drewN_drewN _ _ _⟩
      have hD := Lib.hid hd2
      have hU := Lib.hid hup
      clear hd2 hup
      by_cases hlt : k < n
      · rcases x1 with x1 | ⟨b, off, rfl, x1⟩
        · omega
        rcases x2 with x2 | ⟨b2, off2, rfl, x2⟩
        · omega
        have c1 : (w.drewN d).cell? ⟨b, off + k, none⟩ = some (.string (l.getD k ByteArray.empty)) := x1 k hlt
        have c2' : (w.drewN d).cell? ⟨b2, off2 + k, none⟩ = some (.string (m.getD k ByteArray.empty)) := x2 k hlt
        generalize hx : l.getD k ByteArray.empty = x at c1
        generalize hy : m.getD k ByteArray.empty = y at c2'
        have HX := Lib.hid hx
        have HY := Lib.hid hy
        generalize w.drewN d = wd at c1 c2' hD
        clear hx hy x1 x2
        by_cases hxy : x = y
        · have g1 : (x.toList == y.toList) = true := by simp [hxy]
          have HXY := Lib.hid hxy
          clear hxy
          go_wp2_with fail
          go_quiet (fail)
          go_wp2_with fail
          go_roundw
          case rel =>
            refine ⟨k + 1, by omega, by go_num, ?_, hD.out _⟩
            intro j hj
            by_cases hjk : j = k
            · subst hjk; rw [HX.out, HY.out, HXY.out]
            · exact hU.out j (by omega)
          case measure => simp [intOf]; omega
        · have g1 : (x.toList == y.toList) = false := by simpa using fun e => hxy (toList_inj e)
          have g2 : sameS l m = false := by
            unfold sameS
            refine decide_eq_false fun e => hxy ?_
            rw [← HX.out, ← HY.out, e]
          go_wp2_with fail
          go_quiet (fail)
          go_wp2_with fail
          go_ret
          exact ⟨by rw [g2]; rfl, hD.out _⟩
      · go_wp2_with fail
        go_ret
        refine ⟨?_, _, rfl⟩
        have : sameS l m = true := by
          unfold sameS
          refine decide_eq_true (List.ext_getElem? fun j => ?_)
          have hU2 := hU.out j
          by_cases hj : j < k
          · have := hU2 hj
            have k1 : j < l.length := by rw [E1.out]; omega
            have k2 : j < m.length := by rw [E2.out]; omega
            simp [k1, k2] at this ⊢
            exact this
          · rw [List.getElem?_eq_none (by rw [E1.out]; omega), List.getElem?_eq_none (by rw [E2.out]; omega)]
        rw [this]; rfl
  · have d0 : ((n : Int) != (q : Int)) = true := by simp; omega
    have g2 : sameS l m = false := by
      unfold sameS
      refine decide_eq_false fun e => hnq ?_
      rw [← h.len, ← h2.len, e]
    go_enter Try.func43, Try.ntmps43
    go_wp2_with fail
    go_ret
    exact ⟨by rw [g2]; rfl, 0, rfl⟩

set_option maxHeartbeats 400000 in
theorem sameS44_any (ao : Option Addr) (n c : Nat) (l : List ByteArray) (bo : Option Addr) (q c2 : Nat) (m : List ByteArray) (w : World) (h : IsS w ao n c l) (h2 : IsS w bo q c2 m) (hn : n ≤ 8796093022208) (hq : q ≤ 8796093022208) :
    Calls Try.prog 44 #[.slice ao n c, .slice bo q c2] w fun e w' => e = .returned (.bool (sameS l m)) ∧ ∃ d, w' = w.drewN d := by
  by_cases hnq : n = q
  · subst hnq
    have d0 : ((n : Int) != (n : Int)) = false := by simp
    obtain ⟨e1, _, x1⟩ := h
    obtain ⟨e2, _, x2⟩ := h2
    have E1 := Lib.hid e1
    have E2 := Lib.hid e2
    clear e1 e2
    go_enter Try.func44, Try.ntmps44
    go_wp2_with fail
    go_loopw [5] (fun i wr => ∃ k : Nat, k ≤ n ∧ i = .int .i64 k ∧ (∀ j, j < k → l.getD j ByteArray.empty = m.getD j ByteArray.empty) ∧ ∃ d, wr = w.drewN d) (fun i _ => n - (intOf i).toNat)
    case atStart => exact ⟨0, Nat.zero_le _, rfl, fun j hj => by omega, 0, rfl⟩
    case round =>
      obtain ⟨k, hk, rfl, hup, d, rfl⟩ := hrel
      have hd2 : ∀ n, ∃ m, (w.drewN d).drewN n = w.drewN m := fun n => ⟨_, World.drewN_drewN _ _ _⟩
      have hD := Lib.hid hd2
      have hU := Lib.hid hup
      clear hd2 hup
      by_cases hlt : k < n
      · rcases x1 with x1 | ⟨b, off, rfl, x1⟩
        · omega
        rcases x2 with x2 | ⟨b2, off2, rfl, x2⟩
        · omega
        have c1 : (w.drewN d).cell? ⟨b, off + k, none⟩ = some (.string (l.getD k ByteArray.empty)) := x1 k hlt
        have c2' : (w.drewN d).cell? ⟨b2, off2 + k, none⟩ = some (.string (m.getD k ByteArray.empty)) := x2 k hlt
        generalize hx : l.getD k ByteArray.empty = x at c1
        generalize hy : m.getD k ByteArray.empty = y at c2'
        have HX := Lib.hid hx
        have HY := Lib.hid hy
        generalize w.drewN d = wd at c1 c2' hD
        clear hx hy x1 x2
        by_cases hxy : x = y
        · have g1 : (x.toList == y.toList) = true := by simp [hxy]
          have HXY := Lib.hid hxy
          clear hxy
          go_wp2_with fail
          go_quiet (fail)
          go_wp2_with fail
          go_roundw
          case rel =>
            refine ⟨k + 1, by omega, by go_num, ?_, hD.out _⟩
            intro j hj
            by_cases hjk : j = k
            · subst hjk; rw [HX.out, HY.out, HXY.out]
            · exact hU.out j (by omega)
          case measure => simp [intOf]; omega
        · have g1 : (x.toList == y.toList) = false := by simpa using fun e => hxy (toList_inj e)
          have g2 : sameS l m = false := by
            unfold sameS
            refine decide_eq_false fun e => hxy ?_
            rw [← HX.out, ← HY.out, e]
          go_wp2_with fail
          go_quiet (fail)
          go_wp2_with fail
          go_ret
          exact ⟨by rw [g2]; rfl, hD.out _⟩
      · go_wp2_with fail
        go_ret
        refine ⟨?_, _, rfl⟩
        have : sameS l m = true := by
          unfold sameS
          refine decide_eq_true (List.ext_getElem? fun j => ?_)
          have hU2 := hU.out j
          by_cases hj : j < k
          · have := hU2 hj
            have k1 : j < l.length := by rw [E1.out]; omega
            have k2 : j < m.length := by rw [E2.out]; omega
            simp [k1, k2] at this ⊢
            exact this
          · rw [List.getElem?_eq_none (by rw [E1.out]; omega), List.getElem?_eq_none (by rw [E2.out]; omega)]
        rw [this]; rfl
  · have d0 : ((n : Int) != (q : Int)) = true := by simp; omega
    have g2 : sameS l m = false := by
      unfold sameS
      refine decide_eq_false fun e => hnq ?_
      rw [← h.len, ← h2.len, e]
    go_enter Try.func44, Try.ntmps44
    go_wp2_with fail
    go_ret
    exact ⟨by rw [g2]; rfl, 0, rfl⟩
end Go.Proofs.Ytpikdeikcmdcmaa
