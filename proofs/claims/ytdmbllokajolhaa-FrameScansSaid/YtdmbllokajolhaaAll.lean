/-
  Two rows of texts, held against each other.
-/
import Derived.Test.YtdmbllokajolhaaScan
import Derived.Test.YtdmbllokajolhaaQuiet
namespace Go.Proofs.Ytdmbllokajolhaa
open Go.RowKit

def sameL (l m : List (List UInt8)) : Bool := decide (l = m)
def strA (l : List UInt8) : ByteArray := ⟨l.toArray⟩
theorem strA_toList (l : List UInt8) : (strA l).toList = l := ByteArray.toList_mk l
theorem convA_any (w : World) (ao : Option Addr) (n c : Nat) (l : List UInt8) (h : IsB w ao n c l) : (convert 23 9 (.slice ao n c)).run Try.prog w = .ok (.string (strA l)) w := by
  obtain ⟨h1, h2, h3⟩ := h
  cases ao with
  | none =>
    obtain ⟨rfl, rfl⟩ := h2 rfl
    obtain rfl := List.length_eq_zero_iff.1 h1
    rw [run_convert_bytes_nil w 23 5 Try.underlying23 Try.underlying5 0 0 9 Try.underlying9]
    rfl
  | some p =>
    rcases h3 with h3 | ⟨b, off, h4, h5⟩
    · subst h3
      obtain rfl := List.length_eq_zero_iff.1 h1
      rw [run_convert_bytes_string w 23 9 5 _ 0 c Try.underlying23 Try.underlying5 Try.underlying9, run_bytesToString w p 0 c [] (run_loadCells_list w p [] (by simp))]
      rfl
    · cases h4
      rw [run_convert_bytes_arg w 23 5 Try.underlying23 Try.underlying5 b off n c (l.map fun x => (x.toNat : Int)) (by simpa using h1) (fun i hi => by rw [h5 i hi]; simp [h1, hi]) 9 Try.underlying9]
      simp only [strOfNums, strA, List.map_map]
      congr 4
      rw [List.map_congr_left (g := id)]
      · simp
      · intro x _; simp

set_option maxHeartbeats 1000000 in
theorem all_any (ao : Option Addr) (n c : Nat) (l : List (List UInt8)) (bo : Option Addr) (q c2 : Nat) (m : List (List UInt8)) (w : World) (h : IsBB w ao n l) (h2 : IsBB w bo q m) (hn : n ≤ 100000) (hq : q ≤ 100000) :
    Calls Try.prog 13 #[.slice ao n c, .slice bo q c2] w fun e w' => e = .returned (.bool (sameL l m)) ∧ ∃ d, w' = w.drewN d := by
  by_cases hnq : n = q
  · subst hnq
    have d0 : ((n : Int) != (n : Int)) = false := by simp
    obtain ⟨e1, x1⟩ := h
    obtain ⟨e2, x2⟩ := h2
    have E1 := Lib.hid e1
    have E2 := Lib.hid e2
    clear e1 e2
    go_enter Try.func13, Try.ntmps13
    go_wp2_with fail
    go_loopw [5] (fun i wr => ∃ k : Nat, k ≤ n ∧ i = .int .i64 k ∧ (∀ j, j < k → l.getD j [] = m.getD j []) ∧ ∃ d, wr = w.drewN d) (fun i _ => n - (intOf i).toNat)
    case atStart => exact ⟨0, Nat.zero_le _, rfl, fun j hj => by omega, 0, rfl⟩
    case round =>
      obtain ⟨k, hk, rfl, hup, d, rfl⟩ := hrel
      have hd2 : ∀ n, ∃ m, (w.drewN d).drewN n = w.drewN m := fun n => ⟨_, World.drewN_drewN _ _ _⟩
      have hD := Lib.hid hd2
      have hU := Lib.hid hup
      clear hd2 hup
      by_cases hlt : k < n
      · rcases x1 with x1 | ⟨b, off, rfl, x1⟩
        · omega
        rcases x2 with x2 | ⟨b2, off2, rfl, x2⟩
        · omega
        obtain ⟨a1, m1, k1, y1, y2, _⟩ := x1 k hlt
        obtain ⟨a2, m2, k2, z1, z2, _⟩ := x2 k hlt
        have c1 : (w.drewN d).cell? ⟨b, off + k, none⟩ = some (.slice a1 m1 k1) := y1
        have c2' : (w.drewN d).cell? ⟨b2, off2 + k, none⟩ = some (.slice a2 m2 k2) := z1
        generalize hx : l.getD k [] = x at y2
        generalize hy : m.getD k [] = y at z2
        have v1 := fun e => convA_any ((w.drewN d).drewN e) _ _ _ _ (y2.heapw (w' := (w.drewN d).drewN e) rfl)
        have v2 := fun e => convA_any ((w.drewN d).drewN e) _ _ _ _ (z2.heapw (w' := (w.drewN d).drewN e) rfl)
        have HX := Lib.hid hx
        have HY := Lib.hid hy
        have hxs : ∀ s t : ByteArray, strA x = s → strA y = t → (s.toList == t.toList) = decide (x = y) := by
          rintro s t rfl rfl
          rw [strA_toList, strA_toList]
          by_cases h : x = y
          · rw [h]; simp
          · rw [decide_eq_false h, beq_eq_false_iff_ne]; exact h
        generalize hs : strA x = s at v1
        generalize ht : strA y = t at v2
        have hst := hxs s t hs ht
        clear hxs hs ht y1 y2 z1 z2
        generalize w.drewN d = wd at c1 c2' hD v1 v2
        clear hx hy x1 x2
        by_cases hxy : x = y
        · rw [decide_eq_true hxy] at hst
          have HXY := Lib.hid hxy
          clear hxy
          go_wp2_with fail
          go_quiet (fail)
          go_wp2_with fail
          go_roundw
          case rel =>
            refine ⟨k + 1, by omega, by go_num, ?_, hD.out _⟩
            intro j hj
            by_cases hjk : j = k
            · subst hjk; rw [HX.out, HY.out, HXY.out]
            · exact hU.out j (by omega)
          case measure => simp [intOf]; omega
        · rw [decide_eq_false hxy] at hst
          have g2 : sameL l m = false := by
            unfold sameL
            refine decide_eq_false fun e => hxy ?_
            rw [← HX.out, ← HY.out, e]
          have G2 := Lib.hid g2
          clear g2
          have HXY := Lib.hid hxy
          clear hxy
          go_wp2_with fail
          go_quiet (fail)
          go_wp2_with fail
          go_ret
          exact ⟨by rw [G2.out]; rfl, hD.out _⟩
      · go_wp2_with fail
        go_ret
        refine ⟨?_, _, rfl⟩
        have : sameL l m = true := by
          unfold sameL
          refine decide_eq_true (List.ext_getElem? fun j => ?_)
          have hU2 := hU.out j
          by_cases hj : j < k
          · have := hU2 hj
            have k1 : j < l.length := by rw [E1.out]; omega
            have k2 : j < m.length := by rw [E2.out]; omega
            simp [k1, k2] at this ⊢
            exact this
          · rw [List.getElem?_eq_none (by rw [E1.out]; omega), List.getElem?_eq_none (by rw [E2.out]; omega)]
        rw [this]; rfl
  · have d0 : ((n : Int) != (q : Int)) = true := by simp; omega
    have g2 : sameL l m = false := by
      unfold sameL
      refine decide_eq_false fun e => hnq ?_
      rw [← h.len, ← h2.len, e]
    go_enter Try.func13, Try.ntmps13
    go_wp2_with fail
    go_ret
    exact ⟨by rw [g2]; rfl, 0, rfl⟩
end Go.Proofs.Ytdmbllokajolhaa
