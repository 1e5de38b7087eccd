/-
  Whether two replies are alike.
-/
import Derived.Test.YtpikdeikcmdcmaaEqual
namespace Go.Proofs.Ytpikdeikcmdcmaa
open Go.RowKit
/-- a reply -/
structure Rp where
  num : Int
  zxid : Int
  err : Int
  place : Int
  res : List Re
deriving DecidableEq
def aggP (num zxid err place : Int) (v : Value) : Value := .agg #[.int .i64 num, .int .i64 zxid, .int .i64 err, .int .i64 place, v]

set_option maxHeartbeats 1000000 in
theorem same_any (a b c d : Int) (ao : Option Addr) (n k : Nat) (l : List (Re × Value)) (e f g i : Int) (bo : Option Addr) (q k2 : Nat) (m : List (Re × Value)) (w : World) (h : IsRes w ao n l) (h2 : IsRes w bo q m) (hn : n ≤ 1000000) (hq : q ≤ 1000000) :
    Calls Try.prog 18 #[aggP a b c d (.slice ao n k), aggP e f g i (.slice bo q k2)] w fun x w' => x = .returned (.bool (decide ((⟨a, b, c, d, resL l⟩ : Rp) = ⟨e, f, g, i, resL m⟩))) ∧ Below w.heap.size w w' := by
  have HC := Lib.hid (fun (W : World) (hb : Below w.heap.size w W) => alikeL_any ao n k l bo q k2 m W (h.below hb) (h2.below hb) hn hq)
  clear h h2
  simp only [aggP]
  by_cases h1 : a = e
  · subst h1
    have g1 : (a == a) = true := by simp
    by_cases h2 : b = f
    · subst h2
      have g2 : (b == b) = true := by simp
      by_cases h3 : c = g
      · subst h3
        have g3 : (c == c) = true := by simp
        by_cases h4 : d = i
        · subst h4
          have g4 : (d == d) = true := by simp
          go_enter Try.func18, Try.ntmps18
          go_wp2_with fail
          refine (HC.out _ (below_two _ _ _)).mono ?_
          rintro x w1 ⟨rfl, hb1⟩
          have HB := Lib.hid ((below_two _ _ _).trans (hb1.mono (below_two _ _ _).size)); clear hb1
          generalize hz : decide (resL l = resL m) = z
          have HZ := Lib.hid hz; clear hz
          go_wp2_with fail
          go_ret
          exact ⟨by rw [← HZ.out]; simp, HB.out⟩
        · have g4 : (d == i) = false := by simpa using h4
          go_enter Try.func18, Try.ntmps18
          go_wp2_with fail
          go_ret
          exact ⟨by simp [h4], below_two _ _ _⟩
      · have g3 : (c == g) = false := by simpa using h3
        go_enter Try.func18, Try.ntmps18
        go_wp2_with fail
        go_ret
        exact ⟨by simp [h3], below_two _ _ _⟩
    · have g2 : (b == f) = false := by simpa using h2
      go_enter Try.func18, Try.ntmps18
      go_wp2_with fail
      go_ret
      exact ⟨by simp [h2], below_two _ _ _⟩
  · have g1 : (a == e) = false := by simpa using h1
    go_enter Try.func18, Try.ntmps18
    go_wp2_with fail
    go_ret
    exact ⟨by simp [h1], below_two _ _ _⟩

set_option maxHeartbeats 1000000 in
theorem rsame_any (a b c d : Int) (ao : Option Addr) (n k : Nat) (l : List (Re × Value)) (e f g i : Int) (bo : Option Addr) (q k2 : Nat) (m : List (Re × Value)) (w : World) (h : IsRes w ao n l) (h2 : IsRes w bo q m) (hn : n ≤ 1000000) (hq : q ≤ 1000000) :
    Calls Try.prog 19 #[aggP a b c d (.slice ao n k), aggP e f g i (.slice bo q k2)] w fun x w' => x = .returned (.bool (decide ((⟨a, b, c, d, resL l⟩ : Rp) = ⟨e, f, g, i, resL m⟩))) ∧ Below w.heap.size w w' := by
  have HC := Lib.hid (fun (W : World) (hb : Below w.heap.size w W) => rall_any ao n k l bo q k2 m W (h.below hb) (h2.below hb) hn hq)
  clear h h2
  simp only [aggP]
  by_cases h1 : a = e
  · subst h1
    have g1 : (a == a) = true := by simp
    by_cases h2 : b = f
    · subst h2
      have g2 : (b == b) = true := by simp
      by_cases h3 : c = g
      · subst h3
        have g3 : (c == c) = true := by simp
        by_cases h4 : d = i
        · subst h4
          have g4 : (d == d) = true := by simp
          go_enter Try.func19, Try.ntmps19
          go_wp2_with fail
          refine (HC.out _ (below_two _ _ _)).mono ?_
          rintro x w1 ⟨rfl, hb1⟩
          have HB := Lib.hid ((below_two _ _ _).trans (hb1.mono (below_two _ _ _).size)); clear hb1
          generalize hz : decide (resL l = resL m) = z
          have HZ := Lib.hid hz; clear hz
          go_wp2_with fail
          go_ret
          exact ⟨by rw [← HZ.out]; simp, HB.out⟩
        · have g4 : (d == i) = false := by simpa using h4
          go_enter Try.func19, Try.ntmps19
          go_wp2_with fail
          go_ret
          exact ⟨by simp [h4], below_two _ _ _⟩
      · have g3 : (c == g) = false := by simpa using h3
        go_enter Try.func19, Try.ntmps19
        go_wp2_with fail
        go_ret
        exact ⟨by simp [h3], below_two _ _ _⟩
    · have g2 : (b == f) = false := by simpa using h2
      go_enter Try.func19, Try.ntmps19
      go_wp2_with fail
      go_ret
      exact ⟨by simp [h2], below_two _ _ _⟩
  · have g1 : (a == e) = false := by simpa using h1
    go_enter Try.func19, Try.ntmps19
    go_wp2_with fail
    go_ret
    exact ⟨by simp [h1], below_two _ _ _⟩
end Go.Proofs.Ytpikdeikcmdcmaa
