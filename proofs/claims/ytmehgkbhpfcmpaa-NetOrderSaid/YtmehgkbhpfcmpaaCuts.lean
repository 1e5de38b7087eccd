/-
  A way that is cut loses what is sent both ways, others nothing: the walk.
-/
import Derived.Test.YtmehgkbhpfcmpaaAw
namespace Go.Proofs.Ytmehgkbhpfcmpaa
open Go.RowKit

def same2 (a b c d : Int) : Bool := ((a == c) && (b == d)) || ((a == d) && (b == c))
theorem way_same (a b c d : Int) : (way a b == way c d) = same2 a b c d := by
  unfold way same2
  rw [Bool.eq_iff_iff]
  simp only [beq_iff_eq, Prod.mk.injEq, Bool.or_eq_true, Bool.and_eq_true]
  constructor
  · intro ⟨h1, h2⟩
    split at h1 <;> split at h1 <;> split at h2 <;> split at h2 <;> omega
  · intro h
    rcases h with ⟨rfl, rfl⟩ | ⟨rfl, rfl⟩
    · exact ⟨rfl, rfl⟩
    · constructor
      · split <;> split <;> omega
      · split <;> split <;> omega
theorem node5 (c : Int) (h1 : 0 ≤ c) (h2 : c ≤ 4) (l : List Ms) : isNode ⟨5, 100, l⟩ c = true := by
  unfold isNode
  rw [decide_eq_true h1, decide_eq_true (show c < 5 by omega)]
  rfl
theorem cuts_send (a b c d : Int) (h1 : 0 ≤ c) (h2 : c ≤ 4) (h3 : 0 ≤ d) (h4 : d ≤ 4) : sendAll (newN 5 100) [(way a b, true)] [⟨c, d, 0, []⟩] = if same2 a b c d = true then newN 5 100 else ⟨5, 100, [⟨c, d, 0, []⟩]⟩ := by
  have hc : cutOf [(way a b, true)] (way c d) = same2 a b c d := by
    unfold cutOf
    rw [← way_same]
    cases h : (way a b == way c d)
    · simp [List.find?, h]
    · simp [List.find?, h]
  show sendOne (newN 5 100) [(way a b, true)] ⟨c, d, 0, []⟩ = _
  unfold sendOne goes
  rw [show newN 5 100 = ⟨5, 100, []⟩ from rfl, node5 c h1 h2, node5 d h3 h4, hc]
  cases same2 a b c d <;> rfl
theorem cuts_send2 (a b : Int) (l : List Ms) (hl : l.length ≤ 10) (h1 : 0 ≤ a) (h2 : a ≤ 4) (h3 : 0 ≤ b) (h4 : b ≤ 4) : sendAll ⟨5, 100, l⟩ [] [⟨a, b, 0, []⟩, ⟨b, a, 0, []⟩] = ⟨5, 100, l ++ [⟨a, b, 0, []⟩] ++ [⟨b, a, 0, []⟩]⟩ := by
  show sendOne (sendOne ⟨5, 100, l⟩ [] ⟨a, b, 0, []⟩) [] ⟨b, a, 0, []⟩ = _
  have e1 : sendOne ⟨5, 100, l⟩ [] ⟨a, b, 0, []⟩ = ⟨5, 100, l ++ [⟨a, b, 0, []⟩]⟩ := by
    unfold sendOne goes
    rw [node5 a h1 h2, node5 b h3 h4, decide_eq_true (show (l.length : Int) < 100 by omega)]
    rfl
  rw [e1]
  unfold sendOne goes
  rw [node5 a h1 h2, node5 b h3 h4, decide_eq_true (show ((l ++ [(⟨a, b, 0, []⟩ : Ms)]).length : Int) < 100 by simp; omega)]
  rfl

theorem lit_sc {z : Int} (h : (Lit.int .i64 z).wf = true) : -9223372036854775808 ≤ z ∧ z ≤ 9223372036854775807 := by
  simp only [Lit.wf, IntKind.min, IntKind.max, IntKind.signed, IntKind.bits, Bool.and_eq_true, decide_eq_true_eq, if_true] at h
  omega
set_option maxHeartbeats 8000000 in
set_option maxRecDepth 100000 in
theorem cuts_any (a b c d : Int) (W : World) (ha1 : -9223372036854775808 ≤ a) (ha2 : a ≤ 9223372036854775807) (hb1 : -9223372036854775808 ≤ b) (hb2 : b ≤ 9223372036854775807) (hc1 : -9223372036854775808 ≤ c) (hc2 : c ≤ 9223372036854775807) (hd1 : -9223372036854775808 ≤ d) (hd2 : d ≤ 9223372036854775807) :
    Calls Try.prog 3 #[.int .i64 a, .int .i64 b, .int .i64 c, .int .i64 d] W fun e w' => e = .returned (.bool true) ∧ Below W.heap.size W w' := by
  have HA := Lib.hid (awake_any W)
  by_cases hbad : a < 0 ∨ 4 < a ∨ b < 0 ∨ 4 < b ∨ c < 0 ∨ 4 < c ∨ d < 0 ∨ 4 < d
  · have hq : a < 0 ∨ (0 ≤ a ∧ 4 < a) ∨ (0 ≤ a ∧ a ≤ 4 ∧ b < 0) ∨ (0 ≤ a ∧ a ≤ 4 ∧ 0 ≤ b ∧ 4 < b) ∨ (0 ≤ a ∧ a ≤ 4 ∧ 0 ≤ b ∧ b ≤ 4 ∧ c < 0) ∨ (0 ≤ a ∧ a ≤ 4 ∧ 0 ≤ b ∧ b ≤ 4 ∧ 0 ≤ c ∧ 4 < c) ∨ (0 ≤ a ∧ a ≤ 4 ∧ 0 ≤ b ∧ b ≤ 4 ∧ 0 ≤ c ∧ c ≤ 4 ∧ d < 0) ∨ (0 ≤ a ∧ a ≤ 4 ∧ 0 ≤ b ∧ b ≤ 4 ∧ 0 ≤ c ∧ c ≤ 4 ∧ 0 ≤ d ∧ 4 < d) := by omega
    clear hbad ha1 ha2 hb1 hb2 hc1 hc2 hd1 hd2
    rcases hq with q1 | ⟨q1, q2⟩ | ⟨q1, q2, q3⟩ | ⟨q1, q2, q3, q4⟩ | ⟨q1, q2, q3, q4, q5⟩ | ⟨q1, q2, q3, q4, q5, q6⟩ | ⟨q1, q2, q3, q4, q5, q6, q7⟩ | ⟨q1, q2, q3, q4, q5, q6, q7, q8⟩
    all_goals
      go_enter Try.func3, Try.ntmps3
      go_wp2_with fail
      refine HA.out.mono ?_
      rintro e w1 ⟨rfl, hb1⟩
      have HB1 := Lib.hid hb1; clear hb1
      go_wp2_with fail
      go_ret
      exact ⟨rfl, HB1.out⟩
  · obtain ⟨q1, q2, q3, q4, q5, q6, q7, q8⟩ : 0 ≤ a ∧ a ≤ 4 ∧ 0 ≤ b ∧ b ≤ 4 ∧ 0 ≤ c ∧ c ≤ 4 ∧ 0 ≤ d ∧ d ≤ 4 := by omega
    clear hbad ha1 ha2 hb1 hb2 hc1 hc2 hd1 hd2
    have HS1 := Lib.hid (cuts_send a b c d q5 q6 q7 q8)
    have HS2 := Lib.hid (fun l hl => cuts_send2 a b l hl q1 q2 q3 q4)
    have HNA := Lib.hid (node5 a q1 q2 [])
    have HNB := Lib.hid (node5 b q3 q4 [])
    have hsm : same2 a b c d = (((a == c) && (b == d)) || ((a == d) && (b == c))) := rfl
    generalize same2 a b c d = sm at *
    have HSM := Lib.hid hsm; clear hsm
    go_enter Try.func3, Try.ntmps3
    go_wp2_with fail
    refine HA.out.mono ?_
    rintro e w1 ⟨rfl, hb1⟩
    have HB1 := Lib.hid hb1; clear hb1
    go_wp2_with fail
    refine (new_ours W w1 W.heap.size 5 100 (by decide) (by decide) (by decide) (by decide) HB1.out HB1.out.size).mono ?_
    rintro e w2 ⟨p, rfl, hu⟩
    have HU2 := Lib.hid hu; clear hu
    go_wp2_with fail
    refine (cut_any HU2.out a b true HNA.out HNB.out (by decide)).mono ?_
    rintro e w3 ⟨rfl, hu⟩
    have HU3 := Lib.hid hu; clear hu
    go_wp2_with fail
    obtain ⟨xv, hxv⟩ : ∃ xv : Int, xv = if sm = true then 0 else 1 := ⟨_, rfl⟩
    have HXV := Lib.hid hxv; clear hxv
    refine (send_ours HU3.out (ready1 w3 c d 0) 1 (Nat.le_refl _) (by simp [newN]) (by decide) (by decide) xv 1 rfl (if sm = true then newN 5 100 else ⟨5, 100, [⟨c, d, 0, []⟩]⟩) HS1.out (by rw [HXV.out]; cases sm <;> rfl)).mono ?_
    rintro e w4 ⟨rfl, hu⟩
    have HU4 := Lib.hid hu; clear hu
    go_upto_region 8 with (fail)
    go_cut [12] (fun u wx => u = .bool sm ∧ wx = w4)
    case first =>
      cases h1 : (a == c) <;> cases h2 : (b == d) <;> cases h3 : (a == d) <;> cases h4 : (b == c)
      all_goals
        go_wp2_with fail
        go_meet
        exact ⟨by rw [HSM.out, h1, h2, h3, h4]; rfl, rfl⟩
    case rest =>
      obtain ⟨rfl, rfl⟩ := hcut
      clear HSM
      have hfin : ∀ l : List Ms, l.length ≤ 10 → ∀ w5, OursN W w5 W.heap.size p ⟨5, 100, l⟩ [] → Calls Try.prog 11 #[.pointer (some ⟨p, 0, none⟩), .slice (some ⟨w5.heap.size, 0, none⟩) 2 2] (w5.alloc (.cells #[.int .i64 a, .int .i64 b, .int .i64 0, .slice none 0 0, .slice none 0 0, .int .i64 b, .int .i64 a, .int .i64 0, .slice none 0 0, .slice none 0 0] 32)) fun e w' => e = .returned (.int .i64 2) ∧ Below W.heap.size W w' := by
        intro l hl w5 h5
        refine (send_ours h5 (ready2 w5 a b 0 b a 0) 2 (Nat.le_refl _) (by simp; omega) (by show (5 : Int) ≤ 64; omega) (by show (100 : Int) ≤ 65536; omega) 2 2 rfl _ (HS2.out l hl) (by simp)).mono ?_
        rintro e w' ⟨rfl, hu⟩
        exact ⟨rfl, hu.below⟩
      have HFIN := Lib.hid hfin; clear hfin
      have HU4' : Hid (∃ l : List Ms, l.length ≤ 10 ∧ OursN W wc W.heap.size p ⟨5, 100, l⟩ [(way a b, true)]) := Lib.hid (by
        cases sm
        · exact ⟨[⟨c, d, 0, []⟩], by simp, HU4.out⟩
        · exact ⟨[], by simp, HU4.out⟩)
      obtain ⟨l, hl, hu4⟩ := HU4'.out
      have HH := Lib.hid (heal_any hu4)
      clear HU4 HU4' HS1 hu4
      have hx1 : sm = false → xv = 1 := fun h => by rw [HXV.out, h]; rfl
      have hx2 : sm = true → xv = 0 := fun h => by rw [HXV.out, h]; rfl
      clear HXV
      cases sm
      all_goals
        first
          | (obtain rfl := hx1 rfl)
          | (obtain rfl := hx2 rfl)
        clear hx1 hx2
        go_wp2_with fail
        refine HH.out.mono ?_
        rintro e w5 ⟨rfl, hu⟩
        have HU5 := Lib.hid hu; clear hu
        go_wp2_with fail
        refine (HFIN.out l hl w5 HU5.out).mono ?_
        rintro e w6 ⟨rfl, hb⟩
        have HBF := Lib.hid hb; clear hb
        go_wp2_with fail
        go_ret
        exact ⟨rfl, HBF.out⟩
theorem cuts_said (a b c d : Int) (W : World) (h0 : (Lit.int .i64 a).wf = true) (h1 : (Lit.int .i64 b).wf = true) (h2 : (Lit.int .i64 c).wf = true) (h3 : (Lit.int .i64 d).wf = true) :
    Calls Try.prog 3 #[.int .i64 a, .int .i64 b, .int .i64 c, .int .i64 d] W fun e w' => e = .returned (.bool true) ∧ Below W.heap.size W w' :=
  cuts_any a b c d W (lit_sc h0).1 (lit_sc h0).2 (lit_sc h1).1 (lit_sc h1).2 (lit_sc h2).1 (lit_sc h2).2 (lit_sc h3).1 (lit_sc h3).2
end Go.Proofs.Ytmehgkbhpfcmpaa
