/-
  No more wait than there may be; what does not fit is lost, and told so: the walk.
-/
import Derived.Test.YtmehgkbhpfcmpaaKnown
import Derived.Test.YtmehgkbhpfcmpaaCuts
namespace Go.Proofs.Ytmehgkbhpfcmpaa
open Go.RowKit

/-- the messages that wait when k have been sent -/
def fullL (q : Nat) : List Ms := (List.range q).map fun i : Nat => ⟨0, 1, (i : Int), []⟩
def fullN (room : Int) (q : Nat) : Nt := ⟨2, room, fullL q⟩
theorem fullL_len (q : Nat) : (fullL q).length = q := by simp [fullL]
theorem fullL_at (q i : Nat) (h : i < q) : (fullL q).getD i m0 = ⟨0, 1, (i : Int), []⟩ := by
  simp [fullL, h]
theorem full_send (room : Int) (q k : Nat) (hq : (q : Int) = min (k : Int) room) : sendAll (fullN room q) [] [⟨0, 1, (k : Int), []⟩] = fullN room (if (k : Int) < room then q + 1 else q) := by
  show sendOne (fullN room q) [] ⟨0, 1, (k : Int), []⟩ = _
  unfold sendOne goes
  have h1 : isNode (fullN room q) 0 = true := rfl
  have h2 : isNode (fullN room q) 1 = true := rfl
  have h3 : cutOf [] (way 0 1) = false := rfl
  have h4 : ((fullN room q).l.length : Int) = q := by simp [fullN, fullL_len]
  have h5 : (fullN room q).room = room := rfl
  rw [h1, h2, h3, h4, h5]
  by_cases hr : (k : Int) < room
  · have hqk : q = k := by omega
    subst hqk
    rw [if_pos hr, if_pos (by simp [hr])]
    simp [fullN, fullL, List.range_succ]
  · rw [if_neg hr, if_neg (by simp; omega)]
theorem full_len (room : Int) (q : Nat) : (fullN room q).l.length = q := fullL_len q
theorem full_get (room : Int) (q i : Nat) (h : i < q) : getN (fullN room q) i = ⟨0, 1, (i : Int), []⟩ := fullL_at q i h

set_option maxHeartbeats 8000000 in
set_option maxRecDepth 100000 in
theorem full_any (room n : Int) (W : World) (ha1 : -9223372036854775808 ≤ room) (ha2 : room ≤ 9223372036854775807) (hb1 : -9223372036854775808 ≤ n) (hb2 : n ≤ 9223372036854775807) :
    Calls Try.prog 7 #[.int .i64 room, .int .i64 n] W fun e w' => e = .returned (.bool true) ∧ Below W.heap.size W w' := by
  have HA := Lib.hid (awake_any W)
  by_cases hbad : room < 1 ∨ 100 < room ∨ n < 0 ∨ 150 < n
  · have hq : room < 1 ∨ (1 ≤ room ∧ 100 < room) ∨ (1 ≤ room ∧ room ≤ 100 ∧ n < 0) ∨ (1 ≤ room ∧ room ≤ 100 ∧ 0 ≤ n ∧ 150 < n) := by omega
    clear hbad ha1 ha2 hb1 hb2
    rcases hq with q1 | ⟨q1, q2⟩ | ⟨q1, q2, q3⟩ | ⟨q1, q2, q3, q4⟩
    all_goals
      go_enter Try.func7, Try.ntmps7
      go_wp2_with fail
      refine HA.out.mono ?_
      rintro e w1 ⟨rfl, hb1⟩
      have HB1 := Lib.hid hb1; clear hb1
      go_wp2_with fail
      go_ret
      exact ⟨rfl, HB1.out⟩
  · obtain ⟨q1, q2, q3, q4⟩ : 1 ≤ room ∧ room ≤ 100 ∧ 0 ≤ n ∧ n ≤ 150 := by omega
    clear hbad ha1 ha2 hb1 hb2
    obtain ⟨N, rfl⟩ := Int.eq_ofNat_of_zero_le q3
    obtain ⟨R, rfl⟩ := Int.eq_ofNat_of_zero_le (show 0 ≤ room by omega)
    have HN := Lib.hid (fun w1 (hb : Below W.heap.size W w1) => new_ours W w1 W.heap.size 2 (R : Int) (by decide) (by decide) (by omega) (by omega) hb hb.size)
    go_enter Try.func7, Try.ntmps7
    go_wp2_with fail
    refine HA.out.mono ?_
    rintro e w1 ⟨rfl, hb1⟩
    have HB1 := Lib.hid hb1; clear hb1
    go_wp2_with fail
    refine (HN.out w1 HB1.out).mono ?_
    rintro e w2 ⟨a, rfl, hu⟩
    have HU2 : Hid (OursN W w2 W.heap.size a (fullN (R : Int) 0) []) := Lib.hid hu
    clear hu
    go_wp2_with fail
    go_loopw [7, 8] (fun t i wr => ∃ (k q : Nat), k ≤ N ∧ i = .int .i64 (k : Int) ∧ q = min k R ∧ t = .int .i64 (q : Int) ∧ OursN W wr W.heap.size a (fullN (R : Int) q) []) (fun _ i _ => N - (intOf i).toNat)
    case atStart => exact ⟨0, 0, by omega, rfl, by omega, rfl, HU2.out⟩
    case round =>
      obtain ⟨k, q, hk, rfl, hq, rfl, hu⟩ := hrel
      have HU := Lib.hid hu; clear hu
      by_cases hlt : k < N
      · have HS := Lib.hid (full_send (R : Int) q k (by omega))
        by_cases hr : k < R
        · have hqk : q = k := by omega
          have HS2 := Lib.hid (send_ours HU.out (ready1 wr 0 1 (k : Int)) 1 (Nat.le_refl _) (by rw [full_len]; simp; omega) (by show (2 : Int) ≤ 64; omega) (by show (R : Int) ≤ 65536; omega) 1 1 rfl (fullN (R : Int) (q + 1)) (by rw [HS.out, if_pos (by omega)]) (by rw [full_len, full_len]; omega))
          go_wp2_with fail
          refine HS2.out.mono ?_
          rintro e w4 ⟨rfl, hu⟩
          have HU4 := Lib.hid hu; clear hu
          go_wp2_with fail
          go_roundw
          case rel => exact ⟨k + 1, q + 1, by omega, by go_num, by omega, by go_num, HU4.out⟩
          case measure => simp [intOf]; omega
        · have HS2 := Lib.hid (send_ours HU.out (ready1 wr 0 1 (k : Int)) 1 (Nat.le_refl _) (by rw [full_len]; simp; omega) (by show (2 : Int) ≤ 64; omega) (by show (R : Int) ≤ 65536; omega) 0 1 rfl (fullN (R : Int) q) (by rw [HS.out, if_neg (by omega)]) (by rw [full_len]; omega))
          go_wp2_with fail
          refine HS2.out.mono ?_
          rintro e w4 ⟨rfl, hu⟩
          have HU4 := Lib.hid hu; clear hu
          go_wp2_with fail
          go_roundw
          case rel => exact ⟨k + 1, q, by omega, by go_num, by omega, by first | rfl | (rw [← hq]), HU4.out⟩
          case measure => simp [intOf]; omega
      · obtain rfl : k = N := by omega
        have hq150 : q ≤ 150 := by omega
        by_cases h0 : k = 0
        · subst h0
          obtain rfl : q = 0 := by omega
          clear hlt hk hq
          have hR : ¬ ((R : Int) < 0) := by omega
          go_wp2_with fail
          refine (at_no HU.out (-1) rfl).mono ?_
          rintro e w4 ⟨rfl, hu⟩
          unfold msgV
          have HU4 := Lib.hid (hu.later ((Below.refl _ _).alloc (Nat.le_refl _) zeros5)); clear hu
          unfold zeros5 at HU4
          have HLN := Lib.hid (len_ours HU4.out)
          rw [full_len] at HLN
          go_wp2_with fail
          refine HLN.out.mono ?_
          rintro e w5 ⟨rfl, rfl⟩
          go_wp2_with fail
          refine (copy_no HU4.out 0 (.inl rfl)).mono ?_
          rintro e w6 ⟨rfl, hu⟩
          have HB6 := Lib.hid hu.below; clear hu
          go_wp2_with fail
          go_ret
          exact ⟨rfl, HB6.out⟩
        · have hqp : 0 < q := by omega
          have hat : Calls Try.prog 14 #[.pointer (some ⟨a, 0, none⟩), .int .i64 ((q : Int) - 1)] wr fun e w' => ∃ v, e = .returned (.tuple #[.agg #[.int .i64 0, .int .i64 1, .int .i64 ((q : Int) - 1), v, .slice none 0 0], .bool true]) ∧ OwnI w' wr.heap.size 2 v [] ∧ OursN W w' W.heap.size a (fullN (R : Int) q) [] := by
            have h1 := at_yes HU.out (q - 1) (by rw [full_len]; omega) (by rw [full_len]; omega) (by rw [full_get _ _ _ (by omega)]; exact Nat.zero_le _)
            rw [full_get _ _ _ (by omega), show ((q - 1 : Nat) : Int) = (q : Int) - 1 by omega] at h1
            exact h1
          have HAT := Lib.hid hat; clear hat
          have hw1 : IntKind.i64.wrap ((q : Int) - 1) = (q : Int) - 1 := IntWalk.i64_in _ (by omega)
          have hw2 : ((q : Int) - 1 == (q : Int) - 1) = true := by simp
          have hw3 : ((q : Int) == 0) = false := by simp; omega
          have hw4 : decide ((0 : Int) < (q : Int)) = true := decide_eq_true (by omega)
          have hw5 : 0 < q := hqp
          have hw6 : ¬ (q = 0) := by omega
          by_cases hkr : R < k
          · obtain rfl : q = R := by omega
            have hg : (q : Int) < (k : Int) := by omega
            have hlr : decide ((q : Int) < (q : Int)) = false := decide_eq_false (by omega)
            clear hq hk hlt hqp h0
            go_wp2_with fail
            refine HAT.out.mono ?_
            rintro e w4 ⟨v, rfl, hv, hu⟩
            obtain ⟨av, cv, rfl, _⟩ := hv.isI
            have HU4 := Lib.hid (hu.later ((Below.refl _ _).alloc (Nat.le_refl _) (.cells #[.int .i64 0, .int .i64 1, .int .i64 ((q : Int) - 1), .slice av 0 cv, .slice none 0 0] 32)))
            clear hu hv
            have HLN := Lib.hid (len_ours HU4.out)
            rw [full_len] at HLN
            go_wp2_with fail
            refine HLN.out.mono ?_
            rintro e w5 ⟨rfl, rfl⟩
            have HCP := Lib.hid (copy_no HU4.out 0 (.inr (by rw [full_len]; show (q : Int) ≤ (q : Int); omega)))
            go_wp2_with fail
            refine HCP.out.mono ?_
            rintro e w6 ⟨rfl, hu⟩
            have HB6 := Lib.hid hu.below; clear hu
            go_wp2_with fail
            go_ret
            exact ⟨rfl, HB6.out⟩
          · obtain rfl : q = k := by omega
            have hg : ¬ ((R : Int) < (q : Int)) := by omega
            by_cases hlr : q < R
            · have hlr2 : decide ((q : Int) < (R : Int)) = true := decide_eq_true (by omega)
              clear hq hk hlt hqp h0
              go_wp2_with fail
              refine HAT.out.mono ?_
              rintro e w4 ⟨v, rfl, hv, hu⟩
              obtain ⟨av, cv, rfl, _⟩ := hv.isI
              have HU4 := Lib.hid (hu.later ((Below.refl _ _).alloc (Nat.le_refl _) (.cells #[.int .i64 0, .int .i64 1, .int .i64 ((q : Int) - 1), .slice av 0 cv, .slice none 0 0] 32)))
              clear hu hv
              have HLN := Lib.hid (len_ours HU4.out)
              rw [full_len] at HLN
              go_wp2_with fail
              refine HLN.out.mono ?_
              rintro e w5 ⟨rfl, rfl⟩
              have HCP := Lib.hid (copy_ok HU4.out 0 (by rw [full_len]; exact hw5) (by rw [full_len]; show (q : Int) < (R : Int); omega) (by show (R : Int) ≤ 65536; omega) (by rw [full_get _ _ _ hw5]; exact Nat.zero_le _))
              go_wp2_with fail
              refine HCP.out.mono ?_
              rintro e w6 ⟨rfl, hu⟩
              have HB6 := Lib.hid hu.below; clear hu
              go_wp2_with fail
              go_ret
              exact ⟨rfl, HB6.out⟩
            · obtain rfl : q = R := by omega
              have hlr2 : decide ((q : Int) < (q : Int)) = false := decide_eq_false (by omega)
              clear hq hk hlt hqp h0
              go_wp2_with fail
              refine HAT.out.mono ?_
              rintro e w4 ⟨v, rfl, hv, hu⟩
              obtain ⟨av, cv, rfl, _⟩ := hv.isI
              have HU4 := Lib.hid (hu.later ((Below.refl _ _).alloc (Nat.le_refl _) (.cells #[.int .i64 0, .int .i64 1, .int .i64 ((q : Int) - 1), .slice av 0 cv, .slice none 0 0] 32)))
              clear hu hv
              have HLN := Lib.hid (len_ours HU4.out)
              rw [full_len] at HLN
              go_wp2_with fail
              refine HLN.out.mono ?_
              rintro e w5 ⟨rfl, rfl⟩
              have HCP := Lib.hid (copy_no HU4.out 0 (.inr (by rw [full_len]; show (q : Int) ≤ (q : Int); omega)))
              go_wp2_with fail
              refine HCP.out.mono ?_
              rintro e w6 ⟨rfl, hu⟩
              have HB6 := Lib.hid hu.below; clear hu
              go_wp2_with fail
              go_ret
              exact ⟨rfl, HB6.out⟩
theorem full_said (room n : Int) (W : World) (h0 : (Lit.int .i64 room).wf = true) (h1 : (Lit.int .i64 n).wf = true) :
    Calls Try.prog 7 #[.int .i64 room, .int .i64 n] W fun e w' => e = .returned (.bool true) ∧ Below W.heap.size W w' := full_any room n W (lit_sc h0).1 (lit_sc h0).2 (lit_sc h1).1 (lit_sc h1).2
end Go.Proofs.Ytmehgkbhpfcmpaa
