/-
  The walk of VecRises: it returns true, and no memory that was there turns. Condition: each slice has at most 17592186044415 elements.
-/
import Derived.Test.YteiaejehdjekmaaKnown
import Derived.Test.YteiaejehdjekmaaQuiet
namespace Go.Proofs.Yteiaejehdjekmaa
open Go.RowKit

set_option maxHeartbeats 400000 in
theorem rises_out (ao bo : Option Addr) (n c n2 c2 : Nat) (w : World) (t1 t2 : Bool) (h1 : decide ((n : Int) < 1) = t1) (h2 : t1 = false → decide (4 < (n : Int)) = t2) (h3 : t1 = false → t2 = false → ((n2 : Int) != (n : Int)) = true) :
    Calls Try.prog 6 #[.slice ao n c, .slice bo n2 c2] w fun e w' => e = .returned (.bool true) ∧ Below w.heap.size w w' := by
  go_enter Try.func6, Try.ntmps6
  go_wp2_with fail
  refine (awake_any _).mono ?_
  rintro e w1 ⟨rfl, hb⟩
  go_wp2_with fail
  all_goals go_ret
  all_goals exact ⟨rfl, hb⟩

/-- what one has seen that has seen nothing before -/
def seen (n : Nat) (l : List Int) : List Int := rjoinTo (List.replicate n 0) l n
theorem seen_len (n : Nat) (l : List Int) : (seen n l).length = n := by simp [seen, rjoinTo_len]
theorem seen_at (n : Nat) (l : List Int) (j : Nat) (h : j < n) : (seen n l).getD j 0 = max 0 (l.getD j 0) := by
  unfold seen
  rw [rjoinTo_at _ _ _ _ (by simpa using h), if_pos h]
  congr 1
  simp [h]
theorem joinL_at (l m : List Int) (h : l.length = m.length) (j : Nat) (hj : j < l.length) : (joinL l m).getD j 0 = max (l.getD j 0) (m.getD j 0) := by
  unfold joinL
  rw [maxTo_at _ _ _ _ hj, if_pos (by omega)]
theorem zero_at (n j : Nat) : (List.replicate n (0 : Int)).getD j 0 = 0 := by
  by_cases h : j < n <;> simp [h]

/-- what the law's third one holds -/
theorem rises_z (n : Nat) (a b : List Int) : (joinAll (List.replicate n 0) [seen n a, seen n b]).length = n ∧ ∀ j, j < n → (joinAll (List.replicate n 0) [seen n a, seen n b]).getD j 0 = max ((seen n a).getD j 0) ((seen n b).getD j 0) := by
  refine ⟨by rw [joinAll_len]; simp, fun j hj => ?_⟩
  show (joinL (joinL (List.replicate n 0) (seen n a)) (seen n b)).getD j 0 = _
  rw [joinL_at _ _ (by rw [joinL_len, seen_len]; simp) _ (by rw [joinL_len]; simpa using hj), joinL_at _ _ (by rw [seen_len]; simp) _ (by simpa using hj), zero_at, seen_at n a j hj]
  omega

set_option maxHeartbeats 2000000 in
theorem rises_in (ao bo : Option Addr) (n c c2 : Nat) (la lb : List Int) (w : World) (ha : IsI w ao n c la) (hb : IsI w bo n c2 lb) (h1 : 1 ≤ n) (h4 : n ≤ 4) :
    Calls Try.prog 6 #[.slice ao n c, .slice bo n c2] w fun e w' => e = .returned (.bool true) ∧ Below w.heap.size w w' := by
  have d1 : decide ((n : Int) < 1) = false := by simp; omega
  have d2 : decide ((4 : Int) < (n : Int)) = false := by simp; omega
  have d3 : ((n : Int) != (n : Int)) = false := by simp
  rcases ha.at_ with h0 | ⟨ba, oa, rfl, hca⟩
  · omega
  rcases hb.at_ with h0 | ⟨bb, ob, rfl, hcb⟩
  · omega
  have HA := Lib.hid hca
  have HB := Lib.hid hcb
  clear ha hb hca hcb
  go_enter Try.func6, Try.ntmps6
  go_wp2_with fail
  refine (awake_any _).mono ?_
  rintro e w1 ⟨rfl, hb⟩
  go_wp2_with fail
  refine (new_ok n _ h1 h4).mono ?_
  rintro e w2 ⟨rfl, hx, ho, hs⟩
  have hb2 : Below w.heap.size w w2 := hb.trans (ho.below hb.size (by intro k hk; cases hk))
  have hB := hb.size
  generalize w1.heap.size = B at hx hs hB
  clear hb ho
  go_wp2_with fail
  refine (new_ok n _ h1 h4).mono ?_
  rintro e w3 ⟨rfl, hy, ho, hs3⟩
  have hx3 := hx.only ho (by simp) (by simp)
  have hb3 : Below w.heap.size w w3 := hb2.trans (ho.below hb2.size (by intro k hk; cases hk))
  rw [hs] at hy hs3 ⊢
  clear hx hb2 ho hs
  go_wp2_with fail
  refine (new_ok n _ h1 h4).mono ?_
  rintro e w4 ⟨rfl, hz, ho, hs4⟩
  have hx4 := hx3.only ho (by simp) (by simp)
  have hy4 := hy.only ho (by simp) (by simp)
  have hb4 : Below w.heap.size w w4 := hb3.trans (ho.below hb3.size (by intro k hk; cases hk))
  rw [hs3] at hz hs4 ⊢
  clear hx3 hy hb3 ho hs3
  go_wp2_with fail
  go_loopw [11] (fun i wr => ∃ k : Nat, k ≤ n ∧ i = .int .i64 k ∧ IsV 48 wr (B + 1) B (rjoinTo (List.replicate n 0) la k) ∧ IsV 48 wr (B + 2 + 1) (B + 2) (rjoinTo (List.replicate n 0) lb k) ∧ IsV 48 wr (B + 2 + 2 + 1) (B + 2 + 2) (List.replicate n 0) ∧ Below w.heap.size w wr) (fun i _ => n - (intOf i).toNat)
  case atStart => exact ⟨0, Nat.zero_le _, rfl, hx4, hy4, hz, hb4⟩
  case round =>
    obtain ⟨k, hk, rfl, hxr, hyr, hzr, hbr⟩ := hrel
    clear hx4 hy4 hz hb4
    by_cases hlt : k < n
    · have hc1 := cell_later hbr (HA.out k hlt)
      have hc2 := HB.out k hlt
      have HR := Lib.hid (show rjoinTo (List.replicate n 0) la (k + 1) = seeL (rjoinTo (List.replicate n 0) la k) (k : Int) (la.getD k 0) from rfl)
      have HR2 := Lib.hid (show rjoinTo (List.replicate n 0) lb (k + 1) = seeL (rjoinTo (List.replicate n 0) lb k) (k : Int) (lb.getD k 0) from rfl)
      generalize la.getD k 0 = p at hc1 HR
      generalize lb.getD k 0 = q at hc2 HR2
      have HC2 := Lib.hid hc2
      clear hc2
      go_wp2_with fail
      refine (see_any _ _ _ _ _ _ hxr).mono ?_
      rintro e w5 ⟨rfl, hx5, ho⟩
      rw [← HR.out] at hx5
      have hy5 := hyr.only ho (far1 (by omega)) (far1 (by omega))
      have hz5 := hzr.only ho (far1 (by omega)) (far1 (by omega))
      have hb5 : Below w.heap.size w w5 := hbr.trans (ho.below hbr.size (by intro k hk; simp at hk; omega))
      have hc2 := cell_later hb5 HC2.out
      clear hxr hyr hzr hbr ho hc1 HR HC2
      go_wp2_with fail
      refine (see_any _ _ _ _ _ _ hy5).mono ?_
      rintro e w6 ⟨rfl, hy6, ho⟩
      rw [← HR2.out] at hy6
      have hx6 := hx5.only ho (far1 (by omega)) (far1 (by omega))
      have hz6 := hz5.only ho (far1 (by omega)) (far1 (by omega))
      have hb6 : Below w.heap.size w w6 := hb5.trans (ho.below hb5.size (by intro k hk; simp at hk; omega))
      clear hx5 hy5 hz5 hb5 ho hc2 HR2
      go_wp2_with fail
      go_roundw
      case rel => exact ⟨k + 1, by omega, by go_num, hx6, hy6, hz6, hb6⟩
      case measure => simp [intOf]; omega
    · obtain rfl : k = n := by omega
      obtain ⟨z1, z2⟩ := rises_z k la lb
      have hx' : IsV 48 wr (B + 1) B (seen k la) := hxr
      have hy' : IsV 48 wr (B + 2 + 1) (B + 2) (seen k lb) := hyr
      have xl := seen_len k la
      have yl := seen_len k lb
      clear hxr hyr
      generalize seen k la = X at hx' z1 z2 xl
      generalize seen k lb = Y at hy' z1 z2 yl
      have Z1 := Lib.hid z1
      have Z2 := Lib.hid z2
      have XL := Lib.hid xl
      have YL := Lib.hid yl
      clear z1 z2 xl yl
      have HT := Lib.hid (them_new wr (B + 2 + 2) [(B + 1, B), (B + 2 + 1, B + 2)] [X, Y] rfl (fun i hi => by
        match i, hi with
        | 0, _ => exact ⟨hx', by show B ≠ B + 2 + 2; omega, by show B + 1 ≠ B + 2 + 2; omega⟩
        | 1, _ => exact ⟨hy', by show B + 2 ≠ B + 2 + 2; omega, by show B + 2 + 1 ≠ B + 2 + 2; omega⟩) hzr.lt #[.pointer (some ⟨B + 1, 0, none⟩), .pointer (some ⟨B + 2 + 1, 0, none⟩)] rfl wr.heap.size rfl 2 rfl 24)
      have ha0 : Only [] wr (wr.alloc (.cells #[.pointer (some ⟨B + 1, 0, none⟩), .pointer (some ⟨B + 2 + 1, 0, none⟩)] 24)) := (Only.refl [] _).alloc _
      have hx2 := hx'.only ha0 (by simp) (by simp)
      have hy2 := hy'.only ha0 (by simp) (by simp)
      have hz2 := hzr.only ha0 (by simp) (by simp)
      have hb2 : Below w.heap.size w _ := hbr.trans (ha0.below hbr.size (by intro k hk; cases hk))
      clear hx' hy' hzr hbr ha0
      go_wp2_with fail
      refine (join_any _ _ _ _ 2 2 _ _ hz2 HT.out (by omega)).mono ?_
      rintro e w7 ⟨rfl, hz7, ho⟩
      have hx7 := hx2.only ho (far1 (by omega)) (far1 (by omega))
      have hy7 := hy2.only ho (far1 (by omega)) (far1 (by omega))
      have hb7 : Below w.heap.size w w7 := hb2.trans (ho.below hb2.size (by intro k hk; simp at hk; omega))
      generalize joinAll (List.replicate k 0) [X, Y] = Z at hz7 Z1 Z2
      clear hx2 hy2 hz2 hb2 ho HT
      go_wp2_with fail
      refine (all_any _ _ _ _ hz7).mono ?_
      rintro e w8 ⟨v, rfl, hown, hb⟩
      have hx8 := hx7.below hb
      have hy8 := hy7.below hb
      have hz8 := hz7.below hb
      have hb8 : Below w.heap.size w w8 := hb7.trans (hb.mono hb7.size)
      obtain ⟨ao, c', rfl, hI⟩ := hown.isI
      clear hx7 hy7 hz7 hb7 hb hown
      rw [Z1.out] at hI ⊢
      go_wp2_with fail
      go_loopw [13] (fun i wr => ∃ j : Nat, j ≤ k ∧ i = .int .i64 j ∧ ∃ d, wr = w8.drewN d) (fun i _ => k - (intOf i).toNat)
      case atStart => exact ⟨0, Nat.zero_le _, rfl, 0, rfl⟩
      case round =>
        obtain ⟨j, hj, rfl, d, rfl⟩ := hrel
        have hD : Hid (∀ m, ∃ d', (w8.drewN d).drewN m = w8.drewN d') := fun m => ⟨_, World.drewN_drewN _ _ _⟩
        have hx9 := hx8.draws d
        have hy9 := hy8.draws d
        have hz9 := hz8.draws d
        have hb9 := below_drewN hb8 d
        have hI9 : IsI (w8.drewN d) ao k c' Z := hI.below (below_drewN (Below.refl _ _) d)
        generalize w8.drewN d = w9 at hD hx9 hy9 hz9 hb9 hI9
        clear hx8 hy8 hz8 hb8 hI
        by_cases hlt : j < k
        · rcases hI9.at_ with h0 | ⟨bz, oz, rfl, hcz⟩
          · omega
          have hc := hcz j hlt
          have hzz := Z2.out j hlt
          have hax : atL X (j : Int) = X.getD j 0 := by
            unfold atL
            rw [if_pos (in_has X j (by rw [XL.out]; exact hlt)), Int.toNat_natCast]
          have hay : atL Y (j : Int) = Y.getD j 0 := by
            unfold atL
            rw [if_pos (in_has Y j (by rw [YL.out]; exact hlt)), Int.toNat_natCast]
          have cx : ∀ W : World, IsV 48 W (B + 1) B X → Calls Try.prog 11 #[.pointer (some ⟨B + 1, 0, none⟩), .int .i64 (j : Int)] W fun e w' => e = .returned (.int .i64 (X.getD j 0)) ∧ W = w' := fun W hW => by
            rw [← hax]; exact at_any _ _ _ _ _ hW
          have cy : ∀ W : World, IsV 48 W (B + 2 + 1) (B + 2) Y → Calls Try.prog 11 #[.pointer (some ⟨B + 2 + 1, 0, none⟩), .int .i64 (j : Int)] W fun e w' => e = .returned (.int .i64 (Y.getD j 0)) ∧ W = w' := fun W hW => by
            rw [← hay]; exact at_any _ _ _ _ _ hW
          generalize X.getD j 0 = x at hzz cx hax
          generalize Y.getD j 0 = y at hzz cy hay
          generalize Z.getD j 0 = z at hzz hc
          have CX := Lib.hid cx
          have CY := Lib.hid cy
          have HX9 := Lib.hid hx9
          have HY9 := Lib.hid hy9
          have HZZ := Lib.hid hzz
          clear cx cy hax hay hcz hI9 hzz hx9 hy9 hz9 hb9
          by_cases hxz : z = x
          · have g1 : (z != x) = false := by simp [hxz]
            clear hxz
            go_wp2_with fail
            go_quiet ((go_at_call 11; first | (with_reducible exact quiet_left (CX.out _ (HX9.out.draws _))) | (with_reducible exact quiet_left (CY.out _ (HY9.out.draws _)))))
            go_wp2_with fail
            go_roundw
            case rel => exact ⟨j + 1, by omega, by go_num, hD.out _⟩
            case measure => simp [intOf]; omega
          · have hy : z = y := by have := HZZ.out; omega
            have g1 : (z != x) = true := by simp [hxz]
            have g2 : (z != y) = false := by simp [hy]
            clear hxz hy
            go_wp2_with fail
            go_quiet ((go_at_call 11; first | (with_reducible exact quiet_left (CX.out _ (HX9.out.draws _))) | (with_reducible exact quiet_left (CY.out _ (HY9.out.draws _)))))
            go_wp2_with fail
            go_roundw
            case rel => exact ⟨j + 1, by omega, by go_num, hD.out _⟩
            case measure => simp [intOf]; omega
        · have wx : withinB X Z = true := withinB_yes _ _ (by rw [XL.out, Z1.out]) (fun j hj => by
            rw [XL.out] at hj; rw [Z2.out j hj]; omega)
          have wy : withinB Y Z = true := withinB_yes _ _ (by rw [YL.out, Z1.out]) (fun j hj => by
            rw [YL.out] at hj; rw [Z2.out j hj]; omega)
          have wz : withinB Z Z = true := withinB_yes _ _ rfl (fun j _ => by omega)
          have WX := Lib.hid wx
          have WY := Lib.hid wy
          have WZ := Lib.hid wz
          clear wx wy wz
          go_wp2_with fail
          refine (within_any _ _ _ _ _ _ _ hx9 hz9).mono ?_
          rintro e w' ⟨rfl, d1, rfl⟩
          rw [WX.out]
          have hy10 := hy9.draws d1
          have hz10 := hz9.draws d1
          have hb10 := below_drewN hb9 d1
          clear hx9 hy9 hz9 hb9 hI9
          generalize w9.drewN d1 = w10 at hy10 hz10 hb10
          go_wp2_with fail
          refine (within_any _ _ _ _ _ _ _ hy10 hz10).mono ?_
          rintro e w' ⟨rfl, d2, rfl⟩
          rw [WY.out]
          have hz11 := hz10.draws d2
          have hb11 := below_drewN hb10 d2
          clear hy10 hz10 hb10
          generalize w10.drewN d2 = w11 at hz11 hb11
          go_wp2_with fail
          refine (within_any _ _ _ _ _ _ _ hz11 hz11).mono ?_
          rintro e w' ⟨rfl, d3, rfl⟩
          rw [WZ.out]
          go_wp2
          go_ret
          exact ⟨rfl, below_drewN hb11 d3⟩

theorem rises_walk (ao : Option Addr) (n c : Nat) (l : List Int) (bo : Option Addr) (n2 c2 : Nat) (m : List Int) (w : World) (hl : IsI w ao n c l) (_ : n ≤ c) (_ : c * 8 ≤ 140737488351232) (_ : ∀ z ∈ l, -9223372036854775808 ≤ z ∧ z ≤ 9223372036854775807)
    (hm : IsI w bo n2 c2 m) (_ : n2 ≤ c2) (_ : c2 * 8 ≤ 140737488351232) (_ : ∀ z ∈ m, -9223372036854775808 ≤ z ∧ z ≤ 9223372036854775807) :
    Calls Try.prog 6 #[.slice ao n c, .slice bo n2 c2] w fun e w' => e = .returned (.bool true) ∧ Below w.heap.size w w' := by
  by_cases h1 : (n : Int) < 1
  · exact rises_out ao bo n c n2 c2 w true true (by simpa using h1) (fun h => by cases h) (fun h => by cases h)
  · by_cases h2 : (4 : Int) < (n : Int)
    · exact rises_out ao bo n c n2 c2 w false true (by simpa using h1) (fun _ => by simpa using h2) (fun _ h => by cases h)
    · by_cases h3 : n2 = n
      · subst h3
        exact rises_in ao bo _ c c2 l m w hl hm (by omega) (by omega)
      · exact rises_out ao bo n c n2 c2 w false false (by simpa using h1) (fun _ => by simpa using h2) (fun _ _ => by simp; omega)

end Go.Proofs.Yteiaejehdjekmaa
