/-
  The walk of FrameBack.
-/
import Derived.Test.YtdmbllokajolhaaOn
namespace Go.Proofs.Ytdmbllokajolhaa
open Go.RowKit

theorem lit_back {z : Int} (h : (Lit.int .i64 z).wf = true) : -9223372036854775808 ≤ z ∧ z ≤ 9223372036854775807 := by
  simp only [Lit.wf, IntKind.min, IntKind.max, IntKind.signed, IntKind.bits, Bool.and_eq_true, decide_eq_true_eq, if_true] at h
  omega
/-- how far the frames go that are whole -/
structure Cutting (L : List (List UInt8)) (cut : Int) (k wN : Nat) : Prop where
  le : wN ≤ k
  has : 0 < wN → ((frames (L.take wN)).length : Int) ≤ cut
  no : ∀ j, wN < j → j ≤ k → cut < ((frames (L.take j)).length : Int)
theorem Cutting.zero (L : List (List UInt8)) (cut : Int) : Cutting L cut 0 0 := ⟨Nat.le_refl _, fun h => by omega, fun j h1 h2 => by omega⟩
theorem Cutting.yes {L : List (List UInt8)} {cut : Int} {k wN : Nat} (_ : Cutting L cut k wN) (h : ((frames (L.take (k + 1))).length : Int) ≤ cut) : Cutting L cut (k + 1) (k + 1) :=
  ⟨Nat.le_refl _, fun _ => h, fun j h1 h2 => by omega⟩
theorem Cutting.keep {L : List (List UInt8)} {cut : Int} {k wN : Nat} (hc : Cutting L cut k wN) (h : cut < ((frames (L.take (k + 1))).length : Int)) : Cutting L cut (k + 1) wN := by
  refine ⟨by have := hc.le; omega, hc.has, fun j h1 h2 => ?_⟩
  by_cases hj : j = k + 1
  · subst hj; exact h
  · exact hc.no j h1 (by omega)
theorem scan_cut (L : List (List UInt8)) (cut wN : Nat) (hL : ∀ r ∈ L, r.length ≤ 20000) (hc : Cutting L (cut : Int) L.length wN) (hcut : cut ≤ (frames L).length) :
    scanAll ((frames L).take cut) = (L.take wN, (frames (L.take wN)).length, if cut = (frames (L.take wN)).length then 0 else 1) := by
  have hle := hc.le
  have hge : (frames (L.take wN)).length ≤ cut := by
    by_cases h0 : wN = 0
    · subst h0; simp [frames]
    · have := hc.has (by omega); omega
  by_cases hw : wN = L.length
  · have ht : L.take wN = L := List.take_of_length_le (by omega)
    rw [ht] at hge ⊢
    have hcc : cut = (frames L).length := by omega
    rw [if_pos hcc, hcc, List.take_length, scanAll_frames L hL]
  · have hlt : wN < L.length := by omega
    have hr : L.getD wN [] ∈ L := by
      rw [List.getD_eq_getElem?_getD, List.getElem?_eq_getElem hlt]
      exact List.getElem_mem hlt
    have hno := hc.no (wN + 1) (by omega) (by omega)
    rw [frames_take L wN hlt, List.length_append, frameF_len] at hno
    have hsp : frames L = frames (L.take wN) ++ (frameF (L.getD wN []) ++ frames (L.drop (wN + 1))) := by
      rw [← List.append_assoc, ← frames_take L wN hlt, ← frames_append, List.take_append_drop]
    have htk : (frames L).take cut = frames (L.take wN) ++ (frameF (L.getD wN [])).take (cut - (frames (L.take wN)).length) := by
      rw [hsp, List.take_append, List.take_of_length_le hge, List.take_append, frameF_len, show cut - (frames (L.take wN)).length - (12 + (L.getD wN []).length) = 0 by omega, List.take_zero, List.append_nil]
    rw [htk, scanAll_torn _ _ _ (fun r h => hL r (List.mem_of_mem_take h)) (hL _ hr) (by omega)]
    congr 2
    by_cases h : cut = (frames (L.take wN)).length
    · rw [if_pos h, if_pos (by omega)]
    · rw [if_neg h, if_neg (by omega)]
theorem IsBB.take {w : World} {ao : Option Addr} {n : Nat} {ls : List (List UInt8)} (h : IsBB w ao n ls) (k : Nat) (hk : k ≤ n) : IsBB w ao k (ls.take k) := by
  refine ⟨by rw [List.length_take, h.len]; omega, ?_⟩
  rcases h.at_ with h0 | ⟨b, off, h1, h2⟩
  · exact .inl (by omega)
  · refine .inr ⟨b, off, h1, fun i hi => ?_⟩
    obtain ⟨a, m, c, q1, q2, q3⟩ := h2 i (by omega)
    exact ⟨a, m, c, q1, by simpa [List.getElem?_take, hi] using q2, q3⟩

set_option maxHeartbeats 2000000 in
theorem back_walk (ao : Option Addr) (n c : Nat) (L : List (List UInt8)) (cut : Int) (W : World) (h : IsBB W ao n L) (hn9 : n ≤ 5864062014810) (hnc : n ≤ c) (hc1 : -9223372036854775808 ≤ cut) (hc2 : cut ≤ 9223372036854775807) :
    Calls Try.prog 5 #[.slice ao n c, .int .i64 cut] W fun e w' => e = .returned (.bool true) ∧ Below W.heap.size W w' := by
  by_cases hn : 12 < n
  · go_enter Try.func5, Try.ntmps5
    go_wp2_with fail
    refine (awake_any _).mono ?_
    rintro e w0 ⟨rfl, hb0⟩
    go_wp2_with fail
    go_ret
    exact ⟨rfl, hb0⟩
  have HA := Lib.hid h; clear h
  go_enter Try.func5, Try.ntmps5
  go_wp2_with fail
  refine (awake_any _).mono ?_
  rintro e w0 ⟨rfl, hb0⟩
  go_wp2_with fail
  go_loopw [5, 6, 7, 8] (fun v x y i wr => ∃ k wN : Nat, k ≤ n ∧ i = .int .i64 (k : Int) ∧ Part W L k v wr ∧ Cutting L cut k wN ∧ x = .int .i64 (wN : Int) ∧ y = .int .i64 ((frames (L.take wN)).length : Int)) (fun _ _ _ i _ => n - (intOf i).toNat)
  case atStart => exact ⟨0, 0, by omega, rfl, part_zero _ hb0, Cutting.zero _ _, rfl, rfl⟩
  case round =>
    obtain ⟨k, wN, hk, rfl, hp, hcu, rfl, rfl⟩ := hrel
    clear hb0
    have HC := Lib.hid hcu; clear hcu
    by_cases hlt : k < n
    · have hp' := hp
      obtain ⟨_, hown, hlen, hbl⟩ := hp'
      obtain ⟨b, off, a, m, cc, rfl, hcell, hbs, hm⟩ := row_at HA.out hbl k hlt
      have hka : k < L.length := by rw [HA.out.len]; exact hlt
      have hml := hbs.len
      have hft := frames_take L k hka
      obtain ⟨a1, c1, rfl, hb1⟩ := own_len hown _ rfl
      have HS := Lib.hid (fun (hs : (L.getD k []).length ≤ 200) => @part_step W L k _ · wr · hp hka hs)
      have HP := Lib.hid hp; clear hp
      generalize L.getD k [] = r at hbs HS hml hft
      have HB := Lib.hid hbs; clear hbs
      have HB1 := Lib.hid hb1; clear hb1 hown hbl
      have HFT := Lib.hid hft; clear hft
      generalize hq1 : (frames (L.take k)).length = q1 at *
      have HML := Lib.hid hml; clear hml
      have hl2 : (frames (L.take (k + 1))).length = q1 + (12 + m) := by rw [HFT.out, List.length_append, frameF_len, HML.out, hq1]
      have HQ1 := Lib.hid hq1; clear hq1
      generalize hsz : ((frames (L.take wN)).length : Int) = sz at *
      have HSZ := Lib.hid hsz; clear hsz
      have HYES := Lib.hid (fun h => HC.out.yes h)
      have HKEEP := Lib.hid (fun h => HC.out.keep h)
      rw [hl2] at HYES HKEEP
      have HL2 := Lib.hid hl2; clear hl2
      by_cases hs : 200 < m
      · go_wp2_with fail
        go_ret
        exact ⟨rfl, HP.out.2.2.2⟩
      · go_wp2_with fail
        refine (put_ok a1 _ c1 _ a m cc r _ HB1.out HB.out (by omega) (by omega)).mono ?_
        rintro e w3 ⟨v3, rfl, hown3, hb3⟩
        have HST := Lib.hid (HS.out _ _ (by rw [HML.out]; omega) hown3 hb3)
        obtain ⟨a3, c3, rfl, _⟩ := own_len hown3 (q1 + (12 + m)) (by rw [List.length_append, frameF_len, HML.out, HQ1.out])
        clear hown3 hb3
        by_cases hcc : ((q1 + (12 + m) : Nat) : Int) ≤ cut
        · have hcc2 : (q1 : Int) + (12 + (m : Int)) ≤ cut := by omega
          go_wp2_with fail
          go_roundw
          case rel => exact ⟨k + 1, k + 1, by omega, by go_num, HST.out, HYES.out hcc, by go_num, by rw [HL2.out]; go_num⟩
          case measure => simp [intOf]; omega
        · have hcc2 : ¬ ((q1 : Int) + (12 + (m : Int)) ≤ cut) := by omega
          go_wp2_with fail
          go_roundw
          case rel => exact ⟨k + 1, wN, by omega, by go_num, HST.out, HKEEP.out (by omega), rfl, by rw [HSZ.out]⟩
          case measure => simp [intOf]; omega
    · obtain rfl : k = n := by omega
      obtain ⟨hs1, hown1, hl1, hbl⟩ := hp
      rw [List.take_of_length_le (by rw [HA.out.len]; exact Nat.le_refl _)] at hown1 hl1
      have hall := part_all hs1 HA.out.len
      have HSA := Lib.hid (scanAll_frames L hall)
      have HCUT := Lib.hid (fun x hx => scan_cut L x wN hall hx)
      have hw := HC.out.le
      obtain ⟨x1, d1, rfl, hx1, hx2, hx3⟩ := own_room hown1 _ rfl
      generalize hnF : (frames L).length = nF at *
      have HX := Lib.hid hx1
      have HA1 := Lib.hid (HA.out.below hbl)
      clear hs1 hall hown1 hx1
      have HNF := Lib.hid hnF; clear hnF
      generalize hsz : (frames (L.take wN)).length = sz at *
      have HSZ := Lib.hid hsz; clear hsz
      go_wp2_with fail
      refine (scan_any x1 nF d1 _ _ HX.out (by omega) hx2 hx3).mono ?_
      rw [HSA.out]
      rintro e w5 ⟨v5, he, hown5, hb5⟩
      unfold Recs at he
      subst he
      obtain ⟨a5, c5, rfl, hbb5, _⟩ := hown5.isBB k HA.out.len
      have hB5 := hbl.trans (hb5.mono hbl.size)
      have HX5 := Lib.hid (HX.out.below hb5)
      have HA5 := Lib.hid (HA1.out.below hb5)
      have H5 := Lib.hid hbb5
      clear hown5 hb5 hbl HX HA1 hbb5 HSA
      go_wp2_with fail
      refine (all_any a5 _ _ _ ao k c _ _ H5.out HA5.out (by omega) (by omega)).mono ?_
      rw [show sameL L L = true from by unfold sameL; simp]
      rintro e w6 ⟨rfl, d, rfl⟩
      have hB6 := below_draws hB5 d
      have HX6 : Hid (IsB (w5.drewN d) x1 nF d1 (frames L)) := Lib.hid (HX5.out.heapw rfl)
      have HA6 : Hid (IsBB (w5.drewN d) ao k L) := Lib.hid (HA5.out.heapw rfl)
      clear H5 HA5 HX5 hB5
      generalize w5.drewN d = w6 at *
      by_cases hc0 : cut < 0
      · go_wp2_with fail
        go_ret
        exact ⟨rfl, hB6⟩
      by_cases hcb : (nF : Int) < cut
      · go_wp2_with fail
        go_ret
        exact ⟨rfl, hB6⟩
      obtain ⟨x, rfl⟩ := Int.eq_ofNat_of_zero_le (show 0 ≤ cut by omega)
      have hsc := HCUT.out x (by rw [HA.out.len]; exact HC.out) (by omega)
      have HSC := Lib.hid hsc; clear hsc HCUT
      have ht := Lib.hid (isB_take HX6.out x (by omega))
      have g1 : (x : Int) ≤ (d1 : Int) := by omega
      go_wp2_with fail
      refine (scan_any x1 x d1 _ _ ht.out (by omega) (by omega) hx3).mono ?_
      rw [HSC.out]
      rintro e w7 ⟨v7, he, hown7, hb7⟩
      unfold Recs at he
      subst he
      obtain ⟨a7, c7, rfl, hbb7, _⟩ := hown7.isBB wN (by rw [List.length_take, HA.out.len]; omega)
      have hB7 := hB6.trans (hb7.mono hB6.size)
      have HA7 := Lib.hid ((HA6.out.below hb7).take wN hw)
      have H7 := Lib.hid hbb7
      have g2 : (wN : Int) ≤ (c : Int) := by omega
      clear hown7 hb7 hB6 HX6 HA6 hbb7 ht HSC HC
      have hz : ((x : Int) == (sz : Int)) = decide (x = sz) := by
        by_cases h : x = sz
        · subst h; simp
        · rw [decide_eq_false h, beq_eq_false_iff_ne]; omega
      by_cases hxs : x = sz
      · rw [if_pos hxs]
        rw [decide_eq_true hxs] at hz
        have HXS := Lib.hid hxs; clear hxs
        go_wp2_with fail
        refine (all_any a7 _ _ _ ao wN c _ _ H7.out HA7.out (by omega) (by omega)).mono ?_
        rw [show sameL (L.take wN) (L.take wN) = true from by unfold sameL; simp]
        rintro e w8 ⟨rfl, d8, rfl⟩
        have hB8 := below_draws hB7 d8
        go_wp2_with fail
        go_ret
        exact ⟨rfl, hB8⟩
      · rw [if_neg hxs]
        rw [decide_eq_false hxs] at hz
        have HXS := Lib.hid hxs; clear hxs
        go_wp2_with fail
        refine (all_any a7 _ _ _ ao wN c _ _ H7.out HA7.out (by omega) (by omega)).mono ?_
        rw [show sameL (L.take wN) (L.take wN) = true from by unfold sameL; simp]
        rintro e w8 ⟨rfl, d8, rfl⟩
        have hB8 := below_draws hB7 d8
        go_wp2_with fail
        go_ret
        exact ⟨rfl, hB8⟩
theorem back_said (ao : Option Addr) (n c : Nat) (L : List (List UInt8)) (cut : Int) (W : World) (h : IsBB W ao n L) (hnc : n ≤ c) (hc : c * 24 ≤ 140737488351232) (hz : (Lit.int .i64 cut).wf = true) :
    Calls Try.prog 5 #[.slice ao n c, .int .i64 cut] W fun e w' => e = .returned (.bool true) ∧ Below W.heap.size W w' :=
  back_walk ao n c L cut W h (by omega) hnc (lit_back hz).1 (lit_back hz).2
end Go.Proofs.Ytdmbllokajolhaa
