/-
  The walk of PackWrites.
-/
import Derived.Test.YtolijjofbdhanaaAw
import Derived.Test.YtolijjofbdhanaaBack
import Derived.Test.YtolijjofbdhanaaQuiet
import Derived.Deep.RegionHeld3
namespace Go.Proofs.Ytolijjofbdhanaa
open Go.RowKit

theorem ownw_len {w : World} {base : Nat} {e : TypeId} {v : Value} {l : List UInt8} (h : OwnB w base e v l) (n : Nat) (hn : l.length = n) :
    ∃ ao c, v = .slice ao n c ∧ IsB w ao n c l ∧ n ≤ c ∧ (0 < n → ∃ b off, ao = some ⟨b, off, none⟩) := by
  subst hn
  obtain ⟨ao, c, h1, h2, h3, _⟩ := own_more h
  refine ⟨ao, c, h1, h2, h3, fun h0 => ?_⟩
  rcases h2.at_ with h4 | ⟨b, off, h4, _⟩
  · omega
  · exact ⟨b, off, h4⟩

theorem IsB.heapw {w w' : World} {ao : Option Addr} {n c : Nat} {l : List UInt8} (h : IsB w ao n c l) (hw : w'.heap = w.heap) : IsB w' ao n c l := by
  obtain ⟨h1, h2, h3⟩ := h
  refine ⟨h1, h2, ?_⟩
  rcases h3 with h3 | ⟨b, off, h4, h5⟩
  · exact .inl h3
  · exact .inr ⟨b, off, h4, fun i hi => (World.cell?_of_block (by rw [hw])).trans (h5 i hi)⟩
theorem IsR.heapw {w w' : World} {a : Nat} {T : Nat → Prop} {l : List UInt8} {bad : Bool} (h : IsR w a T l bad) (hw : w'.heap = w.heap) : IsR w' a T l bad := by
  obtain ⟨⟨ao, n, c, h1, h2, h3, h4⟩, hne⟩ := h
  exact ⟨⟨ao, n, c, by rw [hw]; exact h1, h2.heapw hw, h3, h4⟩, hne⟩

theorem IsR.weakw {w : World} {a : Nat} {T T' : Nat → Prop} {l : List UInt8} {bad : Bool} (h : IsR w a T l bad) (hT : ∀ b, T b → T' b) (hne : ¬ T' a) : IsR w a T' l bad := by
  obtain ⟨⟨ao, n, c, h1, h2, h3, h4⟩, _⟩ := h
  exact ⟨⟨ao, n, c, h1, h2, h3, fun p hp => hT _ (h4 p hp)⟩, hne⟩
theorem below_undrew {B n : Nat} {w w' : World} (h : Below B (w.drewN n) w') : Below B w w' := ⟨h.os, h.tape, h.output, h.size, h.block⟩

/-- the bytes of b, s and the first k of v -/
def wrt (B : List UInt8) (s : ByteArray) (zs : List Int) (k : Nat) : List UInt8 := B ++ txt s ++ be8s (zs.take k)
theorem wrt_len (B : List UInt8) (s : ByteArray) (zs : List Int) (k : Nat) (hk : k ≤ zs.length) : (wrt B s zs k).length = B.length + (8 + s.size) + 8 * k := by
  unfold wrt
  rw [List.length_append, List.length_append, txt_len, be8s_len, List.length_take]
  omega
theorem wrt_step (B : List UInt8) (s : ByteArray) (zs : List Int) (k : Nat) (hk : k < zs.length) : wrt B s zs (k + 1) = wrt B s zs k ++ be8 (zs.getD k 0) := by
  unfold wrt
  rw [be8s_take zs k hk, ← List.append_assoc]

set_option maxHeartbeats 1000000 in
theorem writes_walk (ao : Option Addr) (n c : Nat) (B : List UInt8) (s : ByteArray) (ai : Option Addr) (m ci : Nat) (zs : List Int) (W : World) (h : IsB W ao n c B) (hnc : n ≤ c) (hs9 : s.size ≤ 140737488351232) (hi : IsI W ai m ci zs)
    (hzs : ∀ z ∈ zs, -9223372036854775808 ≤ z ∧ z ≤ 9223372036854775807) (hn9 : n ≤ 140737488351232) (hm9 : m ≤ 17592186044416) :
    Calls Try.prog 7 #[.slice ao n c, .string s, .slice ai m ci] W fun e w' => e = .returned (.bool true) ∧ Below W.heap.size W w' := by
  by_cases h3 : 100 < n
  · go_enter Try.func7, Try.ntmps7
    go_wp2_with fail
    refine (awake_any _).mono ?_
    rintro e w0 ⟨rfl, hb0⟩
    go_wp2_with fail
    go_ret
    exact ⟨rfl, hb0⟩
  by_cases h4 : 300 < s.size
  · go_enter Try.func7, Try.ntmps7
    go_wp2_with fail
    refine (awake_any _).mono ?_
    rintro e w0 ⟨rfl, hb0⟩
    go_wp2_with fail
    go_ret
    exact ⟨rfl, hb0⟩
  by_cases h5 : 30 < m
  · go_enter Try.func7, Try.ntmps7
    go_wp2_with fail
    refine (awake_any _).mono ?_
    rintro e w0 ⟨rfl, hb0⟩
    go_wp2_with fail
    go_ret
    exact ⟨rfl, hb0⟩
  have hlen := h.len
  have HB := Lib.hid h; clear h
  have HI := Lib.hid hi; clear hi
  have HZ := Lib.hid hzs; clear hzs
  go_enter Try.func7, Try.ntmps7
  go_wp2_with fail
  refine (awake_any _).mono ?_
  rintro e w0 ⟨rfl, hb0⟩
  have hz0 := hb0.size
  have hb1 : ([] : List UInt8).length + n ≤ 140737488355328 := by simp; omega
  have HB0 := Lib.hid (HB.out.below hb0)
  have HL := Lib.hid hlen; clear hlen
  go_wp2_with (at_builtin; refine wpList_append_bytes rfl _ _ 24 rfl w0.heap.size 5 Try.underlying24 info5 _ [] rfl (OwnB.new _ _ _ [] _ rfl _ rfl (by exact Nat.le_refl _) 0 rfl (by decide)) _ _ _ _ rfl (HB0.out.alloc _) hb1 (by simp) ?_; intro v' w2 hown' hgr hb2; clear hgr; rw [List.nil_append] at hown'; obtain ⟨a1, c1, hv1, hbs, hc1, hn1⟩ := ownw_len hown' n HL.out; subst hv1; clear hown')
  have hB2 : Below W.heap.size W w2 := hb0.trans ((((Below.refl _ _).alloc (Nat.le_refl _) _).trans hb2).mono hz0)
  clear hb0 hb2 hb1 hn1 HB0 hc1
  refine (text_any a1 n c1 B s _ hbs (by omega) (by omega)).mono ?_
  rintro e w3 ⟨v3, rfl, hown3, hb3⟩
  clear hbs
  obtain ⟨a3, c3, rfl, hbs3, hc3, hn3⟩ := ownw_len hown3 (n + (8 + s.size)) (by rw [List.length_append, txt_len, HL.out])
  have hB3 : Below W.heap.size W w3 := hB2.trans (hb3.mono hB2.size)
  have hI3 := HI.out.below hB3
  clear hown3 hb3 hB2 hc3 hn3
  have HB3 := Lib.hid hbs3; clear hbs3
  have HI3 := Lib.hid hI3; clear hI3
  go_wp2_with fail
  refine (all_any a3 _ c3 _ ai m ci zs _ HB3.out HI3.out (by omega) (by omega)).mono ?_
  rintro e w4 ⟨v4, rfl, hown4, hb4⟩
  have hB4 : Below W.heap.size W w4 := hB3.trans (hb4.mono hB3.size)
  have hwm : B ++ txt s ++ be8s zs = wrt B s zs m := by unfold wrt; rw [List.take_of_length_le (by rw [HI.out.len]; exact Nat.le_refl _)]
  rw [hwm] at hown4
  clear hwm
  obtain ⟨a4, c4, rfl, hbs4, hc4, hn4⟩ := ownw_len hown4 (n + (8 + s.size) + 8 * m) (by rw [wrt_len _ _ _ _ (by rw [HI.out.len]; exact Nat.le_refl _), HL.out])
  obtain ⟨b4, o4, rfl⟩ := hn4 (by omega)
  clear hown4 hb4 hB3 HB3 HI3
  have HX := Lib.hid hbs4; clear hbs4
  have HB4 := Lib.hid (HB.out.below hB4)
  go_wp2_with fail
  refine (reftxt_any ao n c B s _ HB4.out (by omega) (by omega)).mono ?_
  rintro e w5 ⟨v5, rfl, hown5, hb5⟩
  have hB5 : Below W.heap.size W w5 := hB4.trans (hb5.mono hB4.size)
  have hX5 := HX.out.below hb5
  clear HX hb5 hB4 HB4
  have HX := Lib.hid hX5; clear hX5
  have hw0 : B ++ txt s = wrt B s zs 0 := by unfold wrt; simp [be8s]
  rw [hw0] at hown5
  clear hw0
  have HO := Lib.hid hown5; clear hown5
  go_wp2_with fail
  generalize w5 = wx at *
  go_loopw [8, 9] (fun v i wr => ∃ k : Nat, k ≤ m ∧ i = .int .i64 (k : Int) ∧ (∃ base e, OwnB wr base e v (wrt B s zs k)) ∧ Below wx.heap.size wx wr) (fun _ i _ => m - (intOf i).toNat)
  case atStart => exact ⟨0, by omega, rfl, ⟨_, _, HO.out⟩, Below.refl _ _⟩
  case round =>
    obtain ⟨k, hk, rfl, ⟨bb, be, hown⟩, hbl⟩ := hrel
    clear HO
    by_cases hlt : k < m
    · obtain ⟨ag, rfl⟩ : ∃ ag : Nat × Nat, ai = some ⟨ag.1, ag.2, none⟩ := by
        rcases HI.out.at_ with h0 | ⟨b, off, h1, h2⟩
        · omega
        · exact ⟨(b, off), h1⟩
      have hcell : wr.cell? ⟨ag.1, ag.2 + k, none⟩ = some (.int .i64 (zs.getD k 0)) := by
        rcases HI.out.at_ with h0 | ⟨b, off, h1, h2⟩
        · omega
        · have := cell_later hbl (cell_later hB5 (h2 k hlt))
          cases h1
          exact this
      have hst := wrt_step B s zs k (by rw [HI.out.len]; exact hlt)
      generalize zs.getD k 0 = z at hcell hst
      have HT := Lib.hid hst; clear hst
      obtain ⟨a6, c6, rfl, hb6, hc6, hn6⟩ := ownw_len hown (n + (8 + s.size) + 8 * k) (by rw [wrt_len _ _ _ _ (by rw [HI.out.len]; omega), HL.out])
      clear hown hc6 hn6
      have HW := Lib.hid hb6; clear hb6
      go_wp2_with fail
      refine (refi64_any a6 _ c6 _ z _ HW.out (by omega)).mono ?_
      rintro e w7 ⟨v7, rfl, hown7, hb7⟩
      go_wp2_with fail
      go_roundw
      case rel => exact ⟨k + 1, by omega, by go_num, ⟨_, _, by rw [HT.out]; exact hown7⟩, hbl.trans (hb7.mono hbl.size)⟩
      case measure => simp [intOf]; omega
    · obtain rfl : k = m := by omega
      obtain ⟨a6, c6, rfl, hb6, hc6, hn6⟩ := ownw_len hown (n + (8 + s.size) + 8 * k) (by rw [wrt_len _ _ _ _ (by rw [HI.out.len]; exact Nat.le_refl _), HL.out])
      clear hc6 hn6 hown
      have hB6 : Below W.heap.size W wr := hB5.trans (hbl.mono hB5.size)
      have hX6 := HX.out.below hbl
      have hcx := fun d => conv_any (wr.drewN d) _ _ c4 _ (hX6.below ⟨rfl, rfl, rfl, Nat.le_refl _, fun _ _ => rfl⟩)
      have hcw := fun d => conv_any (wr.drewN d) _ _ c6 _ (hb6.below ⟨rfl, rfl, rfl, Nat.le_refl _, fun _ _ => rfl⟩)
      have hcb := fun d => conv_any (wr.drewN d) ao n c _ ((HB.out.below hB6).below ⟨rfl, rfl, rfl, Nat.le_refl _, fun _ _ => rfl⟩)
      have hcs := fun d => conv_any (wr.drewN d) (some ⟨b4, o4, none⟩) n c4 _ ((isB_take hX6 n (by omega)).below ⟨rfl, rfl, rfl, Nat.le_refl _, fun _ _ => rfl⟩)
      have htk : (wrt B s zs k).take n = B := by
        unfold wrt
        rw [List.append_assoc, ← HL.out, List.take_left]
      rw [htk] at hcs
      have q1 : ((strB (wrt B s zs k)).toList != (strB (wrt B s zs k)).toList) = false := by simp
      have q2 : ((strB B).toList != (strB B).toList) = false := by simp
      generalize strB (wrt B s zs k) = s1 at hcx hcw q1
      generalize strB B = s2 at hcb hcs q2
      have HX6 := Lib.hid hX6; clear hX6 hb6 htk
      obtain ⟨nx, hnx, hnx2⟩ : ∃ nx, n + (8 + s.size) + 8 * k = nx ∧ nx - n = (8 + s.size) + 8 * k := ⟨_, rfl, by omega⟩
      rw [hnx] at hcx hcw hc4 ⊢
      have q3 : decide ((nx : Int) < (n : Int)) = false := by simp; omega
      have q4 : decide (nx < n) = false := by simp; omega
      have q5 : n < c4 := by omega
      have q6 : n ≤ nx := by omega
      have q9 : nx - n ≤ 1099511627776 := by omega
      have hdr : IsB wr (some ⟨b4, o4 + n, none⟩) (nx - n) (c4 - n) (txt s ++ be8s zs) := by
        have h1 := isB_drop HX6.out n (c4 - n) (by omega)
        have h2 : (wrt B s zs k).drop n = txt s ++ be8s zs := by
          unfold wrt
          rw [List.append_assoc, ← HL.out, List.drop_left, List.take_of_length_le (by rw [HI.out.len]; exact Nat.le_refl _)]
        rw [h2] at h1
        rw [show n + (8 + s.size) + 8 * k - n = nx - n by omega] at h1
        exact h1
      have HD := Lib.hid hdr; clear hdr
      have HNX := Lib.hid hnx; clear hnx
      have HNX2 := Lib.hid hnx2; clear hnx2 hn4 HX6 HX
      go_wp2_with fail
      go_quiet (fail)
      go_wp2_with fail
      refine (read_any _ _ _ (txt s ++ be8s zs) _ (by exact HD.out.heapw rfl) q9).mono ?_
      rintro e w8 ⟨a, rfl, hr0, ha1, ha2, hb8⟩
      have hr : IsR w8 a (fun b => b < a) (txt s ++ be8s zs) false := hr0.weakw (fun b hb => hb.2) (Nat.lt_irrefl _)
      clear hr0
      have hB8 : Below W.heap.size W w8 := hB6.trans (below_undrew (hb8.mono hB6.size))
      have hge : W.heap.size ≤ a := Nat.le_trans hB6.size ha1
      have hI8 := HI.out.below hB8
      have hl8 : (txt s ++ be8s zs).length ≤ 140737488355328 := by
        rw [List.length_append, txt_len, be8s_len, HI.out.len]; omega
      have HR := Lib.hid hr
      have HI8 := Lib.hid hI8
      clear hr hI8 ha1 hb8 hB6 hB5 hbl hcx hcw hcb hcs HD q1 q2 q3 q4 q5 q6 q9
      go_wp2_with fail
      refine (rdText_any a _ false _ _ HR.out hl8).mono ?_
      rintro e w9 ⟨rfl, hr9, ho9⟩
      rw [rT_txt s _ false _ (by omega) (by omega)] at hr9 ⊢
      simp only at hr9 ⊢
      have q8 : (s.toList != s.toList) = false := by simp
      have hB9 : Below W.heap.size W w9 := hB8.trans (ho9.below hB8.size (by simpa using hge))
      clear hB8 ho9 HR HI8 ha2
      go_wp2_with fail
      generalize (fun b => b < a) = T at hr9
      obtain ⟨wo, rfl⟩ : ∃ wo : World, wo = wr := ⟨_, rfl⟩
      go_loopw [11] (fun i wl => ∃ j : Nat, j ≤ k ∧ i = .int .i64 (j : Int) ∧ IsR wl a T (be8s (zs.drop j)) false ∧ Below W.heap.size W wl) (fun i _ => k - (intOf i).toNat)
      case atStart => exact ⟨0, by omega, rfl, hr9, hB9⟩
      case round =>
        clear hr9 hB9
        obtain ⟨j, hj, rfl, hr, hB⟩ := hrel
        by_cases hlt : j < k
        · obtain ⟨ag, rfl⟩ : ∃ ag : Nat × Nat, ai = some ⟨ag.1, ag.2, none⟩ := by
            rcases HI.out.at_ with h0 | ⟨b, off, h1, h2⟩
            · omega
            · exact ⟨(b, off), h1⟩
          obtain ⟨hcell, hgb⟩ : wr.cell? ⟨ag.1, ag.2 + j, none⟩ = some (.int .i64 (zs.getD j 0)) ∧ ag.1 < W.heap.size := by
            rcases HI.out.at_ with h0 | ⟨b, off, h1, h2⟩
            · omega
            · have h3 := h2 j hlt
              have := cell_later hB h3
              have h5 := World.block_lt_of_cell? W _ h3
              cases h1
              exact ⟨this, h5⟩
          have hjl : j < zs.length := by rw [HI.out.len]; exact hlt
          have hz : -9223372036854775808 ≤ zs.getD j 0 ∧ zs.getD j 0 ≤ 9223372036854775807 := by
            refine HZ.out _ ?_
            rw [List.getD_eq_getElem?_getD, List.getElem?_eq_getElem hjl]
            exact List.getElem_mem hjl
          have hst : be8s (zs.drop j) = be8 (zs.getD j 0) ++ be8s (zs.drop (j + 1)) := by
            have e : zs.drop j = zs.getD j 0 :: zs.drop (j + 1) := by
              rw [List.drop_eq_getElem_cons hjl]
              simp [hjl]
            rw [e]; rfl
          have hl10 : (be8s (zs.drop j)).length ≤ 140737488355328 := by rw [be8s_len, List.length_drop, HI.out.len]; omega
          have hri := rI_be8 (zs.getD j 0) (be8s (zs.drop (j + 1))) false hz.1 hz.2
          rw [← hst] at hri
          generalize zs.getD j 0 = z at hcell hri
          clear hz hst
          have nA : ag.1 ∉ [a] := by simp; omega
          have HRI := Lib.hid hri; clear hri
          have HR := Lib.hid hr; clear hr
          have HBB := Lib.hid hB; clear hB
          have qz : (z != z) = false := by simp
          go_wp2_with fail
          go_region_held3 (fun w' => w'.cell? ⟨ag.1, ag.2 + j, none⟩ = some (.int .i64 z)) (first | go_keep | exact kept1)
            ((go_at_call 18; refine (rdI64_any a _ false _ (by exact HR.out.heapw rfl) hl10).mono ?_; rw [HRI.out]; rintro e wA ⟨rfl, hrA, hoA0⟩; have hoA : Only [a] wr wA := ((Only.refl [a] wr).drew).trans hoA0; have kept1 := hoA.cell hcell nA))
          clear kept1
          go_wp2_with fail
          go_roundw
          case rel => exact ⟨j + 1, by omega, by go_num, hrA, HBB.out.trans (hoA.below HBB.out.size (by simpa using hge))⟩
          case measure => simp [intOf]; omega
        · obtain rfl : j = k := by omega
          rw [List.drop_of_length_le (by rw [HI.out.len]; exact Nat.le_refl _)] at hr
          go_wp2_with fail
          refine (end_any a _ _ _ hr).mono ?_
          rintro e v1 ⟨rfl, rfl⟩
          go_wp2_with fail
          go_ret
          exact ⟨rfl, hB⟩
theorem writes_said (ao : Option Addr) (n c : Nat) (B : List UInt8) (s : ByteArray) (ai : Option Addr) (m ci : Nat) (zs : List Int) (W : World) (h : IsB W ao n c B) (hnc : n ≤ c) (hc9 : c ≤ 140737488351232) (hs9 : s.size ≤ 140737488351232) (hi : IsI W ai m ci zs) (hmc : m ≤ ci) (hci : ci * 8 ≤ 140737488351232)
    (hzs : ∀ z ∈ zs, -9223372036854775808 ≤ z ∧ z ≤ 9223372036854775807) :
    Calls Try.prog 7 #[.slice ao n c, .string s, .slice ai m ci] W fun e w' => e = .returned (.bool true) ∧ Below W.heap.size W w' :=
  writes_walk ao n c B s ai m ci zs W h hnc hs9 hi hzs (by omega) (by omega)
end Go.Proofs.Ytolijjofbdhanaa
