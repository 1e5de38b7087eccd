/-
  A reply's bytes that are cut off, or with one more: the walk. No condition.
-/
import Derived.Test.YtpikdeikcmdcmaaArgr
import Derived.Deep.DeepCutAuto
namespace Go.Proofs.Ytpikdeikcmdcmaa
open Go.RowKit
theorem Wn.le {w W : World} {a : Option Addr} {n c : Nat} {L : List UInt8} (h : Wn w W a n c L) : n ≤ c := by
  obtain ⟨a2, c2, e, _, h2, _⟩ := own_more h.own
  have h3 := h.is.len
  simp only [Value.slice.injEq] at e
  obtain ⟨rfl, rfl, rfl⟩ := e
  exact h2
theorem light_len (l : List Re) (h : ∀ x ∈ l, LightR x) (hl : l.length ≤ 20) (a b c d : Int) : (putR ⟨a, b, c, d, l⟩).length ≤ 5000000000 := by
  have h1 := ress_len l (fun x hx => (h x hx).fit)
  have h3 : (be8s [a, b, c, d, (l.length : Int)]).length = 40 := by rw [be8s_len]; rfl
  simp only [putR, List.length_append]
  omega
set_option maxHeartbeats 4000000 in
theorem cut_walk (a b c d cut : Int) (ao : Option Addr) (n k0 : Nat) (l : List (Re × Value)) (w : World) (h : IsRes w ao n l) (hn : n ≤ 140737488355328) (hi : ∀ x ∈ resL l, IntR x)
    (ha : In64 a) (hb : In64 b) (hc : In64 c) (hd : In64 d) (hcut : In64 cut) :
    Calls Try.prog 8 #[aggP a b c d (.slice ao n k0), .int .i64 cut] w fun e w' => e = .returned (.bool true) ∧ Below w.heap.size w w' := by
  simp only [aggP]
  obtain ⟨hcut1, hcut2⟩ := hcut
  go_enter Try.func8, Try.ntmps8
  go_wp2_with fail
  have hb0 : Below w.heap.size w (w.alloc (.cells #[.int .i64 a, .int .i64 b, .int .i64 c, .int .i64 d, .slice ao n k0] 26)) := (Below.refl _ _).alloc (Nat.le_refl _) _
  have hx0 : (w.alloc (.cells #[.int .i64 a, .int .i64 b, .int .i64 c, .int .i64 d, .slice ao n k0] 26)).heap[w.heap.size]? = some (.cells #[.int .i64 a, .int .i64 b, .int .i64 c, .int .i64 d, .slice ao n k0] 26 (0, 0)) := heap_new _ _
  have h0 := h.below hb0
  generalize (w.alloc (.cells #[.int .i64 a, .int .i64 b, .int .i64 c, .int .i64 d, .slice ao n k0] 26)) = w0 at *
  refine (awake_any w0).mono ?_
  rintro e w1 ⟨rfl, hb1⟩
  have hx1 := heap_below hb1 (lt_of_heap hx0) hx0
  have hB1 := hb0.trans (hb1.mono hb0.size)
  have h1 := h0.below hb1
  have q4 : w1.cell? ⟨w.heap.size, 4, none⟩ = some (.slice ao n k0) := by rw [cell_heap hx1]; rfl
  clear hb0 hx0 h0 h hb1
  have H1 := Lib.hid h1; have HX1 := Lib.hid hx1; have HB1 := Lib.hid hB1
  clear h1 hx1 hB1
  go_wp2_with fail
  refine (heavy_any ao n k0 l w1 H1.out hn).mono ?_
  rintro e w2 ⟨hv, rfl, hlight, hb2⟩
  have hx2 := heap_below hb2 (lt_of_heap HX1.out) HX1.out
  have q4 : w2.cell? ⟨w.heap.size, 4, none⟩ = some (.slice ao n k0) := by rw [cell_heap hx2]; rfl
  have HX2 := Lib.hid hx2
  have HB2 := Lib.hid (HB1.out.trans (hb2.mono HB1.out.size))
  have H2 := Lib.hid (H1.out.below hb2)
  clear hx2 hb2
  cases hv with
  | true =>
    clear hlight
    go_wp2_with fail
    go_ret
    exact ⟨rfl, HB2.out⟩
  | false =>
    obtain ⟨hn20, hlt⟩ := hlight rfl
    have HLT := Lib.hid hlt
    clear hlight hlt
    by_cases h16 : 16 < n
    · have g1 : decide ((16 : Int) < (n : Int)) = true := by simp; omega
      go_wp2_with fail
      go_ret
      exact ⟨rfl, HB2.out⟩
    · have g1 : decide ((16 : Int) < (n : Int)) = false := by simp; omega
      have p0 : w2.cell? ⟨w.heap.size, 0, none⟩ = some (.int .i64 a) := by rw [cell_heap HX2.out]; rfl
      have p1 : w2.cell? ⟨w.heap.size, 1, none⟩ = some (.int .i64 b) := by rw [cell_heap HX2.out]; rfl
      have p2 : w2.cell? ⟨w.heap.size, 2, none⟩ = some (.int .i64 c) := by rw [cell_heap HX2.out]; rfl
      have p3 : w2.cell? ⟨w.heap.size, 3, none⟩ = some (.int .i64 d) := by rw [cell_heap HX2.out]; rfl
      go_wp2_with fail
      refine (put_any a b c d ao n k0 l w2 H2.out (by omega) (fun x hx => (HLT.out x hx).fit)).mono ?_
      rintro e w3 ⟨a3, n3, c3, rfl, hw3, hb3⟩
      have hgood : GoodP ⟨a, b, c, d, resL l⟩ := ⟨ha, hb, hc, hd, by show (resL l).length ≤ 16; rw [resL, List.length_map, H2.out.len]; omega, fun x hx => (HLT.out x hx).good (hi x hx)⟩
      have HGOOD := Lib.hid hgood
      have hPL : n3 ≤ 5000000000 := by rw [← hw3.is.len]; exact light_len _ HLT.out (by rw [resL, List.length_map, H2.out.len]; omega) _ _ _ _
      have HW3 := Lib.hid hw3
      have HB3 := Lib.hid (HB2.out.trans (hb3.mono HB2.out.size))
      have hle := hw3.le
      clear hw3 hb3 hgood p0 p1 p2 p3 q4
      by_cases hc0 : cut < 0
      · have g2 : decide (cut < 0) = true := by simpa using hc0
        go_wp2_with fail
        go_ret
        exact ⟨rfl, HB3.out⟩
      · have g2 : decide (cut < 0) = false := by simpa using hc0
        obtain ⟨k, rfl⟩ := Int.eq_ofNat_of_zero_le (show 0 ≤ cut by omega)
        by_cases hck : n3 ≤ k
        · have g3 : decide ((n3 : Int) ≤ (k : Int)) = true := by simp; omega
          go_wp2_with fail
          go_ret
          exact ⟨rfl, HB3.out⟩
        · have g3 : decide ((n3 : Int) ≤ (k : Int)) = false := by simp; omega
          have hk2 : k ≤ c3 := by omega
          go_wp2_with fail
          refine (get_any a3 k c3 _ w3 (isB_take HW3.out.is k (by omega)) (by omega)).mono ?_
          rintro e w4 ⟨v4, rs4, rfl, hown4, hres4, hl4, hb4⟩
          have hcutm := getR_cut _ HGOOD.out k (by have := HW3.out.is.len; omega)
          rw [hcutm]
          obtain ⟨a4, c4, e4, hi4⟩ := hown4.isRes
          subst e4
          have HB4 := Lib.hid (HB3.out.trans (hb4.mono HB3.out.size))
          have HI4 := Lib.hid (HW3.out.is.below hb4)
          clear hown4 hres4 hl4 hb4 hi4 hcutm
          simp only [aggP]
          have HB5 := Lib.hid (HB4.out.alloc HB4.out.size (.cells #[.int .i64 0, .int .i64 0, .int .i64 0, .int .i64 0, .slice a4 rs4.length c4] 26))
          have HI5 := Lib.hid (HI4.out.alloc (.cells #[.int .i64 0, .int .i64 0, .int .i64 0, .int .i64 0, .slice a4 rs4.length c4] 26))
          have HO := Lib.hid (OwnB.new (w4.alloc (.cells #[.int .i64 0, .int .i64 0, .int .i64 0, .int .i64 0, .slice a4 rs4.length c4] 26)) (w4.alloc (.cells #[.int .i64 0, .int .i64 0, .int .i64 0, .int .i64 0, .slice a4 rs4.length c4] 26)).heap.size 5 [] #[] rfl (w4.heap.size + 1) (by simp) (Nat.le_refl _) 0 rfl (by decide))
          have hPlen : (putR ⟨a, b, c, d, resL l⟩).length = n3 := HW3.out.is.len
          go_wp2_with (first
            | (at_builtin; refine wpList_append_bytes rfl (.tmp 39) (.tmp 40) 29 rfl (w4.alloc (.cells #[.int .i64 0, .int .i64 0, .int .i64 0, .int .i64 0, .slice a4 rs4.length c4] 26)).heap.size 5 Try.underlying29 info5 _ _ rfl HO.out _ _ _ _ rfl (HI5.out.alloc _) (by simp; omega) (by simp) ?_; intro v6 w6 hown6 hgr6 hb6; have HO6 := Lib.hid hown6; have HB6 := Lib.hid hb6; clear hown6 hgr6 hb6 HO)
            | (at_builtin; go_must (refine wpList_append_bytes rfl (.tmp 41) (.tmp 42) 29 rfl (w4.alloc (.cells #[.int .i64 0, .int .i64 0, .int .i64 0, .int .i64 0, .slice a4 rs4.length c4] 26)).heap.size 5 Try.underlying29 info5 _ _ rfl (HO6.out.alloc _) _ _ _ [0] rfl (isB_new w6 [0] _ (by rfl) _ _ _ (by rfl) 1 rfl _) (by simp; rw [hPlen]; omega) (by have := HB6.out.size; simp at this ⊢; omega) ?_); intro v7 w7 hown7 hgr7 hb7; have HO7 := Lib.hid hown7; have HB7 := Lib.hid hb7; clear hown7 hgr7 hb7))
          have hlen7 : ([] ++ putR ⟨a, b, c, d, resL l⟩ ++ [0]).length = n3 + 1 := by simp [hPlen]
          obtain ⟨a7, c7, rfl, hi7⟩ := HO7.out.isB
          rw [hlen7] at hi7
          rw [hlen7]
          have HI7 := Lib.hid hi7
          clear hi7
          go_wp2_with fail
          refine (get_any a7 (n3 + 1) c7 _ w7 HI7.out (by omega)).mono ?_
          rintro e w8 ⟨v8, rs8, rfl, hown8, hres8, hl8, hb8⟩
          have hmore := getR_more _ HGOOD.out 0 []
          rw [List.nil_append, hmore]
          obtain ⟨a8, c8, e8, hi8⟩ := hown8.isRes
          subst e8
          have s6 : (w4.alloc (.cells #[.int .i64 0, .int .i64 0, .int .i64 0, .int .i64 0, .slice a4 rs4.length c4] 26)).heap.size ≤ w6.heap.size := by have := HB6.out.size; simp at this ⊢; omega
          have hB7 : Below (w4.alloc (.cells #[.int .i64 0, .int .i64 0, .int .i64 0, .int .i64 0, .slice a4 rs4.length c4] 26)).heap.size (w4.alloc (.cells #[.int .i64 0, .int .i64 0, .int .i64 0, .int .i64 0, .slice a4 rs4.length c4] 26)) w7 := ((((Below.refl (w4.alloc (.cells #[.int .i64 0, .int .i64 0, .int .i64 0, .int .i64 0, .slice a4 rs4.length c4] 26)).heap.size (w4.alloc (.cells #[.int .i64 0, .int .i64 0, .int .i64 0, .int .i64 0, .slice a4 rs4.length c4] 26))).alloc (Nat.le_refl _) _).trans HB6.out).alloc s6 _).trans HB7.out
          have HB8 := Lib.hid ((HB5.out.trans (hB7.mono HB5.out.size)).trans (hb8.mono (Nat.le_trans HB5.out.size hB7.size)))
          clear hB7 s6
          clear hown8 hres8 hl8 hb8 hi8 hmore
          simp only [aggP]
          go_wp2_with fail
          go_ret
          exact ⟨rfl, HB8.out.alloc HB8.out.size _⟩
theorem cut_said (a b c d : Int) (ao : Option Addr) (n k0 : Nat) (l : List (Re × Value)) (cut : Int) (w : World) (h : IsRes w ao n l) (hn : n ≤ 140737488355328) (hi : ∀ x ∈ resL l, IntR x)
    (ha : In64 a) (hb : In64 b) (hc : In64 c) (hd : In64 d) (hcut : (Lit.int .i64 cut).wf = true) :
    Calls Try.prog 8 #[aggP a b c d (.slice ao n k0), .int .i64 cut] w fun e w' => e = .returned (.bool true) ∧ Below w.heap.size w w' :=
  cut_walk a b c d cut ao n k0 l w h hn hi ha hb hc hd (lit_i64' hcut)
end Go.Proofs.Ytpikdeikcmdcmaa
