/-
  The walk of FrameOn.
-/
import Derived.Test.YtdmbllokajolhaaAw
import Derived.Test.YtdmbllokajolhaaKitBB2
namespace Go.Proofs.Ytdmbllokajolhaa
open Go.RowKit

/-- frames of records, in the midst of being put -/
def Part (W : World) (ls : List (List UInt8)) (k : Nat) (v : Value) (wr : World) : Prop :=
  (∀ j, j < k → (ls.getD j []).length ≤ 200) ∧ OwnB wr W.heap.size 5 v (frames (ls.take k)) ∧ (frames (ls.take k)).length ≤ 212 * k ∧ Below W.heap.size W wr
theorem frames_take (ls : List (List UInt8)) (k : Nat) (h : k < ls.length) : frames (ls.take (k + 1)) = frames (ls.take k) ++ frameF (ls.getD k []) := by
  rw [List.take_succ_eq_append_getElem h, frames_append]
  simp [h, frames]
theorem part_step {W : World} {ls : List (List UInt8)} {k : Nat} {v v' : Value} {wr w' : World} (h : Part W ls k v wr) (hk : k < ls.length) (hs : (ls.getD k []).length ≤ 200)
    (hown : OwnB w' wr.heap.size 5 v' (frames (ls.take k) ++ frameF (ls.getD k []))) (hb : Below wr.heap.size wr w') : Part W ls (k + 1) v' w' := by
  obtain ⟨h1, h2, h3, h4⟩ := h
  refine ⟨fun j hj => ?_, by rw [frames_take ls k hk]; exact hown.mono h4.size, ?_, h4.trans (hb.mono h4.size)⟩
  · by_cases hjk : j = k
    · subst hjk; exact hs
    · exact h1 j (by omega)
  · rw [frames_take ls k hk, List.length_append, frameF_len]
    omega
theorem part_zero {W w : World} (ls : List (List UInt8)) (hb : Below W.heap.size W w) : Part W ls 0 (.slice none 0 0) w :=
  ⟨fun j hj => by omega, OwnB.nil _ _ _, by simp [frames], hb⟩
theorem part_all {ls : List (List UInt8)} {k : Nat} (h : ∀ j, j < k → (ls.getD j []).length ≤ 200) (hk : ls.length = k) : ∀ r ∈ ls, r.length ≤ 20000 := by
  intro s hs
  obtain ⟨j, hj, rfl⟩ := List.getElem_of_mem hs
  have := h j (by omega)
  simp [hj] at this
  omega
theorem Part.below {W w w' : World} {ls : List (List UInt8)} {k : Nat} {v : Value} (h : Part W ls k v w) (hb : Below w.heap.size w w') : Part W ls k v w' :=
  ⟨h.1, h.2.1.below hb, h.2.2.1, h.2.2.2.trans (hb.mono h.2.2.2.size)⟩
/-- an element of a row that came in, at a later world -/
theorem row_at {W wr : World} {ao : Option Addr} {n : Nat} {ls : List (List UInt8)} (h : IsBB W ao n ls) (hb : Below W.heap.size W wr) (k : Nat) (hk : k < n) :
    ∃ b off a m c, ao = some ⟨b, off, none⟩ ∧ wr.cell? ⟨b, off + k, none⟩ = some (.slice a m c) ∧ IsB wr a m c (ls.getD k []) ∧ m ≤ 140737488351232 := by
  rcases h.at_ with h0 | ⟨b, off, h1, h2⟩
  · omega
  · obtain ⟨a, m, c, q1, q2, q3⟩ := h2 k hk
    exact ⟨b, off, a, m, c, h1, cell_later hb q1, q2.below hb, q3⟩

set_option maxHeartbeats 1000000 in
theorem on_walk (ao : Option Addr) (n c : Nat) (L : List (List UInt8)) (bo : Option Addr) (q c2 : Nat) (M : List (List UInt8)) (W : World) (h : IsBB W ao n L) (h2 : IsBB W bo q M) (hn9 : n ≤ 5864062014810) (hq9 : q ≤ 5864062014810) :
    Calls Try.prog 7 #[.slice ao n c, .slice bo q c2] W fun e w' => e = .returned (.bool true) ∧ Below W.heap.size W w' := by
  by_cases hn : 8 < n
  · go_enter Try.func7, Try.ntmps7
    go_wp2_with fail
    refine (awake_any _).mono ?_
    rintro e w0 ⟨rfl, hb0⟩
    go_wp2_with fail
    go_ret
    exact ⟨rfl, hb0⟩
  by_cases hq : 8 < q
  · go_enter Try.func7, Try.ntmps7
    go_wp2_with fail
    refine (awake_any _).mono ?_
    rintro e w0 ⟨rfl, hb0⟩
    go_wp2_with fail
    go_ret
    exact ⟨rfl, hb0⟩
  have HA := Lib.hid h; clear h
  have HQ := Lib.hid h2; clear h2
  go_enter Try.func7, Try.ntmps7
  go_wp2_with fail
  refine (awake_any _).mono ?_
  rintro e w0 ⟨rfl, hb0⟩
  go_wp2_with fail
  go_loopw [5, 7] (fun v i wr => ∃ k : Nat, k ≤ n ∧ i = .int .i64 (k : Int) ∧ Part W L k v wr) (fun _ i _ => n - (intOf i).toNat)
  case atStart => exact ⟨0, by omega, rfl, part_zero _ hb0⟩
  case round =>
    obtain ⟨k, hk, rfl, hp⟩ := hrel
    clear hb0
    by_cases hlt : k < n
    · have hp' := hp
      obtain ⟨_, hown, hlen, hbl⟩ := hp'
      obtain ⟨b, off, a, m, cc, rfl, hcell, hbs, hm⟩ := row_at HA.out hbl k hlt
      have hka : k < L.length := by rw [HA.out.len]; exact hlt
      have hml := hbs.len
      obtain ⟨a1, c1, rfl, hb1⟩ := own_len hown _ rfl
      have HS := Lib.hid (fun (hs : (L.getD k []).length ≤ 200) => @part_step W L k _ · wr · hp hka hs)
      have HP := Lib.hid hp; clear hp
      generalize L.getD k [] = r at hbs HS hml
      generalize (frames (L.take k)).length = q1 at *
      have HB := Lib.hid hbs; clear hbs
      have HB1 := Lib.hid hb1; clear hb1 hown hbl
      have HML := Lib.hid hml; clear hml
      by_cases hs : 200 < m
      · go_wp2_with fail
        go_ret
        exact ⟨rfl, HP.out.2.2.2⟩
      · go_wp2_with fail
        refine (put_ok a1 _ c1 _ a m cc r _ HB1.out HB.out (by omega) (by omega)).mono ?_
        rintro e w3 ⟨v3, rfl, hown3, hb3⟩
        go_wp2_with fail
        go_roundw
        case rel => exact ⟨k + 1, by omega, by go_num, HS.out _ _ (by rw [HML.out]; omega) hown3 hb3⟩
        case measure => simp [intOf]; omega
    · obtain rfl : k = n := by omega
      have HP := Lib.hid hp; clear hp
      obtain ⟨wo, rfl⟩ : ∃ wo : World, wo = wr := ⟨_, rfl⟩
      go_wp2_with fail
      go_loopw [6, 8] (fun v i w2 => ∃ j : Nat, j ≤ q ∧ i = .int .i64 (j : Int) ∧ Part W M j v w2 ∧ Below wo.heap.size wo w2) (fun _ i _ => q - (intOf i).toNat)
      case atStart => exact ⟨0, by omega, rfl, part_zero _ HP.out.2.2.2, Below.refl _ _⟩
      case round =>
        obtain ⟨j, hj, rfl, hp, hgw⟩ := hrel
        by_cases hlt2 : j < q
        · have hp' := hp
          obtain ⟨_, hown, hlen, hbl⟩ := hp'
          obtain ⟨b, off, a, m, cc, rfl, hcell, hbs, hm⟩ := row_at HQ.out hbl j hlt2
          have hka : j < M.length := by rw [HQ.out.len]; exact hlt2
          have hml := hbs.len
          obtain ⟨a1, c1, rfl, hb1⟩ := own_len hown _ rfl
          have HS := Lib.hid (fun (hs : (M.getD j []).length ≤ 200) => @part_step W M j _ · wr · hp hka hs)
          have HP2 := Lib.hid hp; clear hp
          have HG := Lib.hid hgw; clear hgw
          generalize M.getD j [] = r at hbs HS hml
          generalize (frames (M.take j)).length = q1 at *
          have HB := Lib.hid hbs; clear hbs
          have HB1 := Lib.hid hb1; clear hb1 hown hbl
          have HML := Lib.hid hml; clear hml
          by_cases hs : 200 < m
          · go_wp2_with fail
            go_ret
            exact ⟨rfl, HP2.out.2.2.2⟩
          · go_wp2_with fail
            refine (put_ok a1 _ c1 _ a m cc r _ HB1.out HB.out (by omega) (by omega)).mono ?_
            rintro e w3 ⟨v3, rfl, hown3, hb3⟩
            go_wp2_with fail
            go_roundw
            case rel => exact ⟨j + 1, by omega, by go_num, HS.out _ _ (by rw [HML.out]; omega) hown3 hb3, HG.out.trans (hb3.mono HG.out.size)⟩
            case measure => simp [intOf]; omega
        · obtain rfl : j = q := by omega
          have hp1 := HP.out.below hgw
          clear HP hgw
          obtain ⟨hs1, hown1, hl1, hbl⟩ := hp1
          obtain ⟨hs2, hown2, hl2, _⟩ := hp
          rw [List.take_of_length_le (by rw [HA.out.len]; exact Nat.le_refl _)] at hown1 hl1
          rw [List.take_of_length_le (by rw [HQ.out.len]; exact Nat.le_refl _)] at hown2 hl2
          have hfl := Lib.hid (scanAll_frames L (part_all hs1 HA.out.len))
          have hfm := Lib.hid (scanAll_frames M (part_all hs2 HQ.out.len))
          have hfb := Lib.hid (scanAll_frames (L ++ M) (fun r hr => by
            rcases List.mem_append.1 hr with h | h
            · exact part_all hs1 HA.out.len r h
            · exact part_all hs2 HQ.out.len r h))
          rw [frames_append] at hfb
          obtain ⟨x1, d1, rfl, hx1, hx2, hx3⟩ := own_room hown1 _ rfl
          obtain ⟨y1, e1, rfl, hy1, hy2, hy3⟩ := own_room hown2 _ rfl
          have HL := Lib.hid (show (frames L ++ frames M).length = (frames L).length + (frames M).length from List.length_append)
          generalize hfL : frames L = F at *
          generalize hfM : frames M = G at *
          generalize hnF : F.length = nF at *
          generalize hnG : G.length = nG at *
          have HX := Lib.hid hx1
          have HY := Lib.hid hy1
          clear hs1 hs2 hown1 hown2 hx1 hy1 hfL hfM hnF hnG
          have hcA : ([] : List UInt8).length + nF ≤ 140737488355328 := by simp; omega
          have hcB : (([] : List UInt8) ++ F).length + nG ≤ 140737488355328 := by
            have := HX.out.len
            simp; omega
          have hz0 := hbl.size
          go_wp2_with (first
            | (at_builtin; refine wpList_append_bytes rfl (.tmp 71) (.tmp 72) 23 rfl wr.heap.size 5 Try.underlying23 info5 _ [] rfl (OwnB.new _ _ _ [] _ rfl _ rfl (by exact Nat.le_refl _) 0 rfl (by decide)) _ _ _ _ rfl (HX.out.alloc _) hcA (by simp) ?_; intro v3 w3 hown3 hgr3 hb3; clear hgr3; have HO3 := Lib.hid hown3; clear hown3; have hb23 : Below wr.heap.size wr w3 := ((Below.refl _ _).alloc (Nat.le_refl _) _).trans hb3; have hz23 := hb23.size; have HY3 := Lib.hid (HY.out.below hb23))
            | (at_builtin; refine wpList_append_bytes rfl (.tmp 73) (.tmp 74) 23 rfl wr.heap.size 5 Try.underlying23 info5 _ _ rfl HO3.out _ _ _ _ rfl HY3.out hcB hz23 ?_; intro v4 w4 hown4 hgr4 hb4; clear hgr4; rw [List.nil_append] at hown4; obtain ⟨a4, c4, hv4, hbs4, hc4, hcm4⟩ := own_room hown4 _ HL.out; subst hv4; clear hown4))
          have hb24 : Below wr.heap.size wr w4 := hb23.trans hb4
          have hB4 := hbl.trans (hb24.mono hz0)
          have HX4 := Lib.hid (HX.out.below hb24)
          have HY4 := Lib.hid (HY.out.below hb24)
          have H4 := Lib.hid hbs4
          clear hb23 hb3 hb4 hb24 HO3 HY3 hbs4 HX HY hbl
          refine (scan_any a4 (nF + nG) c4 _ _ H4.out (by omega) hc4 hcm4).mono ?_
          rw [hfb.out, HL.out]
          rintro e w5 ⟨v5, he, hown5, hb5⟩
          unfold Recs at he
          subst he
          obtain ⟨a5, c5, rfl, hbb5, _⟩ := hown5.isBB (k + j) (by rw [List.length_append, HA.out.len, HQ.out.len])
          have hB5 := hB4.trans (hb5.mono hB4.size)
          have HX5 := Lib.hid (HX4.out.below hb5)
          have HY5 := Lib.hid (HY4.out.below hb5)
          have H5 := Lib.hid hbb5
          clear hown5 hb5 HX4 HY4 H4 hfb hB4 hbb5
          go_wp2_with fail
          refine (scan_any x1 nF d1 _ _ HX5.out (by omega) hx2 hx3).mono ?_
          rw [hfl.out]
          rintro e w6 ⟨v6, he, hown6, hb6⟩
          unfold Recs at he
          subst he
          obtain ⟨a6, c6, rfl, hbb6, _, hc6⟩ := hown6.isBB2 k HA.out.len
          have hB6 := hB5.trans (hb6.mono hB5.size)
          have HY6 := Lib.hid (HY5.out.below hb6)
          have H6 := Lib.hid (H5.out.below hb6)
          have H66 := Lib.hid hbb6
          clear hown6 hb6 HX5 HY5 H5 hfl hB5 hbb6
          go_wp2_with fail
          refine (scan_any y1 nG e1 _ _ HY6.out (by omega) hy2 hy3).mono ?_
          rw [hfm.out]
          rintro e w7 ⟨v7, he, hown7, hb7⟩
          unfold Recs at he
          subst he
          obtain ⟨a7, c7, rfl, hbb7, _, hc7⟩ := hown7.isBB2 j HQ.out.len
          have hB7 := hB6.trans (hb7.mono hB6.size)
          have H7 := Lib.hid (H6.out.below hb7)
          have H77 := Lib.hid (H66.out.below hb7)
          have H78 := Lib.hid hbb7
          clear hown7 hb7 HY6 H6 H66 hfm hB6 hbb7
          have hcc1 : ([] : List (List UInt8)).length + k ≤ 4398046511104 := by simp; omega
          have hcc2 : ([] ++ L).length + j ≤ 4398046511104 := by rw [List.nil_append, HA.out.len]; omega
          have HC6 := Lib.hid hc6
          have HC7 := Lib.hid hc7
          clear hc6 hc7
          have hz7 := hB7.size
          go_wp2_with (first
            | (at_builtin; refine wpList_wanted (by rfl) ?_; refine wpList_append_elems rfl (.tmp 111) (.tmp 112) 27 rfl w7.heap.size 23 Try.underlying27 info23 _ [] rfl (OwnBB.empty _ _ _ _ rfl (Nat.le_refl _)) _ _ _ L rfl w7 H77.out ((Below.refl _ _).alloc (Nat.le_refl _) _) (Nat.le_refl _) HC6.out hcc1 (by simp) ?_; intro v8 w8 hown8 hgr8 hb8; clear hgr8; have HO8 := Lib.hid hown8; clear hown8; have hb78 : Below w7.heap.size w7 w8 := ((Below.refl _ _).alloc (Nat.le_refl _) _).trans hb8; have hz78 := hb78.size)
            | (at_builtin; refine wpList_wanted (by rfl) ?_; refine wpList_append_elems rfl (.tmp 113) (.tmp 114) 27 rfl w7.heap.size 23 Try.underlying27 info23 _ _ rfl HO8.out _ _ _ M rfl w7 H78.out hb78 (Nat.le_refl _) HC7.out hcc2 hz78 ?_; intro v9 w9 hown9 hgr9 hb9; clear hgr9; rw [List.nil_append] at hown9; obtain ⟨a9, c9, hv9, hbb9, _⟩ := hown9.isBB (k + j) (by rw [List.length_append, HA.out.len, HQ.out.len]); subst hv9; clear hown9))
          have hb79 := hb78.trans hb9
          have hB9 := hB7.trans (hb79.mono hz7)
          have H9 := Lib.hid (H7.out.below hb79)
          have H99 := Lib.hid hbb9
          clear hb9 hb8 hb78 HO8 H77 H78 H7 hbb9 hb79 hB7
          refine (all_any a5 _ _ _ _ _ _ _ _ H9.out H99.out (by omega) (by omega)).mono ?_
          rw [show sameL (L ++ M) (L ++ M) = true from by unfold sameL; simp]
          rintro e w10 ⟨rfl, d, rfl⟩
          have hB10 := below_draws hB9 d
          clear H9 H99 hB9
          go_wp2_with fail
          go_ret
          exact ⟨rfl, hB10⟩
theorem on_said (ao : Option Addr) (n c : Nat) (L : List (List UInt8)) (bo : Option Addr) (q c2 : Nat) (M : List (List UInt8)) (W : World) (h : IsBB W ao n L) (hnc : n ≤ c) (hc : c * 24 ≤ 140737488351232) (h2 : IsBB W bo q M) (hqc : q ≤ c2) (hc2 : c2 * 24 ≤ 140737488351232) :
    Calls Try.prog 7 #[.slice ao n c, .slice bo q c2] W fun e w' => e = .returned (.bool true) ∧ Below W.heap.size W w' :=
  on_walk ao n c L bo q c2 M W h h2 (by omega) (by omega)
end Go.Proofs.Ytdmbllokajolhaa
