/-
  What is sent comes out in its order, each once; what is doubled twice: the walk.
-/
import Derived.Test.YtmehgkbhpfcmpaaKeep2
import Derived.Test.YtmehgkbhpfcmpaaFrameI
import Derived.Deep.Grids
namespace Go.Proofs.Ytmehgkbhpfcmpaa
open Go.RowKit

theorem num_cell {w : World} {ao : Option Addr} {n c : Nat} {l : List Int} (h : IsI w ao n c l) {k : Nat} (hk : k < n) : ∃ b off, ao = some ⟨b, off, none⟩ ∧ w.cell? ⟨b, off + k, none⟩ = some (.int .i64 (l.getD k 0)) := by
  rcases h.at_ with h0 | ⟨b, off, h1, h2⟩
  · omega
  · exact ⟨b, off, h1, h2 k hk⟩
theorem flag_cell {w : World} {ao : Option Addr} {n : Nat} {l : List Bool} (h : IsFl w ao n l) {k : Nat} (hk : k < n) : ∃ b off, ao = some ⟨b, off, none⟩ ∧ w.cell? ⟨b, off + k, none⟩ = some (.bool (l.getD k false)) := by
  rcases h.at_ with h0 | ⟨b, off, h1, h2⟩
  · omega
  · exact ⟨b, off, h1, h2 k hk⟩
/-- APPEND of one number, and where it goes -/
theorem wpList_append_one {w : World} {ops : Array Oper} {rest : List Oper} {o : Oper} {a : Act} {Q : Exit → Act → World → Prop} (hgd : o.guard = none) (s x : Operand)
    (ho : o.op = .call { callee := .builtin .append, args := #[s, x], argTypes := #[29, 29] })
    (base : Nat) (v : Value) (l : List Int) (hs : a.eval s = v) (hown : OwnI w base 2 v l)
    (H : Nat) (u : Int) (hx : a.eval x = .slice (some ⟨H, 0, none⟩) 1 1) (hcell : w.cell? ⟨H, 0, none⟩ = some (.int .i64 u))
    (hbytes : l.length + 1 ≤ 1000000) (hbase : base ≤ w.heap.size)
    (h : ∀ g cap w', OwnI w' base 2 (.slice (some ⟨g, 0, none⟩) (l.length + 1) cap) (l ++ [u]) → w.grownBy w' v.ownBlock → (v.ownBlock = some g ∨ g = w.heap.size) → wpList Try.prog ops Q rest (a.put o.dst (.slice (some ⟨g, 0, none⟩) (l.length + 1) cap)) w') : wpList Try.prog ops Q (o :: rest) a w := by
  obtain ⟨i0, hi0, hz0, hz1, hz2⟩ := info_parts info2
  refine wpList_append_lies w hgd s x 29 ho base 2 i0 _ 1 8 Try.underlying29 hi0 hz0 hz1 hz2 rfl (by decide) v l.length (l.map iv) hs hown ⟨H, 0, none⟩ 1 1 [iv u] hx rfl ?_ ?_ (by decide) (by unfold maxLen; omega) (by omega) hbase w.heap.size rfl ?_
  · intro j y hj
    rw [Addr.add_lit]
    cases j with
    | zero =>
      obtain rfl : iv u = y := by simpa using hj
      exact hcell
    | succ j => simp at hj
  · intro y hy
    obtain rfl : y = iv u := by simpa using hy
    rfl
  · intro g cap w' g1 g2 g3 _
    refine h g cap w' ?_ g2 g3
    unfold OwnI
    rw [List.map_append, List.length_append]
    exact g1
theorem takeI_next (l : List Int) (k : Nat) (hk : k < l.length) : l.take (k + 1) = l.take k ++ [l.getD k 0] := by
  rw [List.take_succ_eq_append_getElem hk]
  simp [hk]
theorem ones_append (l m : List Int) : ones (l ++ m) = ones l ++ ones m := by simp [ones]
theorem ones_len (l : List Int) : (ones l).length = l.length := by simp [ones]
theorem ns_len {l : List Ms} {m : List Int} (h : l.map Ms.ns = ones m) : l.length = m.length := by
  have := congrArg List.length h
  simpa [ones] using this
theorem ns_at {l : List Ms} {m : List Int} (h : l.map Ms.ns = ones m) (k : Nat) (hk : k < m.length) : (l.getD k m0).ns = [m.getD k 0] := by
  have hl := ns_len h
  have h1 : (l.map Ms.ns)[k]? = (ones m)[k]? := by rw [h]
  rw [List.getElem?_map, ones, List.getElem?_map, List.getElem?_eq_getElem (by omega), List.getElem?_eq_getElem hk] at h1
  simp only [Option.map_some, Option.some.injEq] at h1
  simp [List.getD_eq_getElem?_getD, hk, show k < l.length by omega, h1]

theorem take_first {w0 w : World} {base a : Nat} {l : List Ms} {x : Int} {rest : List (List Int)} (h : OursN w0 w base a (ordN l) []) (hns : l.map Ms.ns = [x] :: rest) (hl : l.length ≤ 1000) :
    Calls Try.prog 19 #[.pointer (some ⟨a, 0, none⟩), .int .i64 0] w fun e w' => ∃ f t k b off cN, e = .returned (.tuple #[.agg #[.int .i64 f, .int .i64 t, .int .i64 k, .slice (some ⟨b, off, none⟩) 1 cN, .slice none 0 0], .bool true]) ∧ w'.cell? ⟨b, off, none⟩ = some (.int .i64 x) ∧ OursN w0 w' base a (ordN l.tail) [] ∧ Keeps2 w w' := by
  cases l with
  | nil => simp at hns
  | cons m l =>
    simp only [List.map_cons, List.cons.injEq] at hns
    have hm : getN (ordN (m :: l)) 0 = m := rfl
    have := take_some2 h 0 (by show 0 < (m :: l).length; simp) (by show (m :: l).length ≤ 1000000; omega) (by rw [hm, hns.1]; exact Nat.le_of_ble_eq_true rfl)
    rw [hm, hns.1] at this
    refine this.mono ?_
    rintro e w' ⟨v, rfl, hv, hu, hk⟩
    obtain ⟨av, cv, rfl, hi⟩ := hv.isI
    rcases hi.at_ with h0 | ⟨b, off, rfl, hc⟩
    · simp at h0
    · have h0 := hc 0 (by simp)
      exact ⟨m.from_, m.to_, m.kind, b, off, cv, rfl, by simpa using h0, hu, hk⟩
theorem getD_left (l m : List Int) (k : Nat) (hk : k < l.length) : (l ++ m).getD k 0 = l.getD k 0 := by
  simp [List.getD_eq_getElem?_getD, List.getElem?_append_left hk]
theorem drop_one (l : List Int) (m : Nat) (hm : m < l.length) : ones (l.drop m) = [l.getD m 0] :: ones (l.drop (m + 1)) := by
  rw [List.drop_eq_getElem_cons hm, show l.getD m 0 = l[m] by simp [hm]]
  generalize l.drop (m + 1) = r
  rfl

set_option maxHeartbeats 8000000 in
set_option maxRecDepth 100000 in
theorem order_any (ao : Option Addr) (n c : Nat) (L : List Int) (bo : Option Addr) (q c2 : Nat) (tw : List Bool) (W : World) (h : IsI W ao n c L) (hnc : n ≤ c) (h2 : IsFl W bo q tw) (hqc : q ≤ c2) :
    Calls Try.prog 6 #[.slice ao n c, .slice bo q c2] W fun e w' => e = .returned (.bool true) ∧ Below W.heap.size W w' := by
  have HA := Lib.hid (awake_any W)
  have HI := Lib.hid h
  have HF := Lib.hid h2
  clear h h2
  by_cases hbad : 30 < n ∨ n < q
  · have hq : 30 < n ∨ (n ≤ 30 ∧ n < q) := by omega
    clear hbad
    rcases hq with q1 | ⟨q1, q2⟩
    all_goals
      go_enter Try.func6, Try.ntmps6
      go_wp2_with fail
      refine HA.out.mono ?_
      rintro e w1 ⟨rfl, hb1⟩
      have HB1 := Lib.hid hb1; clear hb1
      go_wp2_with fail
      go_ret
      exact ⟨rfl, HB1.out⟩
  · obtain ⟨q1, q2⟩ : n ≤ 30 ∧ q ≤ n := by omega
    clear hbad
    have HN := Lib.hid (fun w1 (hb : Below W.heap.size W w1) => new_ours W w1 W.heap.size 3 100 (by decide) (by decide) (by decide) (by decide) hb hb.size)
    have HLN := Lib.hid HI.out.len
    go_enter Try.func6, Try.ntmps6
    go_wp2_with fail
    refine HA.out.mono ?_
    rintro e w1 ⟨rfl, hb1⟩
    have HB1 := Lib.hid hb1; clear hb1
    go_wp2_with fail
    refine (HN.out w1 HB1.out).mono ?_
    rintro e w2 ⟨a, rfl, hu⟩
    have HU2 : Hid (OursN W w2 W.heap.size a (ordN []) []) := Lib.hid hu
    clear hu
    go_wp2_with fail
    go_loopw [7] (fun i wr => ∃ (k : Nat) (l : List Ms), k ≤ n ∧ i = .int .i64 (k : Int) ∧ l.map Ms.ns = ones (L.take k) ∧ OursN W wr W.heap.size a (ordN l) []) (fun i _ => n - (intOf i).toNat)
    case atStart => exact ⟨0, [], by omega, rfl, rfl, HU2.out⟩
    case round =>
      obtain ⟨k, l, hk, rfl, hl, hu⟩ := hrel
      have HL := Lib.hid hl; clear hl
      have HU := Lib.hid hu; clear hu
      by_cases hlt : k < n
      · obtain ⟨b, off, rfl, hc⟩ := num_cell (HI.out.below HU.out.below) hlt
        have htk := takeI_next L k (by rw [HLN.out]; exact hlt)
        have HTK := Lib.hid htk; clear htk
        generalize L.getD k 0 = x at *
        have hll : l.length = k := by rw [ns_len HL.out, List.length_take, HLN.out]; omega
        have HS := Lib.hid (send_ours HU.out (ready_one wr ((k : Int) % 3) (((k : Int) + 1) % 3) 0 x) 1 (Nat.le_refl _) (by show l.length + 1 ≤ 100000; omega) (by show (3 : Int) ≤ 64; omega) (by show (100 : Int) ≤ 65536; omega) 1 1 rfl _ (ord_send l _ _ x (by omega) (by omega) (by omega) (by omega) (by omega)) (by show (1 : Int) = (((l ++ [_]).length - l.length : Nat) : Int); simp))
        go_wp2_with fail
        refine HS.out.mono ?_
        rintro e w4 ⟨rfl, hu⟩
        have HU4 := Lib.hid hu; clear hu
        go_wp2_with fail
        go_roundw
        case rel => exact ⟨k + 1, _, by omega, by go_num, by rw [HTK.out, ones_append, List.map_append, HL.out]; rfl, HU4.out⟩
        case measure => simp [intOf]; omega
      · obtain rfl : k = n := by omega
        have hl : l.map Ms.ns = ones L := by rw [HL.out, List.take_of_length_le (by rw [HLN.out]; exact Nat.le_refl _)]
        have HLL := Lib.hid hl
        have HIW := Lib.hid (HI.out.below HU.out.below)
        clear hl HL
        go_wp2_with (at_builtin; go_loud (refine wpList_append_ints rfl _ _ 29 rfl wr.heap.size 2 Try.underlying29 info2 _ [] rfl (OwnI.nil _ _ _) _ _ _ L rfl HIW.out (by simp; omega) (Nat.le_refl _) ?_; intro v3 w3 hown3 hgr3 hb3; have HB3 := Lib.hid hb3; have HG3 := Lib.hid hgr3; have HW := Lib.hid hown3; clear hgr3 hb3 hown3))
        have hb3 : Below wr.heap.size wr w3 := (Below.refl _ _).grown HG3.out (Nat.le_refl _) (fun j hj => by cases hj)
        have HU3 := Lib.hid (HU.out.later hb3)
        have HAP3 : Hid (∀ D, v3.ownBlock = some D → Apart2 w3 a D) := Lib.hid (fun D hD => by
          obtain ⟨g, mb, hN⟩ := HU.out.is
          exact apart_new hN hb3 (OwnI.lt HW.out D hD).1)
        have HW3 : Hid (OwnI w3 W.heap.size 2 v3 L) := Lib.hid (by have := HW.out; rw [List.nil_append] at this; exact this.mono HU.out.size)
        clear hb3 HG3 HW HB3 HU HIW HU2 HN
        go_loopw [8, 9] (fun v i wr2 => ∃ (j : Nat) (ex : List Int) (l : List Ms), j ≤ q ∧ i = .int .i64 (j : Int) ∧ ex.length ≤ j ∧ OwnI wr2 W.heap.size 2 v (L ++ ex) ∧ l.map Ms.ns = ones (L ++ ex) ∧ OursN W wr2 W.heap.size a (ordN l) [] ∧ ∀ D, v.ownBlock = some D → Apart2 wr2 a D) (fun _ i _ => q - (intOf i).toNat)
        case atStart => exact ⟨0, [], l, by omega, rfl, by simp, by simpa using HW3.out, by simpa using HLL.out, HU3.out, HAP3.out⟩
        case round =>
          obtain ⟨j, ex, l, hj, rfl, hex, hw, hl, hu, hap⟩ := hrel
          have HAP := Lib.hid hap; clear hap
          have hwj : ∀ i, i < k → (L ++ ex).getD i 0 = L.getD i 0 := fun i hi => getD_left L ex i (by rw [HLN.out]; exact hi)
          have hwl : (L ++ ex).length = k + ex.length := by rw [List.length_append, HLN.out]
          have hwx : ∀ x, (L ++ ex) ++ [x] = L ++ (ex ++ [x]) := fun x => List.append_assoc ..
          generalize hwe : L ++ ex = wl at *
          have HWE := Lib.hid hwe; clear hwe
          have HWX := Lib.hid hwx; have HWJ := Lib.hid hwj; have HWLEN := Lib.hid hwl
          have hwl90 : wl.length ≤ 90 := by omega
          clear hwx hwj hwl
          have HWL := Lib.hid hl; clear hl
          have HWW := Lib.hid hw
          have HUJ := Lib.hid hu; clear hu
          have hll : l.length = k + ex.length := by rw [ns_len HWL.out, HWLEN.out]
          obtain ⟨av, cv, rfl, _⟩ := hw.isI
          by_cases hlt2 : j < q
          · obtain ⟨b, off, rfl, hc⟩ := flag_cell (HF.out.below HUJ.out.below) hlt2
            generalize tw.getD j false = fl at *
            cases fl with
            | false =>
              go_wp2_with fail
              go_roundw
              case rel => exact ⟨j + 1, ex, l, by omega, by go_num, by omega, by rw [HWE.out]; exact HWW.out, by rw [HWE.out]; exact HWL.out, HUJ.out, HAP.out⟩
              case measure => simp [intOf]; omega
            | true =>
              have hns := ns_at HWL.out j (by rw [HWLEN.out]; omega)
              rw [HWJ.out j (by omega)] at hns
              have HNS := Lib.hid hns
              have HCP := Lib.hid (copy_ok2 HUJ.out j (by show j < l.length; omega) (by show (l.length : Int) < 100; omega) (by show (100 : Int) ≤ 65536; omega) (by show (l.getD j m0).ns.length ≤ 1000000; rw [hns]; exact Nat.le_of_ble_eq_true rfl))
              clear hns hw
              go_wp2_with fail
              refine HCP.out.mono ?_
              rintro e w4 ⟨rfl, hu4, hk4, hap4⟩
              have HU4 := Lib.hid hu4
              have HW4 := Lib.hid (HWW.out.keeps2 hk4)
              have HAP4 : Hid (∀ D, (Value.slice av wl.length cv).ownBlock = some D → Apart2 w4 a D) := Lib.hid (fun D hD => hap4 D (OwnI.lt HWW.out D hD).2 (HAP.out D hD))
              obtain ⟨b2, off2, rfl, hc2⟩ := num_cell (HI.out.below hu4.below) (show j < k by omega)
              generalize hx : L.getD j 0 = x at *
              have hbs := hu4.size
              clear hu4 hk4 hx hap4
              go_wp2_with (at_builtin; go_loud (refine wpList_append_one rfl _ _ rfl W.heap.size _ wl rfl (HW4.out.alloc _) w4.heap.size x rfl (by rw [World.cell?_alloc_mark]; rfl) (by omega) (by simp; omega) ?_; intro g5 c5 w5 hown5 hgr5 hat5; have HG5 := Lib.hid hgr5; have HAT5 := Lib.hid hat5; have HO5 := Lib.hid hown5; clear hgr5 hat5 hown5))
              go_roundw
              case rel =>
                have hg5 : (w4.alloc (.cells #[.int .i64 x] 2)).grownBy w5 (Value.slice av wl.length cv).ownBlock := HG5.out
                have hfin : OursN W w5 W.heap.size a (ordN (l ++ [l.getD j m0])) [] ∧ Apart2 w5 a g5 := by
                  obtain ⟨g, mb, hN⟩ := HU4.out.is
                  have hN' := hN.below ((Below.refl w4.heap.size w4).alloc (Nat.le_refl _) (.cells #[.int .i64 x] 2))
                  have hba : Below w4.heap.size w4 (w4.alloc (.cells #[.int .i64 x] 2)) := (Below.refl _ _).alloc (Nat.le_refl _) _
                  have hat := HAT5.out
                  cases hob : (Value.slice av wl.length cv).ownBlock with
                  | none =>
                    rw [hob] at hg5
                    have hb5 : Below w4.heap.size w4 w5 := hba.trans ((Below.refl _ _).grown hg5 (by simp) (fun j hj => by cases hj))
                    have hat' : (none : Option Nat) = some g5 ∨ g5 = (w4.alloc (.cells #[.int .i64 x] 2)).heap.size := by rw [← hob]; exact hat
                    refine ⟨HU4.out.later hb5, apart_new hN hb5 ?_⟩
                    rcases hat' with h | h
                    · cases h
                    · rw [h]; simp
                  | some D =>
                    rw [hob] at hg5
                    obtain ⟨_, cur, hcD⟩ := rows_block HW4.out hob
                    have hcD' := heap_old hcD (.cells #[.int .i64 x] 2)
                    have hAD := HAP4.out D hob
                    have ho : Only [D] (w4.alloc (.cells #[.int .i64 x] 2)) w5 := (Only.refl [D] _).grown hg5 (fun k hk => by cases hk; simp)
                    have ho4 : Only [D] w4 w5 := (((Only.refl [D] w4).alloc _).grown hg5 (fun k hk => by cases hk; simp))
                    have hN5 := hN.avoid hAD ⟨cur, _, hcD⟩ ho4
                    have hDb : W.heap.size ≤ D := (OwnI.lt HW4.out D hob).1
                    refine ⟨⟨⟨g, mb, hN5⟩, HU4.out.below.trans (ho4.below HU4.out.size (by simpa using hDb)), Nat.le_trans HU4.out.size ho4.size⟩, ?_⟩
                    have hat' : some D = some g5 ∨ g5 = (w4.alloc (.cells #[.int .i64 x] 2)).heap.size := by rw [← hob]; exact hat
                    rcases hat' with h | h
                    · cases h
                      exact hAD.only hN ho4 ⟨cur, _, hcD⟩
                    · have hnew : Apart2 w4 a g5 := apart_new hN (Below.refl _ _) (by rw [h]; simp)
                      exact hnew.only hN ho4 ⟨cur, _, hcD⟩
                refine ⟨j + 1, ex ++ [x], _, by omega, by go_num, by simp; omega, by rw [← List.append_assoc, HWE.out]; exact HO5.out, ?_, hfin.1, fun D hD => by cases hD; exact hfin.2⟩
                rw [← List.append_assoc, HWE.out, ones_append]
                show (l ++ [l.getD j m0]).map Ms.ns = _
                rw [List.map_append, HWL.out, List.map_singleton, HNS.out]
                rfl
              case measure => simp [intOf]; omega
          · obtain rfl : j = q := by omega
            clear HAP hw HLL HU3 HW3 HAP3
            go_wp2_with fail
            go_loopw [10] (fun i wr3 => ∃ (m : Nat) (l : List Ms), m ≤ wl.length ∧ i = .int .i64 (m : Int) ∧ OwnI wr3 W.heap.size 2 (.slice av wl.length cv) wl ∧ l.map Ms.ns = ones (wl.drop m) ∧ OursN W wr3 W.heap.size a (ordN l) []) (fun i _ => wl.length - (intOf i).toNat)
            case atStart => exact ⟨0, l, by omega, rfl, HWW.out, HWL.out, HUJ.out⟩
            case round =>
              obtain ⟨m, l, hm, rfl, hw, hl, hu⟩ := hrel
              have HW := Lib.hid hw; clear hw
              have HL := Lib.hid hl
              have HU := Lib.hid hu; clear hu
              by_cases hlt3 : m < wl.length
              · have hone := drop_one wl m hlt3
                have hl2 := hl.trans hone
                have HT := Lib.hid (take_first HU.out hl2 (by rw [ns_len hl, List.length_drop]; omega))
                have htail : l.tail.map Ms.ns = ones (wl.drop (m + 1)) := by rw [List.map_tail, hl2]; rfl
                have HTL := Lib.hid htail
                have hwx : ∀ w', OwnI w' W.heap.size 2 (.slice av wl.length cv) wl → ∃ b off, av = some ⟨b, off, none⟩ ∧ w'.cell? ⟨b, off + m, none⟩ = some (.int .i64 (wl.getD m 0)) := by
                  intro w' h
                  obtain ⟨a7, c7, he, h7⟩ := h.isI
                  simp only [Value.slice.injEq] at he
                  obtain ⟨rfl, _, rfl⟩ := he
                  exact num_cell h7 hlt3
                have HWX := Lib.hid hwx
                clear hone hl2 htail hl hwx
                generalize wl.getD m 0 = x at *
                have hxx : (x != x) = false := by simp
                generalize hwn : wl.length = wn at *
                have HWN := Lib.hid hwn; clear hwn
                go_wp2_with fail
                refine HT.out.mono ?_
                rintro e w4 ⟨f, t, kd, b4, off4, cN, rfl, hc4, hu4, hk4⟩
                have HW4 := Lib.hid (OwnI.keeps2 HW.out hk4)
                have hba : Below w4.heap.size w4 (w4.alloc (.cells #[.int .i64 f, .int .i64 t, .int .i64 kd, .slice (some ⟨b4, off4, none⟩) 1 cN, .slice none 0 0] 32)) := (Below.refl _ _).alloc (Nat.le_refl _) _
                obtain ⟨bw, ow, rfl, hcw⟩ := HWX.out w4 HW4.out
                have h1 := cell_later hba hc4
                have h2 := cell_later hba hcw
                have h3 : (w4.alloc (.cells #[.int .i64 f, .int .i64 t, .int .i64 kd, .slice (some ⟨b4, off4, none⟩) 1 cN, .slice none 0 0] 32)).cell? ⟨w4.heap.size, 3, none⟩ = some (.slice (some ⟨b4, off4, none⟩) 1 cN) := by rw [World.cell?_alloc_mark]; rfl
                have HU5 : Hid (∀ d, OursN W ((w4.alloc (.cells #[.int .i64 f, .int .i64 t, .int .i64 kd, .slice (some ⟨b4, off4, none⟩) 1 cN, .slice none 0 0] 32)).drewN d) W.heap.size a (ordN l.tail) []) := Lib.hid fun d => hu4.later (below_drew hba d)
                have HW5 : Hid (∀ d, OwnI ((w4.alloc (.cells #[.int .i64 f, .int .i64 t, .int .i64 kd, .slice (some ⟨b4, off4, none⟩) 1 cN, .slice none 0 0] 32)).drewN d) W.heap.size 2 (.slice (some ⟨bw, ow, none⟩) wn cv) wl) := Lib.hid fun d => HW4.out.below (below_drew hba d)
                clear hba hc4 hcw hu4 hk4
                go_wp2_with fail
                go_quiet (fail)
                go_wp2_with fail
                go_roundw
                case rel => exact ⟨m + 1, l.tail, by omega, by go_num, HW5.out _, HTL.out, HU5.out _⟩
                case measure => simp [intOf]; omega
              · obtain rfl : m = wl.length := by omega
                have hl0 : l.length = 0 := by rw [ns_len hl, List.length_drop]; omega
                have HLN2 := Lib.hid (len_ours HU.out)
                rw [show ((ordN l).l.length : Int) = 0 by show (l.length : Int) = 0; omega] at HLN2
                clear hl0 hl
                go_wp2_with fail
                refine HLN2.out.mono ?_
                rintro e w4 ⟨rfl, rfl⟩
                go_wp2_with fail
                go_ret
                exact ⟨rfl, HU.out.below⟩
theorem order_said (ao : Option Addr) (n c : Nat) (L : List Int) (bo : Option Addr) (q c2 : Nat) (tw : List Bool) (W : World) (h : IsI W ao n c L) (hnc : n ≤ c) (_ : c * 8 ≤ 140737488351232) (_ : ∀ z ∈ L, -9223372036854775808 ≤ z ∧ z ≤ 9223372036854775807) (h2 : IsFl W bo q tw) (hqc : q ≤ c2) :
    Calls Try.prog 6 #[.slice ao n c, .slice bo q c2] W fun e w' => e = .returned (.bool true) ∧ Below W.heap.size W w' := order_any ao n c L bo q c2 tw W h hnc h2 hqc
section
variable {H : Type} {enc : TypeId × Value → H}
open Go.ChangeShapes Go.WideShapes Go.ChangeAt
/-- truths that came in -/
theorem open_flags {W : World} {base : Nat} {v : Value} {d : DataW H} {ps : List MemPlace} (hv : Value.okWide Try.prog W .any base 55 v) (h : DataW.Trod enc Try.prog W 0 (fun _ => true) true 55 v d ps)
    (hsz : (DataW.weights Try.prog 55 d).all (· ≤ reachBytes) = true) : ∃ ao n c l, v = .slice ao n c ∧ IsFl W ao n l ∧ n ≤ c := by
  obtain ⟨a, n, c, rfl⟩ := okWide_slice Try.underlying55 hv
  obtain ⟨fuel, hf⟩ := h
  have hC : Try.prog.cellsOf 4 = 1 := by kernel_rfl
  rcases Go.Deep.open_bools Try.underlying55 Try.underlying4 hC hf with ⟨hcs, hx⟩ | ⟨ad, len, cap, B, hcs, _, hle, _, _, hcell⟩
  · simp [Value.cells] at hcs
    obtain ⟨rfl, rfl, rfl⟩ := hcs
    exact ⟨_, _, _, [], rfl, ⟨rfl, .inl rfl⟩, Nat.le_refl _⟩
  · simp [Value.cells] at hcs
    obtain ⟨rfl, rfl, rfl⟩ := hcs
    refine ⟨some ad, n, c, (List.range n).map B, rfl, ⟨by simp, ?_⟩, hle⟩
    by_cases h0 : n = 0
    · exact .inl h0
    · right
      obtain ⟨b, off, spot⟩ := ad
      have hspot : spot = none := by
        have := hcell 0 (by omega)
        simpa [Addr.add] using World.cell?_spot this
      subst hspot
      refine ⟨b, off, rfl, fun i hi => ?_⟩
      have h1 := hcell i (by omega)
      rw [Addr.add_lit] at h1
      rw [h1]
      simp [hi]
end
end Go.Proofs.Ytmehgkbhpfcmpaa
