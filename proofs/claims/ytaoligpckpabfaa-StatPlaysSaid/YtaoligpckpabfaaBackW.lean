/-
  StatBack's walk. No condition.
-/
import Derived.Test.YtaoligpckpabfaaActs
import Derived.Deep.Cut
namespace Go.Proofs.Ytaoligpckpabfaa
open Go.RowKit
/-- an operation whose guard holds is as one without a guard -/
theorem wpList_wanted {P : Program} {w : World} {ops : Array Oper} {rest : List Oper} {o : Oper} {a : Act} {Q : Exit → Act → World → Prop} (hw : Region.wanted o (yielded ops a.tmps) = true)
    (h : wpList P ops Q ({ o with guard := none } :: rest) a w) : wpList P ops Q (o :: rest) a w := by
  unfold wpList at h ⊢
  rw [if_pos hw]
  rw [if_pos (by simp [Region.wanted])] at h
  exact h
def getA (l : List Ac) (i : Nat) : Ac := l.getD i default
theorem act_cells {w : World} {ao : Option Addr} {n : Nat} {l : List Ac} (h : IsActs w ao n l) {k : Nat} (hk : k < n) : ∃ b off, ao = some ⟨b, off, none⟩ ∧ w.cell? ⟨b, off + k * 3, none⟩ = some (.int .i64 (getA l k).op) ∧ w.cell? ⟨b, off + k * 3 + 1, none⟩ = some (.int .i64 (getA l k).n) ∧ w.cell? ⟨b, off + k * 3 + 2, none⟩ = some (.string (getA l k).s) ∧ (getA l k).ok := by
  rcases h.at_ with h0 | ⟨b, off, h1, h2⟩
  · omega
  · exact ⟨b, off, h1, h2 k hk⟩
theorem getN_made {s : Nd} {k : Nat} (h : Made s k) (hk : k ≤ 500) : getN (getG (putN s) false) = s ∧ okG (getG (putN s) false) = true := by
  have h1 := get_put h hk [] false
  rw [List.append_nil] at h1
  have h2 : okG (getG (putN s) false) = true := by rw [h1]; unfold okG; simp only; rw [(risS_iff _).2 h.ris]; rfl
  refine ⟨?_, h2⟩
  unfold getN
  rw [h2, if_pos rfl, h1]
set_option maxHeartbeats 8000000 in
set_option maxRecDepth 100000 in
theorem back_walk (z o : Int) (d : ByteArray) (ao : Option Addr) (n c : Nat) (l : List Ac) (W : World) (hz : I64 z) (ho : I64 o) (h : IsActs W ao n l) :
    Calls Try.prog 8 #[.int .i64 z, .int .i64 o, .string d, .slice ao n c] W fun e w' => e = .returned (.bool true) ∧ Below W.heap.size W w' := by
  by_cases hd : 1000 < d.size
  · have g0 : decide (1000 < (d.size : Int)) = true := by simp; omega
    go_enter Try.func8, Try.ntmps8
    go_wp2_with fail
    refine (awake_any _).mono ?_
    rintro e w1 ⟨rfl, hb1⟩
    go_wp2_with fail
    go_ret
    exact ⟨rfl, hb1⟩
  · have g0 : decide (1000 < (d.size : Int)) = false := by simp; omega
    by_cases hn : 40 < n
    · have g1 : decide (40 < (n : Int)) = true := by simp; omega
      clear hd
      go_enter Try.func8, Try.ntmps8
      go_wp2_with fail
      refine (awake_any _).mono ?_
      rintro e w1 ⟨rfl, hb1⟩
      go_wp2_with fail
      go_ret
      exact ⟨rfl, hb1⟩
    · have g1 : decide (40 < (n : Int)) = false := by simp; omega
      have H := Lib.hid h
      have HN := Lib.hid hn
      have HZ := Lib.hid (made_new hz ho (show d.size ≤ 1000 by omega))
      clear h hn hd hz ho
      go_enter Try.func8, Try.ntmps8
      go_wp2_with fail
      refine (awake_any _).mono ?_
      rintro e w1 ⟨rfl, hb1⟩
      go_wp2_with fail
      refine (new_any _ _ _ _).mono ?_
      rintro e w2 ⟨rfl, hb2⟩
      have hb12 := hb1.trans (hb2.mono hb1.size)
      have hnd := isNd_new w2 z o d [w2.heap.size] w2.heap.size rfl (by simp)
      have HND := Lib.hid hnd
      have HB := Lib.hid (hb12.alloc hb12.size (.cells (cellsN (newZ z o d) (.slice none 0 0)) 27))
      have hsz := hb12.size
      clear hb1 hb2 hb12 hnd g0 g1
      rw [show aggN (newZ z o d) (.slice none 0 0) = .agg #[.int .i64 z, .int .i64 z, .int .i64 0, .int .i64 0, .int .i64 o, .int .i64 d.size, .int .i64 0, .string d, .int .i64 0, .slice none 0 0] from rfl]
      go_wp2_with fail
      rw [show cellsN (newZ z o d) (.slice none 0 0) = #[.int .i64 z, .int .i64 z, .int .i64 0, .int .i64 0, .int .i64 o, .int .i64 d.size, .int .i64 0, .string d, .int .i64 0, .slice none 0 0] from rfl] at HND HB
      generalize w2.heap.size = a at *
      generalize World.alloc w2 _ = w3 at *
      generalize newZ z o d = s0 at *
      have hn40 := HN.out
      go_loopw [10] (fun i wr => ∃ k : Nat, k ≤ n ∧ i = .int .i64 (k : Int) ∧ ∃ s, IsNd wr [a] a s ∧ Made s k ∧ Below W.heap.size W wr) (fun i _ => n - (intOf i).toNat)
      case atStart => exact ⟨0, by omega, rfl, s0, HND.out, HZ.out, HB.out⟩
      case round =>
        clear HND HZ HB s0
        obtain ⟨k, hk, rfl, s, hnd, had, hbl⟩ := hrel
        have HND := Lib.hid hnd
        have HAD := Lib.hid had
        have HBL := Lib.hid hbl
        have hla : a < wr.heap.size := hnd.lt
        by_cases hlt : k < n
        · clear hnd hbl
          obtain ⟨b, off, rfl, hx0, hx1, hx2, hok⟩ := act_cells H.out hlt
          have hc0 := cell_later HBL.out hx0
          have hc1 := cell_later HBL.out hx1
          have hc2 := cell_later HBL.out hx2
          have HST := Lib.hid (fun (hs : (getA l k).s.size ≤ 40) => made_do had (by omega) (getA l k) hs hok.2)
          have HDO := Lib.hid (show doA s (getA l k) = _ from rfl)
          unfold doA at HDO
          have HW := Lib.hid (write_any [a] a s (getA l k).n (getA l k).s wr HND.out (had.wf (by omega)))
          have HADD := Lib.hid (add_any [a] a s (getA l k).s wr HND.out (had.wf (by omega)) (by simpa using hla) (by have := had.len; omega))
          have HR := Lib.hid (remove_any [a] a s (getA l k).s wr HND.out (had.wf (by omega)) (by simpa using hla) (by have := had.len; omega))
          clear hx0 hx1 hx2 hok had
          generalize getA l k = x at *
          cases x with
          | mk xo xn xs =>
          simp only at *
          by_cases hx : 40 < xs.size
          · have g3 : decide (40 < (xs.size : Int)) = true := by simp; omega
            go_wp2_with fail
            go_ret
            exact ⟨rfl, HBL.out⟩
          · have g3 : decide (40 < (xs.size : Int)) = false := by simp; omega
            have HST2 := Lib.hid (HST.out (by omega))
            unfold doA at HST2
            clear HST
            by_cases h0 : xo = 0
            · have g4 : (xo == 0) = true := by simpa using h0
              rw [if_pos h0] at HST2
              clear h0
              go_wp2_with fail
              refine HW.out.mono ?_
              rintro e w5 ⟨rfl, hi5, ho5⟩
              have HB5 := Lib.hid (below_of_only HBL.out ho5 hsz (Nat.le_refl _))
              have HI5 := Lib.hid hi5
              clear hi5 ho5 hc0 hc1 hc2
              go_wp2_with fail
              go_roundw
              case rel => exact ⟨k + 1, by omega, by go_num, _, HI5.out, HST2.out, HB5.out⟩
              case measure => simp [intOf]; omega
            · have g4 : (xo == 0) = false := by simpa using h0
              rw [if_neg h0] at HST2
              by_cases h1 : xo = 1
              · have g5 : (xo == 1) = true := by simpa using h1
                rw [if_pos h1] at HST2
                clear h0 h1
                go_wp2_with fail
                refine HADD.out.mono ?_
                rintro e w5 ⟨rfl, hi5, ho5⟩
                have HB5 := Lib.hid (below_of_only HBL.out ho5 hsz (Nat.le_refl _))
                have HI5 := Lib.hid hi5
                clear hi5 ho5 hc0 hc1 hc2
                go_wp2_with fail
                go_roundw
                case rel => exact ⟨k + 1, by omega, by go_num, _, HI5.out, HST2.out, HB5.out⟩
                case measure => simp [intOf]; omega
              · have g5 : (xo == 1) = false := by simpa using h1
                rw [if_neg h1] at HST2
                clear h0 h1
                go_wp2_with fail
                refine HR.out.mono ?_
                rintro e w5 ⟨rfl, hi5, ho5⟩
                have HB5 := Lib.hid (below_of_only HBL.out ho5 hsz (Nat.le_refl _))
                have HI5 := Lib.hid hi5
                clear hi5 ho5 hc0 hc1 hc2
                go_wp2_with fail
                go_roundw
                case rel => exact ⟨k + 1, by omega, by go_num, _, HI5.out, HST2.out, HB5.out⟩
                case measure => simp [intOf]; omega
        · obtain rfl : k = n := by omega
          obtain ⟨⟨vo, q, vc, hrow, hs, hq, hav⟩, hmem⟩ := hnd
          have HROW := Lib.hid hrow
          have HPUT := Lib.hid (put_any s vo q vc wr hs (had.fit (by omega)))
          have HQ := Lib.hid hs.len
          have HS := Lib.hid hs
          have HAV := Lib.hid hav
          clear hrow hs hav hmem
          go_wp2_with (refine wpList_load_row rfl 27 (.tmp 9) rfl a rfl 27 (cellsN s (.slice vo q vc)) (0, 0) _ HROW.out Try.underlying27 rfl size27 ?_)
          refine HPUT.out.mono ?_
          rintro e w4 ⟨a4, n4, c4, rfl, hw4, hb4⟩
          have HW4 := Lib.hid hw4
          have HB4 := Lib.hid hb4
          clear hw4 hb4
          have hpl := putN_len s (HAD.out.fit (by omega))
          go_wp2_with fail
          refine (read_any a4 n4 c4 (putN s) w4 HW4.out.is (by have := HW4.out.is.len; omega)).mono ?_
          rintro e w5 ⟨r, rfl, hr, hr1, hr2, hb5⟩
          have HR := Lib.hid hr
          have HB5 := Lib.hid hb5
          clear hr hb5
          go_wp2_with fail
          refine (get_any r _ (putN s) false w5 HR.out (fun k hk => by omega) (by omega)).mono ?_
          rw [(getN_made HAD.out (by omega)).1, (getN_made HAD.out (by omega)).2]
          rintro e w6 ⟨mo, mc, rfl, hown, hlen, ho6⟩
          have hsz4 := HB4.out.size
          have hsz5 := HB5.out.size
          have hB6 : Below wr.heap.size wr w6 := (HB4.out.trans (HB5.out.mono hsz4)).trans (ho6.below (by omega) (by simp; omega))
          have hrow6 : w6.heap[a]? = some (.cells (cellsN s (.slice vo q vc)) 27 (0, 0)) := by rw [hB6.block a hla]; exact HROW.out
          have hc96 : w6.cell? ⟨a, 9, none⟩ = some (.slice vo q vc) := by rw [cell_heap hrow6]; rfl
          have hc66 : w6.cell? ⟨a, 6, none⟩ = some (.int .i64 (q : Int)) := by rw [cell_heap hrow6]; show some (Value.int .i64 s.count) = _; rw [HAD.out.count, HQ.out]
          have hc56 : w6.cell? ⟨a, 5, none⟩ = some (.int .i64 (s.data.size : Int)) := by rw [cell_heap hrow6]; show some (Value.int .i64 s.length) = _; rw [HAD.out.length]
          have hc76 : w6.cell? ⟨a, 7, none⟩ = some (.string s.data) := by rw [cell_heap hrow6]; rfl
          have HO6 := Lib.hid hB6
          have HOWN := Lib.hid hown
          have HROW6 := Lib.hid hrow6
          obtain ⟨xo, xc, hxe, hxs⟩ := hown.isS
          simp only [Value.slice.injEq, true_and] at hxe
          obtain ⟨rfl, rfl⟩ := hxe
          have hQ := HQ.out
          have HSAME := Lib.hid (fun (w' : World) (hb : Below w6.heap.size w6 w') => same23_any s s mo s.names.length mc vo q vc w' (hxs.below hb) (HS.out.below (hB6.trans (hb.mono hB6.size))) (by omega) (by omega))
          have hal6 : a < w6.heap.size := lt_of_heap hrow6
          clear hB6 hrow6 hown hxs ho6 hQ
          have HONES := cellsN_ones s mo s.names.length mc
          have HZ2 : Hid (∀ w8 : World, w8 = ((w6.alloc (.cells #[.int .i64 0, .int .i64 0, .int .i64 0, .int .i64 0, .int .i64 0, .int .i64 0, .int .i64 0, .string ⟨#[]⟩, .int .i64 0, .slice none 0 0] 27)).setRow w6.heap.size (cellsN s (.slice mo s.names.length mc))) →
              w8.heap[w6.heap.size]? = some (.cells (cellsN s (.slice mo s.names.length mc)) 27 (0, 0)) ∧ Below w6.heap.size w6 w8) := Lib.hid (by
            rintro w8 rfl
            refine ⟨setRow_heap _ _ _ _ 27 (0, 0) (heap_new _ _), ?_⟩
            have h1 : Below w6.heap.size w6 (w6.alloc (.cells #[.int .i64 0, .int .i64 0, .int .i64 0, .int .i64 0, .int .i64 0, .int .i64 0, .int .i64 0, .string ⟨#[]⟩, .int .i64 0, .slice none 0 0] 27)) := (Below.refl _ _).alloc (Nat.le_refl _) _
            refine ⟨rfl, rfl, rfl, by simp, fun k hk => ?_⟩
            rw [setRow_other _ _ _ _ (by omega)]
            exact h1.block k hk)
          simp only [aggN]
          go_upto_region 19 with (refine wpList_store_row rfl 27 (.tmp 12) (.tmp 67) rfl w6.heap.size (cellsN s (.slice mo s.names.length mc)) rfl rfl 27 _ (heap_new _ _) size27 rfl HONES ?_)
          obtain ⟨h8, hb8⟩ := HZ2.out _ rfl
          clear HZ2
          generalize (World.setRow _ _ _) = w8 at *
          have HX8 := Lib.hid h8
          have HA8 := Lib.hid (show w8.heap[a]? = _ from (hb8.block a hal6).trans HROW6.out)
          have k96 := cell_later hb8 hc96
          have k66 := cell_later hb8 hc66
          have k56 := cell_later hb8 hc56
          have k76 := cell_later hb8 hc76
          have HS8 := Lib.hid (HSAME.out w8 hb8)
          have HB8 := Lib.hid (HBL.out.trans ((HO6.out.trans (hb8.mono HO6.out.size)).mono HBL.out.size))
          have HC8 := Lib.hid (fun (w9 : World) (hb : Below w8.heap.size w8 w9) => (⟨cell_later hb k96, cell_later hb k66, cell_later hb k56, cell_later hb k76⟩ : _ ∧ _ ∧ _ ∧ _))
          rw [show decide (s = s) = true from by simp] at HS8
          clear h8 hb8 hc96 hc66 hc56 hc76 k96 k66 k56 k76
          go_wp2_with (first
            | (refine wpList_wanted (by rfl) ?_; refine wpList_load_row rfl 27 (.tmp 12) rfl w6.heap.size rfl 27 (cellsN s (.slice mo s.names.length mc)) (0, 0) _ HX8.out Try.underlying27 rfl size27 ?_)
            | (refine wpList_wanted (by rfl) ?_; refine wpList_load_row rfl 27 (.tmp 9) rfl a rfl 27 (cellsN s (.slice vo q vc)) (0, 0) _ HA8.out Try.underlying27 rfl size27 ?_))
          refine HS8.out.mono ?_
          rintro e w9 ⟨rfl, hb9⟩
          obtain ⟨k96, k66, k56, k76⟩ := HC8.out w9 hb9
          have HB9 := Lib.hid (HB8.out.trans (hb9.mono HB8.out.size))
          clear hb9
          go_wp2_with fail
          go_ret
          exact ⟨rfl, HB9.out⟩
theorem back_said (z o : Int) (d : ByteArray) (ao : Option Addr) (n c : Nat) (l : List Ac) (W : World) (hz : (Lit.int .i64 z).wf = true) (ho : (Lit.int .i64 o).wf = true) (_ : d.size ≤ 140737488351232) (h : IsActs W ao n l) (_ : n ≤ c) :
    Calls Try.prog 8 #[.int .i64 z, .int .i64 o, .string d, .slice ao n c] W fun e w' => e = .returned (.bool true) ∧ Below W.heap.size W w' :=
  back_walk z o d ao n c l W (lit_sc hz) (lit_sc ho) h
end Go.Proofs.Ytaoligpckpabfaa
