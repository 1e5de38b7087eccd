/-
  The document's own scan.
-/
import Derived.Test.YtdmbllokajolhaaLaw
import Derived.Deep.RegionWith
import Derived.Deep.DrawnRows
namespace Go.Proofs.Ytdmbllokajolhaa
open Go.RowKit

def strB (l : List UInt8) : ByteArray := ⟨l.toArray⟩
theorem strB_toList (l : List UInt8) : (strB l).toList = l := ByteArray.toList_mk l
theorem conv_any (w : World) (ao : Option Addr) (n c : Nat) (l : List UInt8) (h : IsB w ao n c l) : (convert 23 9 (.slice ao n c)).run Try.prog w = .ok (.string (strB l)) w := by
  obtain ⟨h1, h2, h3⟩ := h
  cases ao with
  | none =>
    obtain ⟨rfl, rfl⟩ := h2 rfl
    obtain rfl := List.length_eq_zero_iff.1 h1
    rw [run_convert_bytes_nil w 23 5 Try.underlying23 Try.underlying5 0 0 9 Try.underlying9]
    rfl
  | some p =>
    rcases h3 with h3 | ⟨b, off, h4, h5⟩
    · subst h3
      obtain rfl := List.length_eq_zero_iff.1 h1
      rw [run_convert_bytes_string w 23 9 5 _ 0 c Try.underlying23 Try.underlying5 Try.underlying9, run_bytesToString w p 0 c [] (run_loadCells_list w p [] (by simp))]
      rfl
    · cases h4
      rw [run_convert_bytes_arg w 23 5 Try.underlying23 Try.underlying5 b off n c (l.map fun x => (x.toNat : Int)) (by simpa using h1) (fun i hi => by rw [h5 i hi]; simp [h1, hi]) 9 Try.underlying9]
      simp only [strOfNums, strB, List.map_map]
      congr 4
      rw [List.map_congr_left (g := id)]
      · simp
      · intro x _; simp

theorem nextF_eq (L : List UInt8) (h : 12 ≤ L.length) : nextF L = if at4 L 4 ≠ ~~~ (at4 L 0) ∨ 20000 < (at4 L 0).toNat then (0, 2)
    else if L.length < 12 + (at4 L 0).toNat then (0, 1)
    else if Crc.crc (L.take 8 ++ (L.drop 12).take (at4 L 0).toNat) ≠ at4 L 8 then (0, 2)
    else (12 + (at4 L 0).toNat, 0) := by
  unfold nextF
  rw [if_neg (by omega)]
theorem at4_drop (L : List UInt8) : at4 (L.drop 4) 0 = at4 L 4 := by
  unfold at4
  simp only [List.getD_eq_getElem?_getD, List.getElem?_drop]

theorem below_undrew {B n : Nat} {w w' : World} (h : Below B (w.drewN n) w') : Below B w w' := ⟨h.os, h.tape, h.output, h.size, h.block⟩
theorem own_undrew {w : World} {a b base : Nat} {e : TypeId} {v : Value} {ls : List (List UInt8)} (h : OwnBB ((w.drewN a).drewN b) base e v ls) : OwnBB (w.drewN (a + b)) base e v ls := by
  rw [World.drewN_drewN] at h; exact h
theorem own_conv {w : World} {base : Nat} {e : TypeId} {v : Value} {l : List UInt8} (h : OwnB w base e v l) : ∃ ao n c, v = .slice ao n c ∧ (convert 23 9 (.slice ao n c)).run Try.prog w = .ok (.string (strB l)) w := by
  obtain ⟨ao, c, h1, h2⟩ := h.isB
  exact ⟨ao, _, c, h1, conv_any w _ _ _ _ h2⟩

set_option maxHeartbeats 6000000 in
theorem rscan_any (ao : Option Addr) (n c : Nat) (B : List UInt8) (w : World) (h : IsB w ao n c B) (hn : n ≤ 1000000) (hnc : n ≤ c) (hc9 : c ≤ 9223372036854775807) :
    Calls Try.prog 12 #[.slice ao n c] w fun e w' => ∃ v, Recs v ((scanAll B).2.1 : Int) ((scanAll B).2.2 : Int) e ∧ OwnBB w' w.heap.size 23 v (scanAll B).1 ∧ Below w.heap.size w w' := by
  have hlen := h.len
  have HB := Lib.hid h; clear h
  have HL := Lib.hid hlen; clear hlen
  have HS : Hid (scanF B (B.length - 0) 0 [] = scanAll B) := Lib.hid rfl
  have hsg : ¬ (IntKind.u32.signed = true) := by decide
  go_enter Try.func12, Try.ntmps12
  go_wp2_with fail
  go_loopw [5, 6] (fun v i wr => ∃ (k : Nat) (ls : List (List UInt8)), k ≤ n ∧ ls.length * 12 ≤ k ∧ i = .int .i64 (k : Int) ∧ scanF B (B.length - k) k ls = scanAll B ∧ OwnBB wr w.heap.size 23 v ls ∧ Below w.heap.size w wr) (fun _ i _ => n - (intOf i).toNat)
  case atStart => exact ⟨0, [], by omega, by simp, rfl, HS.out, OwnBB.nil _ _ _, Below.refl _ _⟩
  case round =>
    clear HS
    obtain ⟨k, ls, hk, hls, rfl, hsc, hown, hbl⟩ := hrel
    have HSC := Lib.hid hsc; clear hsc
    have HO := Lib.hid hown; clear hown
    by_cases hlt : k < n
    · obtain ⟨b, off, rfl⟩ : ∃ b off, ao = some ⟨b, off, none⟩ := by
        rcases HB.out.at_ with h0 | ⟨b, off, h0, _⟩
        · omega
        · exact ⟨b, off, h0⟩
      have hD : IsB wr (some ⟨b, off + k, none⟩) (n - k) (c - k) (B.drop k) := (isB_drop HB.out k (c - k) (by omega)).below hbl
      have hkc : ¬ (c = k) := by omega
      have hst := scanF_step B k ls (by rw [HL.out]; exact hlt)
      have hsp := scanF_stop B k ls (by rw [HL.out]; exact hlt)
      rw [HSC.out] at hst hsp
      have hLl : (B.drop k).length = n - k := by rw [List.length_drop, HL.out]
      by_cases h12 : n - k < 12
      · have hnx : nextF (B.drop k) = (0, 1) := by unfold nextF; rw [if_pos (by omega)]
        rw [hnx] at hsp
        have HSP := Lib.hid (hsp (by decide)); clear hsp hst hnx hLl hD
        go_wp2_with fail
        go_ret3
        refine ⟨_, by unfold Recs; rw [HSP.out]; rfl, ?_, hbl⟩
        rw [HSP.out]
        exact HO.out
      · have hnx := nextF_eq (B.drop k) (by omega)
        rw [hLl] at hnx
        have hx := not_walk (at4 (B.drop k) 0)
        have hne := ne32 (at4 (B.drop k) 4) (~~~ (at4 (B.drop k) 0))
        have ha0 := fun w' (hw : IsB w' (some ⟨b, off + k, none⟩) (n - k) (c - k) (B.drop k)) => at32_any _ (n - k) (c - k) (B.drop k) w' hw (by omega) (by omega)
        have ha4 := fun w' (hw : IsB w' (some ⟨b, off + k + 4, none⟩) (n - k - 4) (c - k - 4) ((B.drop k).drop 4)) => at32_any _ (n - k - 4) (c - k - 4) ((B.drop k).drop 4) w' hw (by omega) (by omega)
        rw [at4_drop] at ha4
        have hD4 : IsB wr (some ⟨b, off + k + 4, none⟩) (n - k - 4) (c - k - 4) ((B.drop k).drop 4) := isB_drop hD 4 _ (by omega)
        have hfr := frame_iff (B.drop k)
        generalize B.drop k = L at *
        generalize at4 L 0 = x0 at *
        generalize at4 L 4 = x4 at *
        generalize at4 L 8 = x8 at *
        have HX := Lib.hid hx; clear hx
        have HNE := Lib.hid hne; clear hne
        have A0 := Lib.hid ha0; clear ha0
        have A4 := Lib.hid ha4; clear ha4
        have HD := Lib.hid hD; clear hD
        have HD4 := Lib.hid hD4; clear hD4
        have HST := Lib.hid hst; clear hst
        have HSP := Lib.hid hsp; clear hsp
        have HFR := Lib.hid hfr; clear hfr
        have HLl := Lib.hid hLl; clear hLl
        go_wp2_with fail
        refine (A0.out _ HD.out).mono ?_
        rintro e w1 ⟨d1, rfl, rfl⟩
        go_wp2_with fail
        refine (A4.out _ (by exact HD4.out.heapw rfl)).mono ?_
        rintro e w1 ⟨d2, rfl, rfl⟩
        clear A0 A4 HD4
        have hB1 : Below w.heap.size w ((wr.drewN d1).drewN d2) := below_draws (below_draws hbl _) _
        have HO1 : Hid (OwnBB ((wr.drewN d1).drewN d2) w.heap.size 23 u5 ls) := Lib.hid (HO.out.below (below_draws (below_draws (Below.refl _ _) _) _))
        have HD1 : Hid (IsB ((wr.drewN d1).drewN d2) (some ⟨b, off + k, none⟩) (n - k) (c - k) L) := Lib.hid (HD.out.heapw rfl)
        clear HO HD hbl
        by_cases e4 : x4 = ~~~ x0
        · have hne := HNE.out
          rw [decide_eq_false (show ¬ (x4 ≠ ~~~ x0) from fun h => h e4)] at hne
          have g4 : ((x4.toNat : Int) != bits BinOp.xor IntKind.u32 IntKind.u32.max (x0.toNat : Int)) = false := by rw [HX.out]; exact hne
          clear hne HNE
          by_cases g5 : 20000 < x0.toNat
          · rw [if_pos (.inr g5)] at hnx
            have hsp := HSP.out
            rw [hnx] at hsp
            have HF := Lib.hid (hsp (by decide))
            clear hnx e4 hsp HSP HST HFR
            have g6 : decide ((20000 : Int) < (x0.toNat : Int)) = true := by simp; omega
            go_wp2_with fail
            go_ret3
            refine ⟨_, by unfold Recs; rw [HF.out]; rfl, ?_, by simpa only [World.drewN_drewN] using hB1⟩
            rw [HF.out]
            exact own_undrew HO1.out
          · rw [if_neg (by simp only [not_or]; exact ⟨fun h => h e4, g5⟩)] at hnx
            have g6 : decide ((20000 : Int) < (x0.toNat : Int)) = false := by simp; omega
            have hfr := fun rec hrec hl => HFR.out rec hrec hl e4
            clear HFR
            subst e4
            generalize ~~~ x0 = nx at HX g4
            generalize x0.toNat = q at *
            by_cases g7 : n - k < 12 + q
            · rw [if_pos g7] at hnx
              have hsp := HSP.out
              rw [hnx] at hsp
              have HF := Lib.hid (hsp (by decide))
              clear hnx hsp HSP HST hfr
              go_wp2_with fail
              go_ret3
              refine ⟨_, by unfold Recs; rw [HF.out]; rfl, ?_, by simpa only [World.drewN_drewN] using hB1⟩
              rw [HF.out]
              exact own_undrew HO1.out
            · rw [if_neg g7] at hnx
              have hl : 12 + q ≤ L.length := by rw [HLl.out]; omega
              have hfr2 := hfr _ rfl hl
              have hrl : ((L.drop 12).take q).length = q := by rw [List.length_take, List.length_drop]; omega
              have hz : IsB ((wr.drewN d1).drewN d2) (some ⟨b, off + k + 12, none⟩) q (c - k - 12) ((L.drop 12).take q) := isB_take (isB_drop HD1.out 12 _ (by omega)) q (by omega)
              have hr12 : IsB ((wr.drewN d1).drewN d2) (some ⟨b, off + k, none⟩) (12 + q) (c - k) (L.take (12 + q)) := isB_take HD1.out (12 + q) (by omega)
              have hst := HST.out
              have hsp := HSP.out
              have hrec : ((L.take (12 + q)).drop 12) = (L.drop 12).take q := by rw [List.drop_take, show 12 + q - 12 = q by omega]
              clear hfr HSP HST
              have hfin : (frameF ((L.drop 12).take q) = L.take (12 + q) → scanF B (B.length - (k + (12 + q))) (k + (12 + q)) (ls ++ [(L.drop 12).take q]) = scanAll B) ∧
                  (¬ frameF ((L.drop 12).take q) = L.take (12 + q) → scanAll B = (ls, k, 2)) := by
                constructor
                · intro hy
                  rw [if_neg (fun h => h (hfr2.1 hy))] at hnx
                  rw [hnx] at hst
                  rw [← hrec, hst rfl]
                · intro hy
                  rw [if_pos (fun h => hy (hfr2.2 h))] at hnx
                  rw [hnx] at hsp
                  exact hsp (by decide)
              clear hst hsp hnx hfr2 hrec hl
              have hg : ((strB (frameF ((L.drop 12).take q))).toList != (strB (L.take (12 + q))).toList) = decide (¬ frameF ((L.drop 12).take q) = L.take (12 + q)) := by
                rw [strB_toList, strB_toList]
                by_cases h : frameF ((L.drop 12).take q) = L.take (12 + q)
                · rw [h]; simp
                · rw [decide_eq_true h, bne_iff_ne]; exact h
              have hy0 : (decide (¬ frameF ((L.drop 12).take q) = L.take (12 + q)) = false → scanF B (B.length - (k + (12 + q))) (k + (12 + q)) (ls ++ [(L.drop 12).take q]) = scanAll B) ∧
                  (decide (¬ frameF ((L.drop 12).take q) = L.take (12 + q)) = true → scanAll B = (ls, k, 2)) :=
                ⟨fun h => hfin.1 (Decidable.byContradiction fun h2 => absurd (decide_eq_true h2) (by rw [h]; decide)), fun h => hfin.2 (of_decide_eq_true h)⟩
              clear hfin
              generalize decide (¬ frameF ((L.drop 12).take q) = L.take (12 + q)) = r0 at hg hy0
              generalize (L.drop 12).take q = rec at *
              generalize (wr.drewN d1).drewN d2 = wq at *
              have HY := Lib.hid hy0; clear hy0
              have HZ := Lib.hid hz; clear hz
              have hcr := fun d => conv_any (wq.drewN d) _ _ _ _ (hr12.heapw (w' := wq.drewN d) rfl)
              have HR12 := Lib.hid hr12; clear hr12
              generalize hsL : strB (L.take (12 + q)) = sL at hcr hg
              have HSL := Lib.hid hsL; clear hsL
              have hz1 := hB1.size
              have hc0 : ([] : List UInt8).length + q ≤ 140737488355328 := by simp; omega
              have HRL := Lib.hid hrl; clear hrl
              clear HLl HX g6 HD1
              have hend := Lib.hid (show k + (12 + q) ≤ n ∧ (ls ++ [rec]).length * 12 ≤ k + (12 + q) from ⟨by omega, by simp; omega⟩)
              have hlb : ls.length + 1 ≤ 4398046511104 := by omega
              have hlb2 := Lib.hid hlb
              have f1 : n - k ≤ c - k := by omega
              have f2 : n - k ≤ 1000000 := by omega
              have f3 : 12 + q ≤ n - k := by omega
              have f4 : q ≤ 20000 := by omega
              have f5 : (k : Int) ≤ 1000000 := by omega
              have hcb := Lib.hid (show c ≤ 9223372036854775807 from hc9)
              clear h12 g7 hkc g5 hlt hk hls hnc hn hc9 hlb
              generalize n - k = m at *
              generalize c - k = cm at *
              have HZ2 : Hid (IsB wq (some ⟨b, off + k + 12, none⟩) (12 + q - 12) (cm - 12) rec) := Lib.hid (by rw [show 12 + q - 12 = q by omega]; exact HZ.out)
              have hc1 : ([] : List UInt8).length + (12 + q - 12) ≤ 140737488355328 := by simp; omega
              as_aux_lemma =>
              by_cases hc12 : cm = 12
              · have HZ3 : Hid (IsB wq (some ⟨b, off + k, none⟩) 0 0 rec) := Lib.hid (by
                  have h1 := HZ.out
                  obtain rfl : q = 0 := by omega
                  obtain rfl : rec = [] := List.length_eq_zero_iff.1 HRL.out
                  exact isB_zero 0)
                obtain rfl : cm = 12 := hc12
                have hc3 : ([] : List UInt8).length + 0 ≤ 140737488355328 := by simp
                have q1 : 12 + (q : Int) ≤ 12 := by omega
                have q2 : (12 : Int) ≤ max (12 + (q : Int)) 0 := by omega
                go_wp2_with (at_builtin; go_must (refine wpList_append_bytes rfl (.tmp 44) (.tmp 49) 23 rfl wq.heap.size 5 Try.underlying23 info5 _ [] rfl (OwnB.new _ _ _ [] _ rfl _ rfl (by exact Nat.le_refl _) 0 rfl (by decide)) _ _ _ _ rfl (HZ3.out.alloc _) hc3 (by simp) ?_); intro v9 w9 hown9 hgr9 hb9; clear hgr9; obtain ⟨a9, c9, hv9, hbs9⟩ := own_len hown9 q HRL.out; subst hv9; have hB9 : Below wq.heap.size wq w9 := ((Below.refl _ _).alloc (Nat.le_refl _) _).trans hb9; have HR9 := Lib.hid (HR12.out.below hB9); have hcr9 := conv_any w9.drew _ _ _ _ (HR9.out.heapw (w' := w9.drew) rfl))
                have hO9 := HO1.out.below hB9
                have hlt9 := HO1.out.lt
                have hBw := hB1.trans (hB9.mono hz1)
                rw [List.nil_append] at hbs9 hown9
                rw [HSL.out] at hcr9
                have hel9 := Lib.hid (hown9.elem _ (fun k hk => (hlt9 k hk).2) (by rw [HRL.out]; omega))
                have HS9 := Lib.hid hbs9
                have HO9 := Lib.hid hO9
                have HFR := Lib.hid (fun W (hW : IsB W a9 q c9 rec) => refframe_any a9 q c9 rec W hW f4)
                clear hbs9 hown9 hb9 hB9 hB1 HO1 hlt9 hO9 HZ HZ2 HZ3 hcr hc0 hc1 hc3 hz1
                have ww1 : (0 : Int) ≤ 12 + (q : Int) := by omega
                have ww2 : 12 + (q : Int) ≤ 12 := by omega
                have ww3 : (12 + (q : Int)).toNat = 12 + q := by omega
                have ww4 : IntKind.i64.wrap (12 + (q : Int)) = 12 + (q : Int) := IntWalk.i64_in _ (by omega)
                have ww5 : IntKind.i64.wrap (q : Int) = (q : Int) := IntWalk.i64_in _ (by omega)
                go_region_with (go_at_call 11; refine (HFR.out _ (by exact HS9.out.heapw rfl)).mono ?_; rintro e w10 ⟨v10, rfl, hown10, hb10⟩; obtain ⟨a10, n10, c10, rfl, hcv10⟩ := own_conv hown10; have hb910 : Below w9.heap.size w9 w10 := ⟨hb10.os, hb10.tape, hb10.output, hb10.size, hb10.block⟩; have hcr10 := conv_any w10 _ _ _ _ (HR9.out.below hb910); rw [HSL.out] at hcr10; clear hown10)
                all_goals
                  have hBx := hBw.trans (hb910.mono hBw.size)
                  have hlb := hlb2.out
                  clear hcr10 hcr9 hcv10 ww1 ww2 ww3 ww4 ww5
                  have hg2 : (!((strB (frameF rec)).toList == sL.toList)) = r0 := hg
                  rw [hg2]
                  clear hg hg2
                  cases r0
                  · have HE := Lib.hid (hend.out)
                    have hel := Lib.hid ((hel9.out.below hb910).below ((Below.refl _ _).alloc (Nat.le_refl _) (.cells #[.slice a9 q c9] 23)))
                    have hO := Lib.hid ((HO9.out.below hb910).below ((Below.refl _ _).alloc (Nat.le_refl _) (.cells #[.slice a9 q c9] 23)))
                    have hz10 := hBx.size
                    clear hb910 hb10 hel9 HO9 HR9 HS9 HFR
                    go_wp2_with (at_builtin; go_must (refine wpList_append_elem rfl _ _ 27 rfl w.heap.size 23 Try.underlying27 info23 _ ls rfl hO.out w10.heap.size (.slice a9 q c9) rec rfl (by rw [World.cell?_alloc_mark]; rfl) hel.out hlb (by simp; omega) ?_); intro v3 w3 hown3 hgr3 hb3; clear hgr3)
                    exact ⟨⟨k + (12 + q), _, HE.out.1, HE.out.2, by go_num, HY.out.1 rfl, hown3, (hBx.alloc hz10 _).trans hb3⟩, by have := HE.out.1; simp [intOf]; omega⟩
                  · have HF := Lib.hid (HY.out.2 rfl)
                    have hOx := HO9.out.below hb910
                    clear hb910 hb10 hel9 HO9 HR9 HS9 HFR
                    go_wp2_with fail
                    go_ret3
                    refine ⟨_, by unfold Recs; rw [HF.out]; rfl, ?_, hBx⟩
                    rw [HF.out]
                    exact hOx
              · go_wp2_with (at_builtin; go_must (refine wpList_append_bytes rfl (.tmp 44) (.tmp 49) 23 rfl wq.heap.size 5 Try.underlying23 info5 _ [] rfl (OwnB.new _ _ _ [] _ rfl _ rfl (by exact Nat.le_refl _) 0 rfl (by decide)) _ _ _ _ rfl (HZ2.out.alloc _) hc1 (by simp) ?_); intro v9 w9 hown9 hgr9 hb9; clear hgr9; obtain ⟨a9, c9, hv9, hbs9⟩ := own_len hown9 q HRL.out; subst hv9; have hB9 : Below wq.heap.size wq w9 := ((Below.refl _ _).alloc (Nat.le_refl _) _).trans hb9; have HR9 := Lib.hid (HR12.out.below hB9); have hcr9 := conv_any w9.drew _ _ _ _ (HR9.out.heapw (w' := w9.drew) rfl))
                have hO9 := HO1.out.below hB9
                have hlt9 := HO1.out.lt
                have hBw := hB1.trans (hB9.mono hz1)
                rw [List.nil_append] at hbs9 hown9
                rw [HSL.out] at hcr9
                have hel9 := Lib.hid (hown9.elem _ (fun k hk => (hlt9 k hk).2) (by rw [HRL.out]; omega))
                have HS9 := Lib.hid hbs9
                have HO9 := Lib.hid hO9
                have HFR := Lib.hid (fun W (hW : IsB W a9 q c9 rec) => refframe_any a9 q c9 rec W hW f4)
                clear hbs9 hown9 hb9 hB9 hB1 HO1 hlt9 hO9 HZ HZ2 hcr hc0 hc1 hz1
                have ww1 : (0 : Int) ≤ 12 + (q : Int) := by omega
                have ww2 : 12 + (q : Int) ≤ (cm : Int) := by omega
                have ww3 : (12 + (q : Int)).toNat = 12 + q := by omega
                have ww4 : IntKind.i64.wrap (12 + (q : Int)) = 12 + (q : Int) := IntWalk.i64_in _ (by omega)
                have ww5 : IntKind.i64.wrap (q : Int) = (q : Int) := IntWalk.i64_in _ (by omega)
                go_region_with (go_at_call 11; refine (HFR.out _ (by exact HS9.out.heapw rfl)).mono ?_; rintro e w10 ⟨v10, rfl, hown10, hb10⟩; obtain ⟨a10, n10, c10, rfl, hcv10⟩ := own_conv hown10; have hb910 : Below w9.heap.size w9 w10 := ⟨hb10.os, hb10.tape, hb10.output, hb10.size, hb10.block⟩; have hcr10 := conv_any w10 _ _ _ _ (HR9.out.below hb910); rw [HSL.out] at hcr10; clear hown10)
                all_goals
                  have hBx := hBw.trans (hb910.mono hBw.size)
                  have hlb := hlb2.out
                  clear hcr10 hcr9 hcv10 ww1 ww2 ww3 ww4 ww5
                  have hg2 : (!((strB (frameF rec)).toList == sL.toList)) = r0 := hg
                  rw [hg2]
                  clear hg hg2
                  cases r0
                  · have HE := Lib.hid (hend.out)
                    have hel := Lib.hid ((hel9.out.below hb910).below ((Below.refl _ _).alloc (Nat.le_refl _) (.cells #[.slice a9 q c9] 23)))
                    have hO := Lib.hid ((HO9.out.below hb910).below ((Below.refl _ _).alloc (Nat.le_refl _) (.cells #[.slice a9 q c9] 23)))
                    have hz10 := hBx.size
                    clear hb910 hb10 hel9 HO9 HR9 HS9 HFR
                    go_wp2_with (at_builtin; go_must (refine wpList_append_elem rfl _ _ 27 rfl w.heap.size 23 Try.underlying27 info23 _ ls rfl hO.out w10.heap.size (.slice a9 q c9) rec rfl (by rw [World.cell?_alloc_mark]; rfl) hel.out hlb (by simp; omega) ?_); intro v3 w3 hown3 hgr3 hb3; clear hgr3)
                    exact ⟨⟨k + (12 + q), _, HE.out.1, HE.out.2, by go_num, HY.out.1 rfl, hown3, (hBx.alloc hz10 _).trans hb3⟩, by have := HE.out.1; simp [intOf]; omega⟩
                  · have HF := Lib.hid (HY.out.2 rfl)
                    have hOx := HO9.out.below hb910
                    clear hb910 hb10 hel9 HO9 HR9 HS9 HFR
                    go_wp2_with fail
                    go_ret3
                    refine ⟨_, by unfold Recs; rw [HF.out]; rfl, ?_, hBx⟩
                    rw [HF.out]
                    exact hOx
        · have hne := HNE.out
          rw [decide_eq_true (show x4 ≠ ~~~ x0 from e4)] at hne
          have g4 : ((x4.toNat : Int) != bits BinOp.xor IntKind.u32 IntKind.u32.max (x0.toNat : Int)) = true := by rw [HX.out]; exact hne
          rw [if_pos (.inl e4)] at hnx
          have hsp := HSP.out
          rw [hnx] at hsp
          have HF := Lib.hid (hsp (by decide))
          clear hnx e4 hne HNE hsp HSP HST HFR
          go_wp2_with fail
          go_ret3
          refine ⟨_, by unfold Recs; rw [HF.out]; rfl, ?_, by simpa only [World.drewN_drewN] using hB1⟩
          rw [HF.out]
          exact own_undrew HO1.out
    · obtain rfl : k = n := by omega
      have HF : Hid (scanAll B = (ls, k, 0)) := Lib.hid (by rw [← HSC.out, scanF_end B _ k ls (by rw [HL.out]; exact Nat.le_refl _)])
      go_wp2_with fail
      go_ret3
      refine ⟨_, by unfold Recs; rw [HF.out]; rfl, ?_, hbl⟩
      rw [HF.out]
      exact HO.out
end Go.Proofs.Ytdmbllokajolhaa
