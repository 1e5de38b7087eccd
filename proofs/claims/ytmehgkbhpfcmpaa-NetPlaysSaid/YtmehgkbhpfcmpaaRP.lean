/-
  NetPlays: the walk. No condition.
-/
import Derived.Test.YtmehgkbhpfcmpaaRQ
namespace Go.Proofs.Ytmehgkbhpfcmpaa.G
open Go.RowKit Go.Proofs.Ytmehgkbhpfcmpaa
theorem new_poor (nodes room : Int) (w : World) (h : nodes < 1 ∨ (1 ≤ nodes ∧ 64 < nodes) ∨ (1 ≤ nodes ∧ nodes ≤ 64 ∧ room < 1) ∨ (1 ≤ nodes ∧ nodes ≤ 64 ∧ 1 ≤ room ∧ 65536 < room)) :
    Calls Try.prog 9 #[.int .i64 nodes, .int .i64 room] w fun e w' => e = .returned (.tuple #[.pointer none, .int .i64 1]) ∧ w = w' := by
  rcases h with q1 | ⟨q1, q2⟩ | ⟨q1, q2, q3⟩ | ⟨q1, q2, q3, q4⟩
  all_goals
    go_enter Try.func9, Try.ntmps9
    go_wp2_with fail
    go_ret2
    exact ⟨rfl, rfl⟩
theorem size47 : (Try.prog.info? 47).map (·.size) = some 6 := by kernel_rfl
/-- how it stands behind k acts -/
structure PlayS (W wr : World) (a d : Nat) (nodes room : Int) (k : Nat) : Prop where
  ex : ∃ s es, Two W.heap.size W wr a d s es s es ∧ Fine nodes room s (6 * k)
theorem doc_new {B : Nat} {W w : World} {a : Nat} {s : Nt} (cs : Array Value) (h1 : OursN w w B a s []) (hb : Below B W w) (h0 : s.l = []) (hc : cs.size = 4099) (c0 : cs[0]? = some (.int .i64 s.nodes)) (c1 : cs[1]? = some (.int .i64 s.room)) (c2 : cs[2]? = some (.slice none 0 0)) (c3 : ∀ j, j < 4096 → cs[3 + j]? = some (.bool false)) :
    Two B W (w.alloc (.cells cs 44)) a w.heap.size s [] s [] := by
  obtain ⟨g, mb, hn⟩ := h1.is
  refine ⟨⟨g, mb, hn.below ((Below.refl _ _).alloc (Nat.le_refl _) _)⟩, ⟨⟨cs, .slice none 0 0, [], heap_new _ _, hc, c0, c1, c2, fun x y hx hy => ?_, ?_, ⟨?_, (fun x hx => by cases hx), (fun x hx => by cases hx)⟩⟩, h1.size⟩, hb.alloc h1.size _, by have := h1.size; simp; omega⟩
  · rw [Nat.add_assoc, c3 _ (by omega)]; rfl
  · rw [h0]; exact World.ownsRow_nil _ _ _ _
  · rw [h0]; rfl
set_option maxHeartbeats 8000000 in
set_option maxRecDepth 20000 in
theorem plays_any (nodes room : Int) (ao : Option Addr) (n c : Nat) (L : List Ax) (W : World) (h : IsAx W ao n L) :
    Calls Try.prog 5 #[.int .i64 nodes, .int .i64 room, .slice ao n c] W fun e w' => e = .returned (.bool true) ∧ Below W.heap.size W w' := by
  have HAX := Lib.hid h
  clear h
  by_cases hbad : nodes < 1 ∨ (1 ≤ nodes ∧ 64 < nodes) ∨ (1 ≤ nodes ∧ nodes ≤ 64 ∧ room < 1) ∨ (1 ≤ nodes ∧ nodes ≤ 64 ∧ 1 ≤ room ∧ 65536 < room)
  · have HN := Lib.hid (fun w => new_poor nodes room w hbad)
    rcases hbad with q1 | ⟨q1, q2⟩ | ⟨q1, q2, q3⟩ | ⟨q1, q2, q3, q4⟩
    all_goals
      go_enter Try.func5, Try.ntmps5
      go_wp2_with fail
      refine (awake_any W).mono ?_
      rintro e w1 ⟨rfl, hb1⟩
      have HB1 := Lib.hid hb1
      clear hb1
      go_wp2_with fail
      refine (HN.out w1).mono ?_
      rintro e w2 ⟨rfl, rfl⟩
      go_wp2_with fail
      go_ret
      exact ⟨rfl, HB1.out⟩
  have hn1 : 1 ≤ nodes := by omega
  have hn2 : nodes ≤ 64 := by omega
  have hr1 : 1 ≤ room := by omega
  have hr2 : room ≤ 65536 := by omega
  clear hbad
  by_cases hlong : 80 < n
  · have hli : (80 : Int) < (n : Int) := by omega
    clear hlong
    go_enter Try.func5, Try.ntmps5
    go_wp2_with fail
    refine (awake_any W).mono ?_
    rintro e w1 ⟨rfl, hb1⟩
    have HB1 := Lib.hid hb1
    clear hb1
    go_wp2_with fail
    refine (new_ok w1.heap.size nodes room w1 hn1 hn2 hr1 hr2 (Nat.le_refl _)).mono ?_
    rintro e w2 ⟨a, mb, rfl, hN, hb2, _⟩
    have HB2 := Lib.hid (HB1.out.trans (hb2.mono HB1.out.size))
    clear hN hb2
    go_wp2_with fail
    go_ret
    exact ⟨rfl, HB2.out⟩
  obtain ⟨zs, hz1, hz2, hz3, hz4, hz5, hz6⟩ := built44 nodes room
  have HZ := Lib.hid hz1
  have HZC := Lib.hid (And.intro hz2 (And.intro hz3 (And.intro hz4 (And.intro hz5 hz6))))
  clear hz1 hz2 hz3 hz4 hz5 hz6
  have hli : (n : Int) ≤ 80 := by omega
  go_enter Try.func5, Try.ntmps5
  go_wp2_with fail
  refine (awake_any W).mono ?_
  rintro e w1 ⟨rfl, hb1⟩
  have HB1 := Lib.hid hb1
  clear hb1
  go_wp2_with fail
  refine (new_ok W.heap.size nodes room w1 hn1 hn2 hr1 hr2 HB1.out.size).mono ?_
  rintro e w2 ⟨a, mb, rfl, hN, hb2, _⟩
  have HN := Lib.hid hN
  have HB2 := Lib.hid (HB1.out.trans (hb2.mono HB1.out.size))
  clear hN hb2
  go_wp2_with (first
    | (refine wpList_buildTo rfl 44 #[(0, .tmp 61), (1, .tmp 62)] rfl (some 63) rfl zs ?_ ?_; (simp only [List.map_toArray, List.map_cons, List.map_nil]; exact HZ.out)))
  have HT0 := Lib.hid (doc_new zs (⟨⟨_, _, HN.out⟩, Below.refl _ _, HB2.out.size, KeepsD.refl _⟩ : OursN w2 w2 W.heap.size a (newN nodes room) []) HB2.out rfl HZC.out.1 HZC.out.2.1 HZC.out.2.2.1 HZC.out.2.2.2.1 HZC.out.2.2.2.2)
  generalize w2.alloc (.cells zs 44) = w3 at *
  generalize w2.heap.size = d at *
  clear HN HZ
  go_loopw [10] (fun i wr => ∃ k : Nat, k ≤ n ∧ i = .int .i64 (k : Int) ∧ PlayS W wr a d nodes room k) (fun i _ => n - (intOf i).toNat)
  case atStart => exact ⟨0, by omega, rfl, ⟨_, _, HT0.out, ⟨rfl, rfl, Nat.le_refl _, fun m hm => by cases hm⟩⟩⟩
  case round =>
    obtain ⟨k, hk, rfl, ⟨s, es, htwo, hfine⟩⟩ := hrel
    have HTW := Lib.hid htwo
    have HF := Lib.hid hfine
    clear htwo hfine HT0
    by_cases hlt : k < n
    · obtain ⟨b, off, rfl, lo, ln, lc, e0, e1, e2, e3, e4, e5, hlc, hms⟩ : ∃ b off, ao = some ⟨b, off, none⟩ ∧ ∃ lo ln lc, wr.cell? ⟨b, off + k * 6, none⟩ = some (.int .i64 (L.getD k ax0).op) ∧ wr.cell? ⟨b, off + k * 6 + 1, none⟩ = some (.int .i64 (L.getD k ax0).k) ∧ wr.cell? ⟨b, off + k * 6 + 2, none⟩ = some (.int .i64 (L.getD k ax0).a) ∧ wr.cell? ⟨b, off + k * 6 + 3, none⟩ = some (.int .i64 (L.getD k ax0).b) ∧ wr.cell? ⟨b, off + k * 6 + 4, none⟩ = some (.bool (L.getD k ax0).lost) ∧ wr.cell? ⟨b, off + k * 6 + 5, none⟩ = some (.slice lo ln lc) ∧ ln ≤ lc ∧ IsMs W lo ln (L.getD k ax0).l := by
        rcases HAX.out.at_ with h0 | ⟨b, off, h1, h2⟩
        · omega
        · obtain ⟨lo, ln, lc, e0, e1, e2, e3, e4, e5, e6, e7⟩ := h2 k hlt
          have hb := HTW.out.below
          exact ⟨b, off, h1, lo, ln, lc, cell_later hb e0, cell_later hb e1, cell_later hb e2, cell_later hb e3, cell_later hb e4, cell_later hb e5, e6, e7⟩
      generalize L.getD k ax0 = x at *
      cases x with
      | mk xop xk xa xb xl xm =>
      simp only at e0 e1 e2 e3 e4 e5 hms
      have HMS := Lib.hid hms
      have hmlen := hms.len
      have HML := Lib.hid hmlen
      have hki : (k : Int) < (n : Int) := by omega
      have hsz := HTW.out.size
      clear hms hmlen
      go_upto_region 13 with (fail)
      have HX0 := Lib.hid (heap_new wr (.cells #[.int .i64 xop, .int .i64 xk, .int .i64 xa, .int .i64 xb, .bool xl, .slice lo ln lc] 47))
      have hb4 : Below wr.heap.size wr (wr.alloc (.cells #[.int .i64 xop, .int .i64 xk, .int .i64 xa, .int .i64 xb, .bool xl, .slice lo ln lc] 47)) := (Below.refl _ _).alloc (Nat.le_refl _) _
      have HT4 := Lib.hid (HTW.out.later hb4)
      generalize (wr.alloc (.cells #[.int .i64 xop, .int .i64 xk, .int .i64 xa, .int .i64 xb, .bool xl, .slice lo ln lc] 47)) = w4 at *
      generalize wr.heap.size = X at *
      clear e0 e1 e2 e3 e4 e5 hb4
      have hx0 : w4.cell? ⟨X, 0, none⟩ = some (.int .i64 xop) := by rw [cell_heap HX0.out]; rfl
      have hx5 : w4.cell? ⟨X, 5, none⟩ = some (.slice lo ln lc) := by rw [cell_heap HX0.out]; rfl
      by_cases h5 : 5 < ln
      · have h5i : (5 : Int) < (ln : Int) := by omega
        have hbl := HT4.out.below
        have HBL := Lib.hid hbl
        clear hbl h5
        go_wp2_with fail
        go_ret
        exact ⟨rfl, HBL.out⟩
      have h5i : (ln : Int) ≤ 5 := by omega
      clear h5
      go_upto_block 2 with (fail)
      have HXL : Hid (X < w4.heap.size) := Lib.hid (lt_of_heap HX0.out)
      have HXT : Hid (∀ w', KeepsD w4 w' → w'.heap[X]? = some (.cells #[.int .i64 xop, .int .i64 xk, .int .i64 xa, .int .i64 xb, .bool xl, .slice lo ln lc] 47 (0, 0))) := Lib.hid (fun w' hk => hk _ _ _ _ HX0.out (by decide) (by decide))
      go_cut [12] (fun t wx => t = .bool true ∧ PlayS W wx a d nodes room (k + 1))
      case first =>
        by_cases p0 : xop = 0
        · subst p0
          as_aux_lemma =>
            have hXd : X ≠ d := by
              intro e
              obtain ⟨⟨cs, _, _, h1, _⟩, _⟩ := HT4.out.doc
              rw [← e, HX0.out] at h1
              simp at h1
            have HXD := Lib.hid hXd
            clear hXd
            obtain rfl : xm.length = ln := HML.out
            clear hx0
            have hx5 := hx5
            have HSAME := Lib.hid (sendAll_same es)
            have HFI := Lib.hid HF.out
            go_wp2_with fail
            go_loopw [13, 14] (fun v i wq => ∃ (q : Nat) (t : Nt), q ≤ xm.length ∧ i = .int .i64 (q : Int) ∧ v = .int .i64 ((t.l.length - s.l.length : Nat) : Int) ∧ t = sendAll s es (xm.take q) ∧ Two W.heap.size W wq a d s es t es ∧ wq.cell? ⟨X, 5, none⟩ = some (.slice lo xm.length lc) ∧ Hid (∀ j, j < q → LightM (xm.getD j m0))) (fun _ i _ => xm.length - (intOf i).toNat)
            case atStart => exact ⟨0, s, by omega, rfl, by simp, rfl, HT4.out, hx5, Lib.hid fun j hj => by omega⟩
            case round =>
              obtain ⟨q, t, hq, rfl, rfl, ht, htq, hx5, HLT⟩ := hrel
              have HT := Lib.hid ht
              have HTQ := Lib.hid htq
              have hbq := htq.below
              obtain ⟨hs1, hs2, hs3, hs4⟩ := sendAll_same es (xm.take q) s
              rw [← ht] at hs1 hs2 hs3 hs4
              rw [List.length_take] at hs4
              have HS12 := Lib.hid (And.intro hs1 (And.intro hs2 (And.intro hs3 hs4)))
              clear ht htq hs1 hs2 hs3 hs4
              by_cases hql : q < xm.length
              · have hqi : (q : Int) < (xm.length : Int) := by omega
                obtain ⟨lb, lf, rfl, ⟨v, u, f0, f1, f2, f3, f4, hm⟩⟩ : ∃ lb lf, lo = some ⟨lb, lf, none⟩ ∧ ∃ v u, wr.cell? ⟨lb, lf + q * 5, none⟩ = some (.int .i64 (xm.getD q m0).from_) ∧ wr.cell? ⟨lb, lf + q * 5 + 1, none⟩ = some (.int .i64 (xm.getD q m0).to_) ∧ wr.cell? ⟨lb, lf + q * 5 + 2, none⟩ = some (.int .i64 (xm.getD q m0).kind) ∧ wr.cell? ⟨lb, lf + q * 5 + 3, none⟩ = some v ∧ wr.cell? ⟨lb, lf + q * 5 + 4, none⟩ = some u ∧ IsM wr (xm.getD q m0) v u := by
                  rcases HMS.out.at_ with h0 | ⟨lb, lf, h1, h2⟩
                  · omega
                  · obtain ⟨v, u, f0, f1, f2, f3, f4, f5⟩ := h2 q hql
                    exact ⟨lb, lf, h1, v, u, cell_later hbq f0, cell_later hbq f1, cell_later hbq f2, cell_later hbq f3, cell_later hbq f4, f5.below hbq⟩
                have HBQ := Lib.hid hbq
                have HM := Lib.hid hm
                obtain ⟨⟨av, cv, rfl, _⟩, ⟨bv, cw, rfl, _⟩⟩ := hm
                have HNX : Hid (sendAll s es (xm.take (q + 1)) = sendOne t es (xm.getD q m0)) := Lib.hid (by rw [sendAll_next s es xm q hql, HT.out])
                have HGM : Hid (LightM (xm.getD q m0) → ∀ j, j < q + 1 → LightM (xm.getD j m0)) := Lib.hid (fun hl j hj => by
                  by_cases hjq : j = q
                  · rw [hjq]; exact hl
                  · exact HLT.out j (by omega))
                have HST := Lib.hid (sent_step t es (xm.getD q m0))
                generalize xm.getD q m0 = m at *
                clear hbq
                by_cases h6 : 5 < m.ns.length
                · have h6i : (5 : Int) < (m.ns.length : Int) := by omega
                  go_wp2_with fail
                  go_ret
                  exact ⟨rfl, HBQ.out⟩
                have h6i : (m.ns.length : Int) ≤ 5 := by omega
                by_cases h7 : 5 < m.bs.length
                · have h7i : (5 : Int) < (m.bs.length : Int) := by omega
                  clear h6
                  go_wp2_with fail
                  go_ret
                  exact ⟨rfl, HBQ.out⟩
                have h7i : (m.bs.length : Int) ≤ 5 := by omega
                have HLM : Hid (LightM m) := Lib.hid ⟨by omega, by omega, fun l hl => by
                  obtain ⟨_, ⟨bo, c2, _, hbb⟩⟩ := HM.out
                  obtain ⟨i, hi, rfl⟩ := List.getElem_of_mem hl
                  rcases hbb.at_ with h0 | ⟨b2, o2, _, h2⟩
                  · omega
                  · obtain ⟨a3, m3, c3, _, h3, h4⟩ := h2 i hi
                    have := h3.len
                    simp only [List.getD, List.getElem?_eq_getElem hi, Option.getD_some] at this
                    omega⟩
                clear h6 h7
                go_wp2_with fail
                refine (nm_any m av m.ns.length cv bv m.bs.length cw wr).mono ?_
                rintro e w5 ⟨rfl, hb5⟩
                have HT5 := Lib.hid (HTQ.out.later hb5)
                have HM5 := Lib.hid (HM.out.below hb5)
                have hx55 := cell_later hb5 hx5
                clear hb5 f0 f1 f2 f3 f4 hx5
                go_wp2_with fail
                refine (send_doc HT5.out.doc m _ _ HM5.out HLM.out (by rw [HS12.out.1, HF.out.nodes]; exact hn2) (by rw [HS12.out.2.1, HF.out.room]; exact hr2) HT5.out.size).mono ?_
                rintro e w6 ⟨rfl, hd6, ho6⟩
                have HT6 := Lib.hid (HT5.out.step_doc hd6 ho6)
                have hx56 := only_doc_cell HT5.out.doc ho6 HXD.out hx55
                clear hd6 ho6 hx55
                have hst := HST.out
                have hs3 := HS12.out.2.2.1
                have hs4 := HS12.out.2.2.2
                cases hgo : goes t es m with
                | true =>
                  rw [hgo, if_pos rfl] at hst
                  have HST2 := Lib.hid hst
                  clear hgo hst
                  have hcnt : ((t.l.length - s.l.length : Nat) : Int) + 1 = (((sendOne t es m).l.length - s.l.length : Nat) : Int) := by rw [HST2.out]; omega
                  have HCN := Lib.hid hcnt
                  clear hcnt
                  generalize hcc : (t.l.length - s.l.length : Nat) = cc at *
                  have hccb : cc ≤ 1000 := by omega
                  have HCC := Lib.hid hcc
                  clear hcc hs3 hs4
                  go_wp2_with fail
                  go_roundw
                  case rel => exact ⟨q + 1, _, by omega, by go_num, by first | (rw [← HCN.out]) | (rw [← HCN.out]; go_num), HNX.out.symm, HT6.out, hx56, Lib.hid (HGM.out HLM.out)⟩
                  case measure => simp [intOf]; omega
                | false =>
                  rw [hgo, if_neg (by decide)] at hst
                  have HST2 := Lib.hid hst
                  clear hgo hst hs3 hs4
                  go_wp2_with fail
                  go_roundw
                  case rel => exact ⟨q + 1, _, by omega, by go_num, by rw [HST2.out]; rfl, HNX.out.symm, HT6.out, hx56, Lib.hid (HGM.out HLM.out)⟩
                  case measure => simp [intOf]; omega
              · obtain rfl : q = xm.length := by omega
                have HTT : Hid (t = sendAll s es xm) := Lib.hid (by have := HT.out; rwa [List.take_length] at this)
                have HLL : Hid (∀ m ∈ xm, LightM m) := Lib.hid (fun m hm => by
                  obtain ⟨i, hi, rfl⟩ := List.getElem_of_mem hm
                  have := HLT.out i hi
                  simpa [List.getD, hi] using this)
                have HSE : Hid (Calls Try.prog 11 #[.pointer (some ⟨a, 0, none⟩), .slice lo xm.length lc] wr fun e w' => e = .returned (.int .i64 (((sendAll s es xm).l.length - s.l.length : Nat) : Int)) ∧ OursN wr w' W.heap.size a (sendAll s es xm) es) := Lib.hid (by
                  by_cases h0 : xm.length = 0
                  · have hxm : xm = [] := List.length_eq_zero_iff.1 h0
                    subst hxm
                    refine (send_zero HTQ.out.ours lo lc).mono ?_
                    rintro e w' ⟨rfl, ho⟩
                    exact ⟨by simp [sendAll], ho⟩
                  · rcases HMS.out.at_ with h1 | ⟨lb, lf, rfl, h2⟩
                    · omega
                    · obtain ⟨g0, mb0, hn0⟩ := HTQ.out.net
                      refine send_walk hn0 (Below.refl _ _) HTQ.out.size (KeepsD.refl _) lb lf xm (fun w' hb => ⟨fun i hi => ?_, fun i hi => HLT.out i hi⟩) ?_ lc hlc (by rw [HF.out.nodes]; exact hn2) (by rw [HF.out.room]; exact hr2)
                      · obtain ⟨v, u, f0, f1, f2, f3, f4, f5⟩ := h2 i hi
                        have hb2 := HTQ.out.below.trans hb
                        exact ⟨v, u, cell_later hb2 f0, cell_later hb2 f1, cell_later hb2 f2, cell_later hb2 f3, cell_later hb2 f4, f5.below hb2⟩
                      · have := HF.out.few; omega)
                have HFA := Lib.hid (Fine.all (es := es) xm HF.out HLL.out)
                have htt := HTT.out
                subst htt
                generalize ((sendAll s es xm).l.length - s.l.length : Nat) = cc at *
                clear hbq
                go_wp2_with fail
                refine HSE.out.mono ?_
                rintro e w7 ⟨rfl, ho7⟩
                have HT7 := Lib.hid (HTQ.out.step_net ho7)
                clear ho7
                go_wp2_with fail
                go_meet
                exact ⟨by simp, ⟨_, es, HT7.out, HFA.out.more (by omega)⟩⟩
        by_cases p1 : xop = 1
        · subst p1
          clear p0
          as_aux_lemma =>
            have hXd : X ≠ d := by
              intro e
              obtain ⟨⟨cs, _, _, h1, _⟩, _⟩ := HT4.out.doc
              rw [← e, HX0.out] at h1
              simp at h1
            have HXD := Lib.hid hXd
            clear hXd
            cases hnn : hasN s xk with
            | true =>
              obtain ⟨q, rfl, hq⟩ : ∃ q : Nat, xk = q ∧ q < s.l.length := by
                have h1 := hnn
                unfold hasN at h1
                simp only [Bool.and_eq_true, decide_eq_true_eq] at h1
                exact ⟨xk.toNat, by omega, by omega⟩
              have HQ := Lib.hid hq
              have HLE : Hid (s.l.length ≤ 1000000) := Lib.hid (by have := HF.out.few; omega)
              have HLM := Lib.hid (HF.out.get hq)
              clear hnn hq
              have hx1 : w4.cell? ⟨X, 1, none⟩ = some (.int .i64 (q : Int)) := by rw [cell_heap HX0.out]; rfl
              go_wp2_with fail
              refine (take_some HT4.out.ours q HQ.out HLE.out HLM.out).mono ?_
              rintro e w5 ⟨v, u, rfl, hm5, ho5⟩
              obtain ⟨av, cv, rfl, _⟩ := hm5.ns.isI
              obtain ⟨bv, cw, rfl, _, _⟩ := hm5.bs.shape
              have HT5 := Lib.hid (HT4.out.step_net ho5)
              have hx15 : w5.cell? ⟨X, 1, none⟩ = some (.int .i64 (q : Int)) := by rw [cell_heap (HXT.out _ ho5.keep)]; rfl
              have HM5 := Lib.hid hm5
              clear hm5 ho5 hx1 hx0 hx5
              simp only [aggM, cellsM]
              go_upto_region 31 with (fail)
              have hb6 : Below w5.heap.size w5 (w5.alloc (.cells #[.int .i64 (getN s q).from_, .int .i64 (getN s q).to_, .int .i64 (getN s q).kind, .slice av (getN s q).ns.length cv, .slice bv (getN s q).bs.length cw] 32)) := (Below.refl _ _).alloc (Nat.le_refl _) _
              have HT6 := Lib.hid (HT5.out.later hb6)
              have HX6 := Lib.hid (heap_new w5 (.cells #[.int .i64 (getN s q).from_, .int .i64 (getN s q).to_, .int .i64 (getN s q).kind, .slice av (getN s q).ns.length cv, .slice bv (getN s q).bs.length cw] 32))
              have HM6 := Lib.hid (HM5.out.below hb6)
              have hx16 := cell_later hb6 hx15
              clear hb6 hx15
              generalize (w5.alloc (.cells #[.int .i64 (getN s q).from_, .int .i64 (getN s q).to_, .int .i64 (getN s q).kind, .slice av (getN s q).ns.length cv, .slice bv (getN s q).bs.length cw] 32)) = w6 at *
              generalize w5.heap.size = X7 at *
              go_wp2_with fail
              refine (take_doc HT6.out.doc q HQ.out HLE.out HT6.out.size).mono ?_
              rintro e w7 ⟨v2, u2, rfl, hm7, hd7, ho7⟩
              obtain ⟨av2, cv2, rfl, _⟩ := hm7.ns.isI
              obtain ⟨bv2, cw2, rfl, _, _⟩ := hm7.bs.shape
              have HT7 := Lib.hid (HT6.out.step_doc hd7 ho7)
              have HX7a : Hid (w7.heap[X7]? = some (.cells #[.int .i64 (getN s q).from_, .int .i64 (getN s q).to_, .int .i64 (getN s q).kind, .slice av (getN s q).ns.length cv, .slice bv (getN s q).bs.length cw] 32 (0, 0))) := Lib.hid (ho7.keeps HX6.out (by intro hm; obtain ⟨⟨cs, _, _, h1, _⟩, _⟩ := HT6.out.doc; have h2 := HX6.out; rw [List.mem_singleton.1 hm, h1] at h2; simp at h2))
              have HM7 := Lib.hid (HM6.out.only ho7 (by intro j hj cur; obtain ⟨⟨cs, _, _, h1, _⟩, _⟩ := HT6.out.doc; rw [List.mem_singleton.1 hj, h1]; simp))
              have HMB := Lib.hid hm7
              clear hm7 hd7 ho7 hx16
              simp only [aggM, cellsM]
              go_upto_region 32 with (fail)
              have hb8 : Below w7.heap.size w7 (w7.alloc (.cells #[.int .i64 (getN s q).from_, .int .i64 (getN s q).to_, .int .i64 (getN s q).kind, .slice av2 (getN s q).ns.length cv2, .slice bv2 (getN s q).bs.length cw2] 49)) := (Below.refl _ _).alloc (Nat.le_refl _) _
              have HT8 := Lib.hid (HT7.out.later hb8)
              have HX8 := Lib.hid (heap_new w7 (.cells #[.int .i64 (getN s q).from_, .int .i64 (getN s q).to_, .int .i64 (getN s q).kind, .slice av2 (getN s q).ns.length cv2, .slice bv2 (getN s q).bs.length cw2] 49))
              have HX7 := Lib.hid (heap_below hb8 (lt_of_heap HX7a.out) HX7a.out)
              have HI1 := Lib.hid ((HM7.out.below hb8).is HLM.out)
              have HI2 := Lib.hid ((HMB.out.below hb8).is HLM.out)
              clear hb8
              generalize (w7.alloc (.cells #[.int .i64 (getN s q).from_, .int .i64 (getN s q).to_, .int .i64 (getN s q).kind, .slice av2 (getN s q).ns.length cv2, .slice bv2 (getN s q).bs.length cw2] 49)) = w8 at *
              generalize w7.heap.size = X8 at *
              have hy00 : ∀ w', Below w8.heap.size w8 w' → w'.cell? ⟨X7, 0, none⟩ = some (.int .i64 (getN s q).from_) := fun w' hb => by rw [cell_heap (heap_below hb (lt_of_heap HX7.out) HX7.out)]; rfl
              have hy01 : ∀ w', Below w8.heap.size w8 w' → w'.cell? ⟨X7, 1, none⟩ = some (.int .i64 (getN s q).to_) := fun w' hb => by rw [cell_heap (heap_below hb (lt_of_heap HX7.out) HX7.out)]; rfl
              have hy02 : ∀ w', Below w8.heap.size w8 w' → w'.cell? ⟨X7, 2, none⟩ = some (.int .i64 (getN s q).kind) := fun w' hb => by rw [cell_heap (heap_below hb (lt_of_heap HX7.out) HX7.out)]; rfl
              have hy03 : ∀ w', Below w8.heap.size w8 w' → w'.cell? ⟨X7, 3, none⟩ = some (.slice av (getN s q).ns.length cv) := fun w' hb => by rw [cell_heap (heap_below hb (lt_of_heap HX7.out) HX7.out)]; rfl
              have hy04 : ∀ w', Below w8.heap.size w8 w' → w'.cell? ⟨X7, 4, none⟩ = some (.slice bv (getN s q).bs.length cw) := fun w' hb => by rw [cell_heap (heap_below hb (lt_of_heap HX7.out) HX7.out)]; rfl
              have hy10 : ∀ w', Below w8.heap.size w8 w' → w'.cell? ⟨X8, 0, none⟩ = some (.int .i64 (getN s q).from_) := fun w' hb => by rw [cell_heap (heap_below hb (lt_of_heap HX8.out) HX8.out)]; rfl
              have hy11 : ∀ w', Below w8.heap.size w8 w' → w'.cell? ⟨X8, 1, none⟩ = some (.int .i64 (getN s q).to_) := fun w' hb => by rw [cell_heap (heap_below hb (lt_of_heap HX8.out) HX8.out)]; rfl
              have hy12 : ∀ w', Below w8.heap.size w8 w' → w'.cell? ⟨X8, 2, none⟩ = some (.int .i64 (getN s q).kind) := fun w' hb => by rw [cell_heap (heap_below hb (lt_of_heap HX8.out) HX8.out)]; rfl
              have hy13 : ∀ w', Below w8.heap.size w8 w' → w'.cell? ⟨X8, 3, none⟩ = some (.slice av2 (getN s q).ns.length cv2) := fun w' hb => by rw [cell_heap (heap_below hb (lt_of_heap HX8.out) HX8.out)]; rfl
              have hy14 : ∀ w', Below w8.heap.size w8 w' → w'.cell? ⟨X8, 4, none⟩ = some (.slice bv2 (getN s q).bs.length cw2) := fun w' hb => by rw [cell_heap (heap_below hb (lt_of_heap HX8.out) HX8.out)]; rfl
              go_upto_region 32 with (fail)
              refine wp_region_held_drew (S := fun w' => Below w8.heap.size w8 w') (by kernel_rfl) (below_drew (Below.refl _ _) 1) (fun hHeld => ?_)
              refine wpAnyH_take (i := 0) (oi := { dst := some 144, op := Op.move (Operand.tmp 16), type := 4, pos := _, after := #[], guard := none }) (v := ?_) rfl (by kernel_rfl) (by kernel_rfl) (by kernel_rfl) (fun _ _ _ h => h) (Or.inl ⟨by rfl, ?_⟩) (by exact hHeld) ?_
              rotate_left
              · (intro w hSw; (try dsimp only at hSw); go_simp <;> with_reducible rfl)
              try simp only [Act.put, List.setIfInBounds_toArray, List.set_cons_zero, List.set_cons_succ]
              refine wpAnyH_take (i := 1) (oi := { dst := some 145, op := Op.move (Operand.tmp 18), type := 4, pos := _, after := #[], guard := none }) (v := ?_) rfl (by kernel_rfl) (by kernel_rfl) (by kernel_rfl) (fun _ _ _ h => h) (Or.inl ⟨by rfl, ?_⟩) (by exact hHeld) ?_
              rotate_left
              · (intro w hSw; (try dsimp only at hSw); go_simp <;> with_reducible rfl)
              try simp only [Act.put, List.setIfInBounds_toArray, List.set_cons_zero, List.set_cons_succ]
              refine wpAnyH_take (i := 2) (oi := { dst := some 146, op := Op.binOp BinOp.eql 4 (Operand.tmp 144) (Operand.tmp 145) 4, type := 4, pos := _, after := #[{ on := 0, ground := Ground.data }, { on := 1, ground := Ground.data }], guard := none }) (v := ?_) rfl (by kernel_rfl) (by kernel_rfl) (by kernel_rfl) (fun _ _ _ h => h) (Or.inl ⟨by rfl, ?_⟩) (by exact hHeld) ?_
              rotate_left
              · (intro w hSw; (try dsimp only at hSw); go_simp <;> with_reducible rfl)
              try simp only [Act.put, List.setIfInBounds_toArray, List.set_cons_zero, List.set_cons_succ]
              refine wpAnyH_take (i := 3) (oi := { dst := some 147, op := Op.move (Operand.tmp 146), type := 4, pos := _, after := #[{ on := 2, ground := Ground.data }], guard := none }) (v := ?_) rfl (by kernel_rfl) (by kernel_rfl) (by kernel_rfl) (fun _ _ _ h => h) (Or.inl ⟨by rfl, ?_⟩) (by exact hHeld) ?_
              rotate_left
              · (intro w hSw; (try dsimp only at hSw); go_simp <;> with_reducible rfl)
              try simp only [Act.put, List.setIfInBounds_toArray, List.set_cons_zero, List.set_cons_succ]
              refine wpAnyH_take (i := 4) (oi := { dst := some 148, op := Op.load 32 (Operand.tmp 15), type := 32, pos := _, after := #[{ on := 3, ground := Ground.guard }], guard := some (3, true) }) (v := ?_) rfl (by kernel_rfl) (by kernel_rfl) (by kernel_rfl) (fun _ _ _ h => h) (Or.inl ⟨by rfl, ?_⟩) (by exact hHeld) ?_
              rotate_left
              · (intro w hSw; (try dsimp only at hSw); go_simp <;> with_reducible rfl)
              try simp only [Act.put, List.setIfInBounds_toArray, List.set_cons_zero, List.set_cons_succ]
              refine wpAnyH_take (i := 6) (oi := { dst := some 150, op := Op.load 49 (Operand.tmp 17), type := 49, pos := _, after := #[{ on := 3, ground := Ground.guard }], guard := some (3, true) }) (v := ?_) rfl (by kernel_rfl) (by kernel_rfl) (by kernel_rfl) (fun _ _ _ h => h) (Or.inl ⟨by rfl, ?_⟩) (by exact hHeld) ?_
              rotate_left
              · (intro w hSw; (try dsimp only at hSw); go_simp <;> with_reducible rfl)
              try simp only [Act.put, List.setIfInBounds_toArray, List.set_cons_zero, List.set_cons_succ]
              refine wpAnyH_ready (rs := [5]) (by kernel_rfl) (by simp) ?_
              refine AllReadyH.cons (o := { dst := some 149, op := Op.call { callee := Callee.value (Operand.func 18), args := #[Operand.tmp 148], argTypes := #[32] }, type := 49, pos := _, after := #[{ on := 4, ground := Ground.data }, { on := 3, ground := Ground.chain }, { on := 3, ground := Ground.guard }], guard := some (3, true) }) rfl (fun K hK => ?_) AllReadyH.nil
              go_simp
              refine (nm_any (getN s q) av (getN s q).ns.length cv bv (getN s q).bs.length cw _).mono ?_
              rintro e w9 ⟨rfl, hb9⟩
              have hB9 : Below w8.heap.size w8 w9 := (below_drew (Below.refl _ _) 1).trans hb9
              have HB9 := Lib.hid hB9
              simp only [aggM, cellsM]
              go_wp2_with fail
              refine hK.out _ _ hB9 (fun hHeld => ?_)
              clear hK K
              try simp only [Act.put, List.setIfInBounds_toArray, List.set_cons_zero, List.set_cons_succ]
              clear hB9 hb9
              refine wpAnyH_ready (rs := [7]) (by kernel_rfl) (by simp) ?_
              refine AllReadyH.cons (o := { dst := some 151, op := Op.call { callee := Callee.value (Operand.func 21), args := #[Operand.tmp 149, Operand.tmp 150], argTypes := #[49, 49] }, type := 4, pos := _, after := #[{ on := 5, ground := Ground.data }, { on := 6, ground := Ground.data }, { on := 5, ground := Ground.chain }, { on := 3, ground := Ground.guard }], guard := some (3, true) }) rfl (fun K hK => ?_) AllReadyH.nil
              go_simp
              refine (same_refl (getN s q) (.slice av (getN s q).ns.length cv) (.slice bv (getN s q).bs.length cw) (.slice av2 (getN s q).ns.length cv2) (.slice bv2 (getN s q).bs.length cw2) _ (HI1.out.below HB9.out) (HI2.out.below HB9.out) HLM.out).mono ?_
              rintro e w10 ⟨rfl, hb10⟩
              have hB10 : Below w8.heap.size w8 w10 := HB9.out.trans (hb10.mono HB9.out.size)
              have HB10 := Lib.hid hB10
              go_wp2_with fail
              refine hK.out _ _ hB10 (fun hHeld => ?_)
              clear hK K
              try simp only [Act.put, List.setIfInBounds_toArray, List.set_cons_zero, List.set_cons_succ]
              clear hB10 hb10
              refine wpAnyH_ready (rs := [8]) (by kernel_rfl) (by simp) ?_
              refine AllReadyH.cons (o := { dst := some 152, op := Op.pick (Operand.tmp 147) (Operand.tmp 151) (Operand.const (Value.bool false)), type := 4, pos := _, after := #[{ on := 3, ground := Ground.data }, { on := 7, ground := Ground.data }], guard := none }) rfl (fun K hK => ?_) AllReadyH.nil
              go_simp
              refine hK.out _ _ hHeld (fun hHeld => ?_)
              clear hK K
              try simp only [Act.put, List.setIfInBounds_toArray, List.set_cons_zero, List.set_cons_succ]
              refine wpAnyH_ready (rs := [9]) (by kernel_rfl) (by simp) ?_
              refine AllReadyH.cons (o := { dst := some 12, op := Op.assign (Operand.tmp 152), type := 4, pos := _, after := #[{ on := 8, ground := Ground.data }, { on := 7, ground := Ground.chain }, { on := 0, ground := Ground.phase }, { on := 1, ground := Ground.phase }, { on := 2, ground := Ground.phase }, { on := 3, ground := Ground.phase }, { on := 4, ground := Ground.phase }, { on := 5, ground := Ground.phase }, { on := 6, ground := Ground.phase }, { on := 7, ground := Ground.phase }, { on := 8, ground := Ground.phase }], guard := none }) rfl (fun K hK => ?_) AllReadyH.nil
              go_simp
              refine hK.out _ _ hHeld (fun hHeld => ?_)
              clear hK K
              try simp only [Act.put, List.setIfInBounds_toArray, List.set_cons_zero, List.set_cons_succ]
              refine wpAnyH_done (by kernel_rfl) ?_ _
              go_wp2_with fail
              go_meet
              exact ⟨rfl, ⟨_, es, HT8.out.later HB10.out, HF.out.lose.more (by omega)⟩⟩
            | false =>
              have HNN := Lib.hid hnn
              have hx1 : w4.cell? ⟨X, 1, none⟩ = some (.int .i64 xk) := by rw [cell_heap HX0.out]; rfl
              clear hnn
              go_wp2_with fail
              refine (take_none HT4.out.ours xk HNN.out).mono ?_
              rintro e w5 ⟨rfl, ho5⟩
              have HT5 := Lib.hid (HT4.out.step_net ho5)
              have hx15 : w5.cell? ⟨X, 1, none⟩ = some (.int .i64 xk) := by rw [cell_heap (HXT.out _ ho5.keep)]; rfl
              clear ho5 hx1 hx0 hx5
              simp only [aggM, cellsM]
              go_upto_region 31 with (fail)
              have hb6 : Below w5.heap.size w5 (w5.alloc (.cells #[.int .i64 m0.from_, .int .i64 m0.to_, .int .i64 m0.kind, .slice none 0 0, .slice none 0 0] 32)) := (Below.refl _ _).alloc (Nat.le_refl _) _
              have HT6 := Lib.hid (HT5.out.later hb6)
              have HX6 := Lib.hid (heap_new w5 (.cells #[.int .i64 m0.from_, .int .i64 m0.to_, .int .i64 m0.kind, .slice none 0 0, .slice none 0 0] 32))
              have hx16 := cell_later hb6 hx15
              clear hb6 hx15
              generalize (w5.alloc (.cells #[.int .i64 m0.from_, .int .i64 m0.to_, .int .i64 m0.kind, .slice none 0 0, .slice none 0 0] 32)) = w6 at *
              generalize w5.heap.size = X7 at *
              go_wp2_with fail
              refine (take_doc_none HT6.out.doc xk HNN.out).mono ?_
              rintro e w7 ⟨rfl, hb7⟩
              have HT7 := Lib.hid (HT6.out.later hb7)
              have HX7a := Lib.hid (heap_below hb7 (lt_of_heap HX6.out) HX6.out)
              clear hb7 hx16
              simp only [aggM, cellsM]
              go_upto_region 32 with (fail)
              have hb8 : Below w7.heap.size w7 (w7.alloc (.cells #[.int .i64 m0.from_, .int .i64 m0.to_, .int .i64 m0.kind, .slice none 0 0, .slice none 0 0] 49)) := (Below.refl _ _).alloc (Nat.le_refl _) _
              have HT8 := Lib.hid (HT7.out.later hb8)
              have HX8 := Lib.hid (heap_new w7 (.cells #[.int .i64 m0.from_, .int .i64 m0.to_, .int .i64 m0.kind, .slice none 0 0, .slice none 0 0] 49))
              have HX7 := Lib.hid (heap_below hb8 (lt_of_heap HX7a.out) HX7a.out)
              clear hb8
              have HI1 : Hid (IsM (w7.alloc (.cells #[.int .i64 m0.from_, .int .i64 m0.to_, .int .i64 m0.kind, .slice none 0 0, .slice none 0 0] 49)) m0 (.slice none 0 0) (.slice none 0 0)) := Lib.hid ⟨⟨none, 0, rfl, isI_nil _⟩, ⟨none, 0, rfl, ⟨rfl, .inl rfl⟩⟩⟩
              have HLM : Hid (LightM m0) := Lib.hid ⟨Nat.zero_le _, Nat.zero_le _, fun l hl => by cases hl⟩
              generalize (w7.alloc (.cells #[.int .i64 m0.from_, .int .i64 m0.to_, .int .i64 m0.kind, .slice none 0 0, .slice none 0 0] 49)) = w8 at *
              generalize w7.heap.size = X8 at *
              have hy00 : ∀ w', Below w8.heap.size w8 w' → w'.cell? ⟨X7, 0, none⟩ = some (.int .i64 (m0).from_) := fun w' hb => by rw [cell_heap (heap_below hb (lt_of_heap HX7.out) HX7.out)]; rfl
              have hy01 : ∀ w', Below w8.heap.size w8 w' → w'.cell? ⟨X7, 1, none⟩ = some (.int .i64 (m0).to_) := fun w' hb => by rw [cell_heap (heap_below hb (lt_of_heap HX7.out) HX7.out)]; rfl
              have hy02 : ∀ w', Below w8.heap.size w8 w' → w'.cell? ⟨X7, 2, none⟩ = some (.int .i64 (m0).kind) := fun w' hb => by rw [cell_heap (heap_below hb (lt_of_heap HX7.out) HX7.out)]; rfl
              have hy03 : ∀ w', Below w8.heap.size w8 w' → w'.cell? ⟨X7, 3, none⟩ = some (.slice none 0 0) := fun w' hb => by rw [cell_heap (heap_below hb (lt_of_heap HX7.out) HX7.out)]; rfl
              have hy04 : ∀ w', Below w8.heap.size w8 w' → w'.cell? ⟨X7, 4, none⟩ = some (.slice none 0 0) := fun w' hb => by rw [cell_heap (heap_below hb (lt_of_heap HX7.out) HX7.out)]; rfl
              have hy10 : ∀ w', Below w8.heap.size w8 w' → w'.cell? ⟨X8, 0, none⟩ = some (.int .i64 (m0).from_) := fun w' hb => by rw [cell_heap (heap_below hb (lt_of_heap HX8.out) HX8.out)]; rfl
              have hy11 : ∀ w', Below w8.heap.size w8 w' → w'.cell? ⟨X8, 1, none⟩ = some (.int .i64 (m0).to_) := fun w' hb => by rw [cell_heap (heap_below hb (lt_of_heap HX8.out) HX8.out)]; rfl
              have hy12 : ∀ w', Below w8.heap.size w8 w' → w'.cell? ⟨X8, 2, none⟩ = some (.int .i64 (m0).kind) := fun w' hb => by rw [cell_heap (heap_below hb (lt_of_heap HX8.out) HX8.out)]; rfl
              have hy13 : ∀ w', Below w8.heap.size w8 w' → w'.cell? ⟨X8, 3, none⟩ = some (.slice none 0 0) := fun w' hb => by rw [cell_heap (heap_below hb (lt_of_heap HX8.out) HX8.out)]; rfl
              have hy14 : ∀ w', Below w8.heap.size w8 w' → w'.cell? ⟨X8, 4, none⟩ = some (.slice none 0 0) := fun w' hb => by rw [cell_heap (heap_below hb (lt_of_heap HX8.out) HX8.out)]; rfl
              go_upto_region 32 with (fail)
              refine wp_region_held_drew (S := fun w' => Below w8.heap.size w8 w') (by kernel_rfl) (below_drew (Below.refl _ _) 1) (fun hHeld => ?_)
              refine wpAnyH_take (i := 0) (oi := { dst := some 144, op := Op.move (Operand.tmp 16), type := 4, pos := _, after := #[], guard := none }) (v := ?_) rfl (by kernel_rfl) (by kernel_rfl) (by kernel_rfl) (fun _ _ _ h => h) (Or.inl ⟨by rfl, ?_⟩) (by exact hHeld) ?_
              rotate_left
              · (intro w hSw; (try dsimp only at hSw); go_simp <;> with_reducible rfl)
              try simp only [Act.put, List.setIfInBounds_toArray, List.set_cons_zero, List.set_cons_succ]
              refine wpAnyH_take (i := 1) (oi := { dst := some 145, op := Op.move (Operand.tmp 18), type := 4, pos := _, after := #[], guard := none }) (v := ?_) rfl (by kernel_rfl) (by kernel_rfl) (by kernel_rfl) (fun _ _ _ h => h) (Or.inl ⟨by rfl, ?_⟩) (by exact hHeld) ?_
              rotate_left
              · (intro w hSw; (try dsimp only at hSw); go_simp <;> with_reducible rfl)
              try simp only [Act.put, List.setIfInBounds_toArray, List.set_cons_zero, List.set_cons_succ]
              refine wpAnyH_take (i := 2) (oi := { dst := some 146, op := Op.binOp BinOp.eql 4 (Operand.tmp 144) (Operand.tmp 145) 4, type := 4, pos := _, after := #[{ on := 0, ground := Ground.data }, { on := 1, ground := Ground.data }], guard := none }) (v := ?_) rfl (by kernel_rfl) (by kernel_rfl) (by kernel_rfl) (fun _ _ _ h => h) (Or.inl ⟨by rfl, ?_⟩) (by exact hHeld) ?_
              rotate_left
              · (intro w hSw; (try dsimp only at hSw); go_simp <;> with_reducible rfl)
              try simp only [Act.put, List.setIfInBounds_toArray, List.set_cons_zero, List.set_cons_succ]
              refine wpAnyH_take (i := 3) (oi := { dst := some 147, op := Op.move (Operand.tmp 146), type := 4, pos := _, after := #[{ on := 2, ground := Ground.data }], guard := none }) (v := ?_) rfl (by kernel_rfl) (by kernel_rfl) (by kernel_rfl) (fun _ _ _ h => h) (Or.inl ⟨by rfl, ?_⟩) (by exact hHeld) ?_
              rotate_left
              · (intro w hSw; (try dsimp only at hSw); go_simp <;> with_reducible rfl)
              try simp only [Act.put, List.setIfInBounds_toArray, List.set_cons_zero, List.set_cons_succ]
              refine wpAnyH_take (i := 4) (oi := { dst := some 148, op := Op.load 32 (Operand.tmp 15), type := 32, pos := _, after := #[{ on := 3, ground := Ground.guard }], guard := some (3, true) }) (v := ?_) rfl (by kernel_rfl) (by kernel_rfl) (by kernel_rfl) (fun _ _ _ h => h) (Or.inl ⟨by rfl, ?_⟩) (by exact hHeld) ?_
              rotate_left
              · (intro w hSw; (try dsimp only at hSw); go_simp <;> with_reducible rfl)
              try simp only [Act.put, List.setIfInBounds_toArray, List.set_cons_zero, List.set_cons_succ]
              refine wpAnyH_take (i := 6) (oi := { dst := some 150, op := Op.load 49 (Operand.tmp 17), type := 49, pos := _, after := #[{ on := 3, ground := Ground.guard }], guard := some (3, true) }) (v := ?_) rfl (by kernel_rfl) (by kernel_rfl) (by kernel_rfl) (fun _ _ _ h => h) (Or.inl ⟨by rfl, ?_⟩) (by exact hHeld) ?_
              rotate_left
              · (intro w hSw; (try dsimp only at hSw); go_simp <;> with_reducible rfl)
              try simp only [Act.put, List.setIfInBounds_toArray, List.set_cons_zero, List.set_cons_succ]
              refine wpAnyH_ready (rs := [5]) (by kernel_rfl) (by simp) ?_
              refine AllReadyH.cons (o := { dst := some 149, op := Op.call { callee := Callee.value (Operand.func 18), args := #[Operand.tmp 148], argTypes := #[32] }, type := 49, pos := _, after := #[{ on := 4, ground := Ground.data }, { on := 3, ground := Ground.chain }, { on := 3, ground := Ground.guard }], guard := some (3, true) }) rfl (fun K hK => ?_) AllReadyH.nil
              go_simp
              refine (nm_any m0 none 0 0 none 0 0 _).mono ?_
              rintro e w9 ⟨rfl, hb9⟩
              have hB9 : Below w8.heap.size w8 w9 := (below_drew (Below.refl _ _) 1).trans hb9
              have HB9 := Lib.hid hB9
              simp only [aggM, cellsM]
              go_wp2_with fail
              refine hK.out _ _ hB9 (fun hHeld => ?_)
              clear hK K
              try simp only [Act.put, List.setIfInBounds_toArray, List.set_cons_zero, List.set_cons_succ]
              clear hB9 hb9
              refine wpAnyH_ready (rs := [7]) (by kernel_rfl) (by simp) ?_
              refine AllReadyH.cons (o := { dst := some 151, op := Op.call { callee := Callee.value (Operand.func 21), args := #[Operand.tmp 149, Operand.tmp 150], argTypes := #[49, 49] }, type := 4, pos := _, after := #[{ on := 5, ground := Ground.data }, { on := 6, ground := Ground.data }, { on := 5, ground := Ground.chain }, { on := 3, ground := Ground.guard }], guard := some (3, true) }) rfl (fun K hK => ?_) AllReadyH.nil
              go_simp
              refine (same_refl (m0) (.slice none 0 0) (.slice none 0 0) (.slice none 0 0) (.slice none 0 0) _ (HI1.out.below HB9.out) (HI1.out.below HB9.out) HLM.out).mono ?_
              rintro e w10 ⟨rfl, hb10⟩
              have hB10 : Below w8.heap.size w8 w10 := HB9.out.trans (hb10.mono HB9.out.size)
              have HB10 := Lib.hid hB10
              go_wp2_with fail
              refine hK.out _ _ hB10 (fun hHeld => ?_)
              clear hK K
              try simp only [Act.put, List.setIfInBounds_toArray, List.set_cons_zero, List.set_cons_succ]
              clear hB10 hb10
              refine wpAnyH_ready (rs := [8]) (by kernel_rfl) (by simp) ?_
              refine AllReadyH.cons (o := { dst := some 152, op := Op.pick (Operand.tmp 147) (Operand.tmp 151) (Operand.const (Value.bool false)), type := 4, pos := _, after := #[{ on := 3, ground := Ground.data }, { on := 7, ground := Ground.data }], guard := none }) rfl (fun K hK => ?_) AllReadyH.nil
              go_simp
              refine hK.out _ _ hHeld (fun hHeld => ?_)
              clear hK K
              try simp only [Act.put, List.setIfInBounds_toArray, List.set_cons_zero, List.set_cons_succ]
              refine wpAnyH_ready (rs := [9]) (by kernel_rfl) (by simp) ?_
              refine AllReadyH.cons (o := { dst := some 12, op := Op.assign (Operand.tmp 152), type := 4, pos := _, after := #[{ on := 8, ground := Ground.data }, { on := 7, ground := Ground.chain }, { on := 0, ground := Ground.phase }, { on := 1, ground := Ground.phase }, { on := 2, ground := Ground.phase }, { on := 3, ground := Ground.phase }, { on := 4, ground := Ground.phase }, { on := 5, ground := Ground.phase }, { on := 6, ground := Ground.phase }, { on := 7, ground := Ground.phase }, { on := 8, ground := Ground.phase }], guard := none }) rfl (fun K hK => ?_) AllReadyH.nil
              go_simp
              refine hK.out _ _ hHeld (fun hHeld => ?_)
              clear hK K
              try simp only [Act.put, List.setIfInBounds_toArray, List.set_cons_zero, List.set_cons_succ]
              refine wpAnyH_done (by kernel_rfl) ?_ _
              go_wp2_with fail
              go_meet
              exact ⟨rfl, ⟨_, es, HT8.out.later HB10.out, HF.out.more (by omega)⟩⟩
        by_cases p2 : xop = 2
        · subst p2
          clear p0 p1
          as_aux_lemma =>
            have hXd : X ≠ d := by
              intro e
              obtain ⟨⟨cs, _, _, h1, _⟩, _⟩ := HT4.out.doc
              rw [← e, HX0.out] at h1
              simp at h1
            have HXD := Lib.hid hXd
            clear hXd
            cases hnn : hasN s xk with
            | true =>
              obtain ⟨q, rfl, hq⟩ : ∃ q : Nat, xk = q ∧ q < s.l.length := by
                have h1 := hnn
                unfold hasN at h1
                simp only [Bool.and_eq_true, decide_eq_true_eq] at h1
                exact ⟨xk.toNat, by omega, by omega⟩
              have HQ := Lib.hid hq
              have HLE : Hid (s.l.length ≤ 1000000) := Lib.hid (by have := HF.out.few; omega)
              have HLM := Lib.hid (HF.out.get hq)
              clear hnn hq
              have hx1 : w4.cell? ⟨X, 1, none⟩ = some (.int .i64 (q : Int)) := by rw [cell_heap HX0.out]; rfl
              go_wp2_with fail
              refine (take_doc HT4.out.doc q HQ.out HLE.out HT4.out.size).mono ?_
              rintro e w5 ⟨v, u, rfl, hm5, hd5, ho5⟩
              have HT5 := Lib.hid (HT4.out.step_doc hd5 ho5)
              have hx15 := only_doc_cell HT4.out.doc ho5 HXD.out hx1
              obtain ⟨av, cv, rfl, _⟩ := hm5.ns.isI
              obtain ⟨bv, cw, rfl, _, _⟩ := hm5.bs.shape
              clear hm5 hd5 ho5 hx1 hx0 hx5
              simp only [aggM, cellsM]
              go_upto_region 35 with (fail)
              have hb6 : Below w5.heap.size w5 (w5.alloc (.cells #[.int .i64 (getN s q).from_, .int .i64 (getN s q).to_, .int .i64 (getN s q).kind, .slice av (getN s q).ns.length cv, .slice bv (getN s q).bs.length cw] 49)) := (Below.refl _ _).alloc (Nat.le_refl _) _
              have HT6 := Lib.hid (HT5.out.later hb6)
              have hx16 := cell_later hb6 hx15
              clear hb6 hx15
              generalize (w5.alloc (.cells #[.int .i64 (getN s q).from_, .int .i64 (getN s q).to_, .int .i64 (getN s q).kind, .slice av (getN s q).ns.length cv, .slice bv (getN s q).bs.length cw] 49)) = w6 at *
              go_wp2_with fail
              refine (lose_some HT6.out.ours q HQ.out HLE.out).mono ?_
              rintro e w7 ⟨rfl, ho7⟩
              have HT7 := Lib.hid (HT6.out.step_net ho7)
              clear ho7
              go_wp2_with fail
              go_meet
              exact ⟨rfl, ⟨_, es, HT7.out, HF.out.lose.more (by omega)⟩⟩
            | false =>
              have HNN := Lib.hid hnn
              have hx1 : w4.cell? ⟨X, 1, none⟩ = some (.int .i64 xk) := by rw [cell_heap HX0.out]; rfl
              clear hnn
              go_wp2_with fail
              refine (take_doc_none HT4.out.doc xk HNN.out).mono ?_
              rintro e w5 ⟨rfl, hb5⟩
              have HT5 := Lib.hid (HT4.out.later hb5)
              have hx15 := cell_later hb5 hx1
              clear hb5 hx1 hx0 hx5
              simp only [aggM, cellsM]
              go_upto_region 35 with (fail)
              have hb6 : Below w5.heap.size w5 (w5.alloc (.cells #[.int .i64 m0.from_, .int .i64 m0.to_, .int .i64 m0.kind, .slice none 0 0, .slice none 0 0] 49)) := (Below.refl _ _).alloc (Nat.le_refl _) _
              have HT6 := Lib.hid (HT5.out.later hb6)
              have hx16 := cell_later hb6 hx15
              clear hb6 hx15
              generalize (w5.alloc (.cells #[.int .i64 m0.from_, .int .i64 m0.to_, .int .i64 m0.kind, .slice none 0 0, .slice none 0 0] 49)) = w6 at *
              go_wp2_with fail
              refine (lose_none HT6.out.ours xk HNN.out).mono ?_
              rintro e w7 ⟨rfl, ho7⟩
              have HT7 := Lib.hid (HT6.out.step_net ho7)
              clear ho7
              go_wp2_with fail
              go_meet
              exact ⟨rfl, ⟨_, es, HT7.out, HF.out.more (by omega)⟩⟩
        by_cases p3 : xop = 3
        · subst p3
          clear p0 p1 p2
          as_aux_lemma =>
            have HFI := HF.out
            cases hnn : hasN s xk && decide ((s.l.length : Int) < s.room) with
            | true =>
              have hp : hasN s xk = true ∧ (s.l.length : Int) < s.room := by simpa using hnn
              obtain ⟨q, rfl, hq⟩ : ∃ q : Nat, xk = q ∧ q < s.l.length := by
                have h1 := hp.1
                unfold hasN at h1
                simp only [Bool.and_eq_true, decide_eq_true_eq] at h1
                exact ⟨xk.toNat, by omega, by omega⟩
              have HP := Lib.hid (And.intro hq (And.intro hp.2 (show s.room ≤ 65536 by rw [HF.out.room]; exact hr2)))
              have HLM := Lib.hid (HF.out.get hq)
              have hx1 : w4.cell? ⟨X, 1, none⟩ = some (.int .i64 (q : Int)) := by rw [cell_heap HX0.out]; rfl
              have hXd : X ≠ d := by
                intro e
                obtain ⟨⟨cs, _, _, h1, _⟩, _⟩ := HT4.out.doc
                rw [← e, HX0.out] at h1
                simp at h1
              clear hnn hp hq HFI
              go_upto_region 37 with (fail)
              refine wp_region_held_drew (S := fun w' => w'.cell? ⟨X, 1, none⟩ = some (.int .i64 (q : Int))) (by kernel_rfl) hx1 (fun hHeld => ?_)
              refine wpAnyH_take (i := 0) (oi := { dst := some 170, op := Op.move (Operand.tmp 7), type := 23, pos := _, after := #[], guard := none }) (v := ?_) rfl (by kernel_rfl) (by kernel_rfl) (by kernel_rfl) (fun _ _ _ h => h) (Or.inl ⟨by rfl, ?_⟩) (by exact hHeld) ?_
              rotate_left
              · (intro w hSw; (try dsimp only at hSw); go_simp <;> with_reducible rfl)
              try simp only [Act.put, List.setIfInBounds_toArray, List.set_cons_zero, List.set_cons_succ]
              refine wpAnyH_take (i := 1) (oi := { dst := some 171, op := Op.fieldAddr 47 (Operand.tmp 11) 1, type := 0, pos := _, after := #[], guard := none }) (v := ?_) rfl (by kernel_rfl) (by kernel_rfl) (by kernel_rfl) (fun _ _ _ h => h) (Or.inl ⟨by rfl, ?_⟩) (by exact hHeld) ?_
              rotate_left
              · (intro w hSw; (try dsimp only at hSw); go_simp <;> with_reducible rfl)
              try simp only [Act.put, List.setIfInBounds_toArray, List.set_cons_zero, List.set_cons_succ]
              refine wpAnyH_take (i := 2) (oi := { dst := some 172, op := Op.load 3 (Operand.tmp 171), type := 3, pos := _, after := #[{ on := 1, ground := Ground.data }], guard := none }) (v := ?_) rfl (by kernel_rfl) (by kernel_rfl) (by kernel_rfl) (fun _ _ _ h => h) (Or.inl ⟨by rfl, ?_⟩) (by exact hHeld) ?_
              rotate_left
              · (intro w hSw; (try dsimp only at hSw); go_simp <;> with_reducible rfl)
              try simp only [Act.put, List.setIfInBounds_toArray, List.set_cons_zero, List.set_cons_succ]
              refine wpAnyH_take (i := 4) (oi := { dst := some 174, op := Op.move (Operand.tmp 9), type := 39, pos := _, after := #[], guard := none }) (v := ?_) rfl (by kernel_rfl) (by kernel_rfl) (by kernel_rfl) (fun _ _ _ h => h) (Or.inl ⟨by rfl, ?_⟩) (by exact hHeld) ?_
              rotate_left
              · (intro w hSw; (try dsimp only at hSw); go_simp <;> with_reducible rfl)
              try simp only [Act.put, List.setIfInBounds_toArray, List.set_cons_zero, List.set_cons_succ]
              refine wpAnyH_take (i := 5) (oi := { dst := some 175, op := Op.fieldAddr 47 (Operand.tmp 11) 1, type := 0, pos := _, after := #[], guard := none }) (v := ?_) rfl (by kernel_rfl) (by kernel_rfl) (by kernel_rfl) (fun _ _ _ h => h) (Or.inl ⟨by rfl, ?_⟩) (by exact hHeld) ?_
              rotate_left
              · (intro w hSw; (try dsimp only at hSw); go_simp <;> with_reducible rfl)
              try simp only [Act.put, List.setIfInBounds_toArray, List.set_cons_zero, List.set_cons_succ]
              refine wpAnyH_take (i := 6) (oi := { dst := some 176, op := Op.load 3 (Operand.tmp 175), type := 3, pos := _, after := #[{ on := 5, ground := Ground.data }], guard := none }) (v := ?_) rfl (by kernel_rfl) (by kernel_rfl) (by kernel_rfl) (fun _ _ _ h => h) (Or.inl ⟨by rfl, ?_⟩) (by exact hHeld) ?_
              rotate_left
              · (intro w hSw; (try dsimp only at hSw); go_simp <;> with_reducible rfl)
              try simp only [Act.put, List.setIfInBounds_toArray, List.set_cons_zero, List.set_cons_succ]
              refine wpAnyH_ready (rs := [3]) (by kernel_rfl) (by simp) ?_
              refine AllReadyH.cons (o := { dst := some 173, op := Op.call { callee := Callee.value (Operand.func 13), args := #[Operand.tmp 170, Operand.tmp 172], argTypes := #[23, 3] }, type := 4, pos := _, after := #[{ on := 0, ground := Ground.data }, { on := 2, ground := Ground.data }], guard := none }) rfl (fun K hK => ?_) AllReadyH.nil
              go_simp
              refine (copy_ok (HT4.out.later (below_drew (Below.refl _ _) 1)).ours q HP.out.1 HP.out.2.1 HP.out.2.2 HLM.out).mono ?_
              rintro e w5 ⟨rfl, ho5⟩
              have HT5 := Lib.hid ((HT4.out.later (below_drew (Below.refl _ _) 1)).step_net ho5)
              have hx15 : w5.cell? ⟨X, 1, none⟩ = some (.int .i64 (q : Int)) := by rw [cell_heap (HXT.out _ ((KeepsD.ofBelow (below_drew (Below.refl _ _) 1)).trans ho5.keep))]; rfl
              clear ho5
              go_wp2_with fail
              refine hK.out _ _ hx15 (fun hHeld => ?_)
              clear hK K
              try simp only [Act.put, List.setIfInBounds_toArray, List.set_cons_zero, List.set_cons_succ]
              refine wpAnyH_ready (rs := [7]) (by kernel_rfl) (by simp) ?_
              refine AllReadyH.cons (o := { dst := some 177, op := Op.call { callee := Callee.value (Operand.func 22), args := #[Operand.tmp 174, Operand.tmp 176], argTypes := #[39, 3] }, type := 4, pos := _, after := #[{ on := 4, ground := Ground.data }, { on := 6, ground := Ground.data }, { on := 3, ground := Ground.chain }], guard := none }) rfl (fun K hK => ?_) AllReadyH.nil
              go_simp
              refine (copy_doc HT5.out.doc q HP.out.1 HP.out.2.1 HP.out.2.2 HT5.out.size).mono ?_
              rintro e w6 ⟨rfl, hd6, ho6⟩
              have HT6 := Lib.hid (HT5.out.step_doc hd6 ho6)
              have hx16 := only_doc_cell HT5.out.doc ho6 hXd hx15
              clear hd6 ho6 hx15
              go_wp2_with fail
              refine hK.out _ _ hx16 (fun hHeld => ?_)
              clear hK K
              try simp only [Act.put, List.setIfInBounds_toArray, List.set_cons_zero, List.set_cons_succ]
              refine wpAnyH_ready (rs := [8]) (by kernel_rfl) (by simp) ?_
              refine AllReadyH.cons (o := { dst := some 178, op := Op.binOp BinOp.eql 4 (Operand.tmp 173) (Operand.tmp 177) 4, type := 4, pos := _, after := #[{ on := 3, ground := Ground.data }, { on := 7, ground := Ground.data }], guard := none }) rfl (fun K hK => ?_) AllReadyH.nil
              go_simp
              refine hK.out _ _ hHeld (fun hHeld => ?_)
              clear hK K
              try simp only [Act.put, List.setIfInBounds_toArray, List.set_cons_zero, List.set_cons_succ]
              refine wpAnyH_ready (rs := [9]) (by kernel_rfl) (by simp) ?_
              refine AllReadyH.cons (o := { dst := some 12, op := Op.assign (Operand.tmp 178), type := 4, pos := _, after := #[{ on := 8, ground := Ground.data }, { on := 7, ground := Ground.chain }, { on := 0, ground := Ground.phase }, { on := 1, ground := Ground.phase }, { on := 2, ground := Ground.phase }, { on := 3, ground := Ground.phase }, { on := 4, ground := Ground.phase }, { on := 5, ground := Ground.phase }, { on := 6, ground := Ground.phase }, { on := 7, ground := Ground.phase }, { on := 8, ground := Ground.phase }], guard := none }) rfl (fun K hK => ?_) AllReadyH.nil
              go_simp
              refine hK.out _ _ hHeld (fun hHeld => ?_)
              clear hK K
              try simp only [Act.put, List.setIfInBounds_toArray, List.set_cons_zero, List.set_cons_succ]
              refine wpAnyH_done (by kernel_rfl) ?_ _
              go_wp2_with fail
              go_meet
              exact ⟨rfl, ⟨_, es, HT6.out, (HF.out.copy HP.out.1).more (by omega)⟩⟩
            | false =>
              have hp : hasN s xk = false ∨ s.room ≤ (s.l.length : Int) := by
                rw [Bool.and_eq_false_iff] at hnn
                rcases hnn with h | h
                · exact .inl h
                · have := of_decide_eq_false h
                  exact .inr (by omega)
              have HP := Lib.hid hp
              have hx1 : w4.cell? ⟨X, 1, none⟩ = some (.int .i64 xk) := by rw [cell_heap HX0.out]; rfl
              clear hnn hp HFI
              go_upto_region 37 with (fail)
              refine wp_region_held_drew (S := fun w' => w'.cell? ⟨X, 1, none⟩ = some (.int .i64 xk)) (by kernel_rfl) hx1 (fun hHeld => ?_)
              refine wpAnyH_take (i := 0) (oi := { dst := some 170, op := Op.move (Operand.tmp 7), type := 23, pos := _, after := #[], guard := none }) (v := ?_) rfl (by kernel_rfl) (by kernel_rfl) (by kernel_rfl) (fun _ _ _ h => h) (Or.inl ⟨by rfl, ?_⟩) (by exact hHeld) ?_
              rotate_left
              · (intro w hSw; (try dsimp only at hSw); go_simp <;> with_reducible rfl)
              try simp only [Act.put, List.setIfInBounds_toArray, List.set_cons_zero, List.set_cons_succ]
              refine wpAnyH_take (i := 1) (oi := { dst := some 171, op := Op.fieldAddr 47 (Operand.tmp 11) 1, type := 0, pos := _, after := #[], guard := none }) (v := ?_) rfl (by kernel_rfl) (by kernel_rfl) (by kernel_rfl) (fun _ _ _ h => h) (Or.inl ⟨by rfl, ?_⟩) (by exact hHeld) ?_
              rotate_left
              · (intro w hSw; (try dsimp only at hSw); go_simp <;> with_reducible rfl)
              try simp only [Act.put, List.setIfInBounds_toArray, List.set_cons_zero, List.set_cons_succ]
              refine wpAnyH_take (i := 2) (oi := { dst := some 172, op := Op.load 3 (Operand.tmp 171), type := 3, pos := _, after := #[{ on := 1, ground := Ground.data }], guard := none }) (v := ?_) rfl (by kernel_rfl) (by kernel_rfl) (by kernel_rfl) (fun _ _ _ h => h) (Or.inl ⟨by rfl, ?_⟩) (by exact hHeld) ?_
              rotate_left
              · (intro w hSw; (try dsimp only at hSw); go_simp <;> with_reducible rfl)
              try simp only [Act.put, List.setIfInBounds_toArray, List.set_cons_zero, List.set_cons_succ]
              refine wpAnyH_take (i := 4) (oi := { dst := some 174, op := Op.move (Operand.tmp 9), type := 39, pos := _, after := #[], guard := none }) (v := ?_) rfl (by kernel_rfl) (by kernel_rfl) (by kernel_rfl) (fun _ _ _ h => h) (Or.inl ⟨by rfl, ?_⟩) (by exact hHeld) ?_
              rotate_left
              · (intro w hSw; (try dsimp only at hSw); go_simp <;> with_reducible rfl)
              try simp only [Act.put, List.setIfInBounds_toArray, List.set_cons_zero, List.set_cons_succ]
              refine wpAnyH_take (i := 5) (oi := { dst := some 175, op := Op.fieldAddr 47 (Operand.tmp 11) 1, type := 0, pos := _, after := #[], guard := none }) (v := ?_) rfl (by kernel_rfl) (by kernel_rfl) (by kernel_rfl) (fun _ _ _ h => h) (Or.inl ⟨by rfl, ?_⟩) (by exact hHeld) ?_
              rotate_left
              · (intro w hSw; (try dsimp only at hSw); go_simp <;> with_reducible rfl)
              try simp only [Act.put, List.setIfInBounds_toArray, List.set_cons_zero, List.set_cons_succ]
              refine wpAnyH_take (i := 6) (oi := { dst := some 176, op := Op.load 3 (Operand.tmp 175), type := 3, pos := _, after := #[{ on := 5, ground := Ground.data }], guard := none }) (v := ?_) rfl (by kernel_rfl) (by kernel_rfl) (by kernel_rfl) (fun _ _ _ h => h) (Or.inl ⟨by rfl, ?_⟩) (by exact hHeld) ?_
              rotate_left
              · (intro w hSw; (try dsimp only at hSw); go_simp <;> with_reducible rfl)
              try simp only [Act.put, List.setIfInBounds_toArray, List.set_cons_zero, List.set_cons_succ]
              refine wpAnyH_ready (rs := [3]) (by kernel_rfl) (by simp) ?_
              refine AllReadyH.cons (o := { dst := some 173, op := Op.call { callee := Callee.value (Operand.func 13), args := #[Operand.tmp 170, Operand.tmp 172], argTypes := #[23, 3] }, type := 4, pos := _, after := #[{ on := 0, ground := Ground.data }, { on := 2, ground := Ground.data }], guard := none }) rfl (fun K hK => ?_) AllReadyH.nil
              go_simp
              refine (copy_no (HT4.out.later (below_drew (Below.refl _ _) 1)).ours xk HP.out).mono ?_
              rintro e w5 ⟨rfl, ho5⟩
              have HT5 := Lib.hid ((HT4.out.later (below_drew (Below.refl _ _) 1)).step_net ho5)
              have hx15 : w5.cell? ⟨X, 1, none⟩ = some (.int .i64 xk) := by rw [cell_heap (HXT.out _ ((KeepsD.ofBelow (below_drew (Below.refl _ _) 1)).trans ho5.keep))]; rfl
              clear ho5
              go_wp2_with fail
              refine hK.out _ _ hx15 (fun hHeld => ?_)
              clear hK K
              try simp only [Act.put, List.setIfInBounds_toArray, List.set_cons_zero, List.set_cons_succ]
              refine wpAnyH_ready (rs := [7]) (by kernel_rfl) (by simp) ?_
              refine AllReadyH.cons (o := { dst := some 177, op := Op.call { callee := Callee.value (Operand.func 22), args := #[Operand.tmp 174, Operand.tmp 176], argTypes := #[39, 3] }, type := 4, pos := _, after := #[{ on := 4, ground := Ground.data }, { on := 6, ground := Ground.data }, { on := 3, ground := Ground.chain }], guard := none }) rfl (fun K hK => ?_) AllReadyH.nil
              go_simp
              refine (copy_doc_no HT5.out.doc xk HP.out).mono ?_
              rintro e w6 ⟨rfl, hb6⟩
              have HT6 := Lib.hid (HT5.out.later hb6)
              have hx16 := cell_later hb6 hx15
              clear hb6 hx15
              go_wp2_with fail
              refine hK.out _ _ hx16 (fun hHeld => ?_)
              clear hK K
              try simp only [Act.put, List.setIfInBounds_toArray, List.set_cons_zero, List.set_cons_succ]
              refine wpAnyH_ready (rs := [8]) (by kernel_rfl) (by simp) ?_
              refine AllReadyH.cons (o := { dst := some 178, op := Op.binOp BinOp.eql 4 (Operand.tmp 173) (Operand.tmp 177) 4, type := 4, pos := _, after := #[{ on := 3, ground := Ground.data }, { on := 7, ground := Ground.data }], guard := none }) rfl (fun K hK => ?_) AllReadyH.nil
              go_simp
              refine hK.out _ _ hHeld (fun hHeld => ?_)
              clear hK K
              try simp only [Act.put, List.setIfInBounds_toArray, List.set_cons_zero, List.set_cons_succ]
              refine wpAnyH_ready (rs := [9]) (by kernel_rfl) (by simp) ?_
              refine AllReadyH.cons (o := { dst := some 12, op := Op.assign (Operand.tmp 178), type := 4, pos := _, after := #[{ on := 8, ground := Ground.data }, { on := 7, ground := Ground.chain }, { on := 0, ground := Ground.phase }, { on := 1, ground := Ground.phase }, { on := 2, ground := Ground.phase }, { on := 3, ground := Ground.phase }, { on := 4, ground := Ground.phase }, { on := 5, ground := Ground.phase }, { on := 6, ground := Ground.phase }, { on := 7, ground := Ground.phase }, { on := 8, ground := Ground.phase }], guard := none }) rfl (fun K hK => ?_) AllReadyH.nil
              go_simp
              refine hK.out _ _ hHeld (fun hHeld => ?_)
              clear hK K
              try simp only [Act.put, List.setIfInBounds_toArray, List.set_cons_zero, List.set_cons_succ]
              refine wpAnyH_done (by kernel_rfl) ?_ _
              go_wp2_with fail
              go_meet
              exact ⟨rfl, ⟨_, es, HT6.out, HF.out.more (by omega)⟩⟩
        by_cases p4 : xop = 4
        · subst p4
          clear p0 p1 p2 p3
          as_aux_lemma =>
            have hx2 : w4.cell? ⟨X, 2, none⟩ = some (.int .i64 xa) := by rw [cell_heap HX0.out]; rfl
            have hx3 : w4.cell? ⟨X, 3, none⟩ = some (.int .i64 xb) := by rw [cell_heap HX0.out]; rfl
            have hx4 : w4.cell? ⟨X, 4, none⟩ = some (.bool xl) := by rw [cell_heap HX0.out]; rfl
            have HN64 : Hid (s.nodes ≤ 64) := Lib.hid (by rw [HF.out.nodes]; exact hn2)
            cases hnn : isNode s xa && isNode s xb with
            | true =>
              have hp : isNode s xa = true ∧ isNode s xb = true := by simpa using hnn
              have HP := Lib.hid hp
              obtain ⟨u, v, rfl, rfl⟩ : ∃ u v : Nat, xa = u ∧ xb = v := by
                have h1 := hp.1; have h2 := hp.2
                unfold isNode at h1 h2
                simp only [Bool.and_eq_true, decide_eq_true_eq] at h1 h2
                exact ⟨xa.toNat, xb.toNat, by omega, by omega⟩
              clear hnn hp
              go_wp2_with fail
              refine (cut_any HT4.out.ours (u : Int) (v : Int) xl HP.out.1 HP.out.2 HN64.out).mono ?_
              rintro e w5 ⟨rfl, ho5⟩
              have HT5 := Lib.hid (HT4.out.step_net ho5)
              have hh5 := HXT.out _ ho5.keep
              have hx2 : w5.cell? ⟨X, 2, none⟩ = some (.int .i64 u) := by rw [cell_heap hh5]; rfl
              have hx3 : w5.cell? ⟨X, 3, none⟩ = some (.int .i64 v) := by rw [cell_heap hh5]; rfl
              have hx4 : w5.cell? ⟨X, 4, none⟩ = some (.bool xl) := by rw [cell_heap hh5]; rfl
              clear ho5 hh5
              go_wp2_with fail
              refine (cut_doc HT5.out.doc u v xl HP.out.1 HP.out.2 HN64.out).mono ?_
              rintro e w6 ⟨rfl, hd6, ho6⟩
              have HT6 := Lib.hid (HT5.out.step_doc hd6 ho6)
              clear hd6 ho6
              go_wp2_with fail
              go_meet
              exact ⟨rfl, ⟨s, _, HT6.out, HF.out.more (by omega)⟩⟩
            | false =>
              have HP := Lib.hid hnn
              clear hnn
              go_wp2_with fail
              refine (cut_no HT4.out.ours xa xb xl HP.out).mono ?_
              rintro e w5 ⟨rfl, ho5⟩
              have HT5 := Lib.hid (HT4.out.step_net ho5)
              have hh5 := HXT.out _ ho5.keep
              have hx2 : w5.cell? ⟨X, 2, none⟩ = some (.int .i64 xa) := by rw [cell_heap hh5]; rfl
              have hx3 : w5.cell? ⟨X, 3, none⟩ = some (.int .i64 xb) := by rw [cell_heap hh5]; rfl
              have hx4 : w5.cell? ⟨X, 4, none⟩ = some (.bool xl) := by rw [cell_heap hh5]; rfl
              clear ho5 hh5
              go_wp2_with fail
              refine (cut_doc_no HT5.out.doc xa xb xl HP.out).mono ?_
              rintro e w6 ⟨rfl, rfl⟩
              go_wp2_with fail
              go_meet
              exact ⟨rfl, ⟨s, _, HT5.out, HF.out.more (by omega)⟩⟩
        have q0 : (xop == 0) = false := by simpa using p0
        have q1 : (xop == 1) = false := by simpa using p1
        have q2 : (xop == 2) = false := by simpa using p2
        have q3 : (xop == 3) = false := by simpa using p3
        have q4 : (xop == 4) = false := by simpa using p4
        clear p0 p1 p2 p3 p4
        as_aux_lemma =>
          go_wp2_with fail
          refine (heal_any HT4.out.ours).mono ?_
          rintro e w5 ⟨rfl, ho5⟩
          have HT5 := Lib.hid (HT4.out.step_net ho5)
          clear ho5
          go_wp2_with fail
          refine (heal_doc HT5.out.doc).mono ?_
          rintro e w6 ⟨rfl, hd6, ho6⟩
          have HT6 := Lib.hid (HT5.out.step_doc hd6 ho6)
          clear hd6 ho6
          go_wp2_with fail
          go_meet
          exact ⟨rfl, ⟨s, [], HT6.out, HF.out.more (by omega)⟩⟩
      case rest =>
        as_aux_lemma =>
          obtain ⟨rfl, ⟨s, es, htwo, hfine⟩⟩ := hcut
          have HT1 := Lib.hid htwo
          have HF1 := Lib.hid hfine
          clear htwo hfine hx0 hx5
          obtain ⟨gn, mb, hnet⟩ := HT1.out.net
          have HNET := Lib.hid hnet
          clear hnet
          obtain ⟨⟨cs, vr, ps, h1, h2, h3, h4, h5, h6, h7, h8⟩, h9⟩ := HT1.out.doc
          obtain ⟨ao2, cap2, rfl, _, _⟩ := row_shape49 h7
          have hd2 : wc.cell? ⟨d, 2, none⟩ = some (.slice ao2 s.l.length cap2) := by rw [cell_heap h1]; exact h5
          clear h1 h2 h3 h4 h5 h6 h7 h8 h9
          have HLE : Hid (s.l.length ≤ 1000000) := Lib.hid (by have := HF1.out.few; omega)
          go_upto_region 41 with (fail)
          refine wp_region_held_drew (S := fun w' => w'.cell? ⟨d, 2, none⟩ = some (.slice ao2 s.l.length cap2)) (by kernel_rfl) hd2 (fun hHeld => ?_)
          refine wpAnyH_take (i := 0) (oi := { dst := some 197, op := Op.move (Operand.tmp 12), type := 4, pos := _, after := #[], guard := none }) (v := ?_) rfl (by kernel_rfl) (by kernel_rfl) (by kernel_rfl) (fun _ _ _ h => h) (Or.inl ⟨by rfl, ?_⟩) (by exact hHeld) ?_
          rotate_left
          · (intro w hSw; (try dsimp only at hSw); go_simp <;> with_reducible rfl)
          try simp only [Act.put, List.setIfInBounds_toArray, List.set_cons_zero, List.set_cons_succ]
          refine wpAnyH_take (i := 1) (oi := { dst := some 198, op := Op.unOp UnOp.not 4 (Operand.tmp 197), type := 4, pos := _, after := #[{ on := 0, ground := Ground.data }], guard := none }) (v := ?_) rfl (by kernel_rfl) (by kernel_rfl) (by kernel_rfl) (fun _ _ _ h => h) (Or.inl ⟨by rfl, ?_⟩) (by exact hHeld) ?_
          rotate_left
          · (intro w hSw; (try dsimp only at hSw); go_simp <;> with_reducible rfl)
          try simp only [Act.put, List.setIfInBounds_toArray, List.set_cons_zero, List.set_cons_succ]
          refine wpAnyH_take (i := 2) (oi := { dst := some 199, op := Op.move (Operand.tmp 198), type := 4, pos := _, after := #[{ on := 1, ground := Ground.data }], guard := none }) (v := ?_) rfl (by kernel_rfl) (by kernel_rfl) (by kernel_rfl) (fun _ _ _ h => h) (Or.inl ⟨by rfl, ?_⟩) (by exact hHeld) ?_
          rotate_left
          · (intro w hSw; (try dsimp only at hSw); go_simp <;> with_reducible rfl)
          try simp only [Act.put, List.setIfInBounds_toArray, List.set_cons_zero, List.set_cons_succ]
          refine wpAnyH_take (i := 3) (oi := { dst := some 200, op := Op.move (Operand.tmp 7), type := 23, pos := _, after := #[{ on := 2, ground := Ground.guard }], guard := some (2, false) }) (v := ?_) rfl (by kernel_rfl) (by kernel_rfl) (by kernel_rfl) (fun _ _ _ h => h) (Or.inl ⟨by rfl, ?_⟩) (by exact hHeld) ?_
          rotate_left
          · (intro w hSw; (try dsimp only at hSw); go_simp <;> with_reducible rfl)
          try simp only [Act.put, List.setIfInBounds_toArray, List.set_cons_zero, List.set_cons_succ]
          refine wpAnyH_take (i := 5) (oi := { dst := some 202, op := Op.move (Operand.tmp 9), type := 39, pos := _, after := #[{ on := 2, ground := Ground.guard }], guard := some (2, false) }) (v := ?_) rfl (by kernel_rfl) (by kernel_rfl) (by kernel_rfl) (fun _ _ _ h => h) (Or.inl ⟨by rfl, ?_⟩) (by exact hHeld) ?_
          rotate_left
          · (intro w hSw; (try dsimp only at hSw); go_simp <;> with_reducible rfl)
          try simp only [Act.put, List.setIfInBounds_toArray, List.set_cons_zero, List.set_cons_succ]
          refine wpAnyH_take (i := 6) (oi := { dst := some 203, op := Op.nilCheck (Operand.tmp 202), type := 0, pos := _, after := #[{ on := 5, ground := Ground.data }, { on := 2, ground := Ground.guard }], guard := some (2, false) }) (v := ?_) rfl (by kernel_rfl) (by kernel_rfl) (by kernel_rfl) (fun _ _ _ h => h) (Or.inl ⟨by rfl, ?_⟩) (by exact hHeld) ?_
          rotate_left
          · (intro w hSw; (try dsimp only at hSw); go_simp <;> with_reducible rfl)
          try simp only [Act.put, List.setIfInBounds_toArray, List.set_cons_zero, List.set_cons_succ]
          refine wpAnyH_take (i := 7) (oi := { dst := some 204, op := Op.fieldAddr 44 (Operand.tmp 203) 2, type := 0, pos := _, after := #[{ on := 6, ground := Ground.data }, { on := 2, ground := Ground.guard }], guard := some (2, false) }) (v := ?_) rfl (by kernel_rfl) (by kernel_rfl) (by kernel_rfl) (fun _ _ _ h => h) (Or.inl ⟨by rfl, ?_⟩) (by exact hHeld) ?_
          rotate_left
          · (intro w hSw; (try dsimp only at hSw); go_simp <;> with_reducible rfl)
          try simp only [Act.put, List.setIfInBounds_toArray, List.set_cons_zero, List.set_cons_succ]
          refine wpAnyH_take (i := 8) (oi := { dst := some 205, op := Op.load 40 (Operand.tmp 204), type := 40, pos := _, after := #[{ on := 7, ground := Ground.data }, { on := 2, ground := Ground.guard }], guard := some (2, false) }) (v := ?_) rfl (by kernel_rfl) (by kernel_rfl) (by kernel_rfl) (fun _ _ _ h => h) (Or.inl ⟨by rfl, ?_⟩) (by exact hHeld) ?_
          rotate_left
          · (intro w hSw; (try dsimp only at hSw); go_simp <;> with_reducible rfl)
          try simp only [Act.put, List.setIfInBounds_toArray, List.set_cons_zero, List.set_cons_succ]
          refine wpAnyH_take (i := 9) (oi := { dst := some 206, op := Op.call { callee := Callee.builtin Builtin.len, args := #[Operand.tmp 205], argTypes := #[40] }, type := 3, pos := _, after := #[{ on := 8, ground := Ground.data }, { on := 2, ground := Ground.guard }], guard := some (2, false) }) (v := ?_) rfl (by kernel_rfl) (by kernel_rfl) (by kernel_rfl) (fun _ _ _ h => h) (Or.inl ⟨by rfl, ?_⟩) (by exact hHeld) ?_
          rotate_left
          · (intro w hSw; (try dsimp only at hSw); go_simp <;> with_reducible rfl)
          try simp only [Act.put, List.setIfInBounds_toArray, List.set_cons_zero, List.set_cons_succ]
          refine wpAnyH_ready (rs := [4]) (by kernel_rfl) (by simp) ?_
          refine AllReadyH.cons (o := { dst := some 201, op := Op.call { callee := Callee.value (Operand.func 16), args := #[Operand.tmp 200], argTypes := #[23] }, type := 3, pos := _, after := #[{ on := 3, ground := Ground.data }, { on := 2, ground := Ground.chain }, { on := 2, ground := Ground.guard }], guard := some (2, false) }) rfl (fun K hK => ?_) AllReadyH.nil
          go_simp
          refine (len_any (HNET.out.below (below_drew (Below.refl _ _) 1))).mono ?_
          rintro e w5 ⟨rfl, rfl⟩
          go_wp2_with fail
          refine hK.out _ _ hHeld (fun hHeld => ?_)
          clear hK K
          try simp only [Act.put, List.setIfInBounds_toArray, List.set_cons_zero, List.set_cons_succ]
          refine wpAnyH_ready (rs := [10]) (by kernel_rfl) (by simp) ?_
          refine AllReadyH.cons (o := { dst := some 207, op := Op.binOp BinOp.neq 3 (Operand.tmp 201) (Operand.tmp 206) 3, type := 4, pos := _, after := #[{ on := 4, ground := Ground.data }, { on := 9, ground := Ground.data }, { on := 2, ground := Ground.guard }], guard := some (2, false) }) rfl (fun K hK => ?_) AllReadyH.nil
          go_simp
          refine hK.out _ _ hHeld (fun hHeld => ?_)
          clear hK K
          try simp only [Act.put, List.setIfInBounds_toArray, List.set_cons_zero, List.set_cons_succ]
          refine wpAnyH_ready (rs := [11]) (by kernel_rfl) (by simp) ?_
          refine AllReadyH.cons (o := { dst := some 208, op := Op.pick (Operand.tmp 199) (Operand.const (Value.bool true)) (Operand.tmp 207), type := 4, pos := _, after := #[{ on := 2, ground := Ground.data }, { on := 10, ground := Ground.data }], guard := none }) rfl (fun K hK => ?_) AllReadyH.nil
          go_simp
          refine hK.out _ _ hHeld (fun hHeld => ?_)
          clear hK K
          try simp only [Act.put, List.setIfInBounds_toArray, List.set_cons_zero, List.set_cons_succ]
          refine wpAnyH_done (by kernel_rfl) ?_ _
          have HT2 := Lib.hid (HT1.out.later (below_drew (Below.refl wc.heap.size wc) 1))
          generalize wc.drew = w2 at *
          clear hHeld hd2
          go_wp2_with fail
          go_loopw [21] (fun i wq => ∃ q : Nat, q ≤ s.l.length ∧ i = .int .i64 (q : Int) ∧ Two W.heap.size W wq a d s es s es) (fun i _ => s.l.length - (intOf i).toNat)
          case atStart => exact ⟨0, by omega, rfl, HT2.out⟩
          case round =>
            obtain ⟨q, hq, rfl, htq⟩ := hrel
            have HTQ := Lib.hid htq
            clear htq
            obtain ⟨⟨cs, vr, ps, h1, h2, h3, h4, h5, h6, h7, h8⟩, h9⟩ := HTQ.out.doc
            obtain ⟨ao2, cap2, rfl, _, _⟩ := row_shape49 h7
            have hd2 : wr.cell? ⟨d, 2, none⟩ = some (.slice ao2 s.l.length cap2) := by rw [cell_heap h1]; exact h5
            clear h1 h2 h3 h4 h5 h6 h7 h8 h9
            by_cases hql : q < s.l.length
            · have HQL := Lib.hid hql
              have HLM := Lib.hid (HF1.out.get hql)
              have hqi0 : (q : Int) < (s.l.length : Int) := by omega
              go_wp2_with fail
              refine (at_yes HTQ.out.ours q HQL.out HLE.out HLM.out).mono ?_
              rintro e w5 ⟨v, u, rfl, hm5, ho5, _⟩
              obtain ⟨av, cv, rfl, _⟩ := hm5.ns.isI
              obtain ⟨bv, cw, rfl, _, _⟩ := hm5.bs.shape
              have HT5 := Lib.hid (HTQ.out.step_net ho5)
              have HM5 := Lib.hid hm5
              clear hm5 ho5 hd2
              simp only [aggM, cellsM]
              go_upto_region 47 with (fail)
              have hb6 : Below w5.heap.size w5 (w5.alloc (.cells #[.int .i64 (getN s q).from_, .int .i64 (getN s q).to_, .int .i64 (getN s q).kind, .slice av (getN s q).ns.length cv, .slice bv (getN s q).bs.length cw] 32)) := (Below.refl _ _).alloc (Nat.le_refl _) _
              have HT8 := Lib.hid (HT5.out.later hb6)
              have HX7 := Lib.hid (heap_new w5 (.cells #[.int .i64 (getN s q).from_, .int .i64 (getN s q).to_, .int .i64 (getN s q).kind, .slice av (getN s q).ns.length cv, .slice bv (getN s q).bs.length cw] 32))
              have HI1 := Lib.hid ((HM5.out.below hb6).is HLM.out)
              clear hb6
              generalize (w5.alloc (.cells #[.int .i64 (getN s q).from_, .int .i64 (getN s q).to_, .int .i64 (getN s q).kind, .slice av (getN s q).ns.length cv, .slice bv (getN s q).bs.length cw] 32)) = w8 at *
              generalize w5.heap.size = X7 at *
              obtain ⟨⟨cs, vr, ps, h1, h2, h3, h4, h5, h6, h7, h8⟩, h9⟩ := HT8.out.doc
              obtain ⟨gd, cap, rfl, hg1, hg2, hc1, hc2, hpl, hcell⟩ := row_cell49 h7 (by have := HQL.out; omega)
              have hqp : q < ps.length := by rw [hpl]; exact HQL.out
              have hmem : ps.getD q mv0 ∈ ps := by
                simp only [List.getD, List.getElem?_eq_getElem hqp, Option.getD_some]
                exact List.getElem_mem _
              have hxm : (ps.getD q mv0).m = getN s q := by
                unfold getN
                rw [← h8.ms]
                simp [List.getD, hqp]
              have hown := h8.own _ hmem
              rw [hxm] at hown
              have hI2 := hown.is HLM.out
              obtain ⟨⟨av2, cv2, hve, _⟩, ⟨bv2, cw2, hue, _⟩⟩ := hI2
              have HI2 : Hid (IsM w8 (getN s q) (.slice av2 (getN s q).ns.length cv2) (.slice bv2 (getN s q).bs.length cw2)) := Lib.hid (by rw [← hve, ← hue]; exact hown.is HLM.out)
              have hd2 : ∀ w', Below w8.heap.size w8 w' → w'.cell? ⟨d, 2, none⟩ = some (.slice (some ⟨gd, 0, none⟩) s.l.length cap) := fun w' hb => by rw [cell_heap (heap_below hb (lt_of_heap h1) h1)]; exact h5
              have hz0 : w8.cell? ⟨gd, q * 5 + 0, none⟩ = some (.int .i64 (getN s q).from_) := by
                have := hcell q 0 HQL.out (by omega)
                simp only [cells5, hxm, hve, hue] at this
                exact this
              have hy10 : ∀ w', Below w8.heap.size w8 w' → w'.cell? ⟨gd, q * 5, none⟩ = some (.int .i64 (getN s q).from_) := fun w' hb => cell_later hb hz0
              have hy00 : ∀ w', Below w8.heap.size w8 w' → w'.cell? ⟨X7, 0, none⟩ = some (.int .i64 (getN s q).from_) := fun w' hb => by rw [cell_heap (heap_below hb (lt_of_heap HX7.out) HX7.out)]; rfl
              have hz1 : w8.cell? ⟨gd, q * 5 + 1, none⟩ = some (.int .i64 (getN s q).to_) := by
                have := hcell q 1 HQL.out (by omega)
                simp only [cells5, hxm, hve, hue] at this
                exact this
              have hy11 : ∀ w', Below w8.heap.size w8 w' → w'.cell? ⟨gd, q * 5 + 1, none⟩ = some (.int .i64 (getN s q).to_) := fun w' hb => cell_later hb hz1
              have hy01 : ∀ w', Below w8.heap.size w8 w' → w'.cell? ⟨X7, 1, none⟩ = some (.int .i64 (getN s q).to_) := fun w' hb => by rw [cell_heap (heap_below hb (lt_of_heap HX7.out) HX7.out)]; rfl
              have hz2 : w8.cell? ⟨gd, q * 5 + 2, none⟩ = some (.int .i64 (getN s q).kind) := by
                have := hcell q 2 HQL.out (by omega)
                simp only [cells5, hxm, hve, hue] at this
                exact this
              have hy12 : ∀ w', Below w8.heap.size w8 w' → w'.cell? ⟨gd, q * 5 + 2, none⟩ = some (.int .i64 (getN s q).kind) := fun w' hb => cell_later hb hz2
              have hy02 : ∀ w', Below w8.heap.size w8 w' → w'.cell? ⟨X7, 2, none⟩ = some (.int .i64 (getN s q).kind) := fun w' hb => by rw [cell_heap (heap_below hb (lt_of_heap HX7.out) HX7.out)]; rfl
              have hz3 : w8.cell? ⟨gd, q * 5 + 3, none⟩ = some (.slice av2 (getN s q).ns.length cv2) := by
                have := hcell q 3 HQL.out (by omega)
                simp only [cells5, hxm, hve, hue] at this
                exact this
              have hy13 : ∀ w', Below w8.heap.size w8 w' → w'.cell? ⟨gd, q * 5 + 3, none⟩ = some (.slice av2 (getN s q).ns.length cv2) := fun w' hb => cell_later hb hz3
              have hy03 : ∀ w', Below w8.heap.size w8 w' → w'.cell? ⟨X7, 3, none⟩ = some (.slice av (getN s q).ns.length cv) := fun w' hb => by rw [cell_heap (heap_below hb (lt_of_heap HX7.out) HX7.out)]; rfl
              have hz4 : w8.cell? ⟨gd, q * 5 + 4, none⟩ = some (.slice bv2 (getN s q).bs.length cw2) := by
                have := hcell q 4 HQL.out (by omega)
                simp only [cells5, hxm, hve, hue] at this
                exact this
              have hy14 : ∀ w', Below w8.heap.size w8 w' → w'.cell? ⟨gd, q * 5 + 4, none⟩ = some (.slice bv2 (getN s q).bs.length cw2) := fun w' hb => cell_later hb hz4
              have hy04 : ∀ w', Below w8.heap.size w8 w' → w'.cell? ⟨X7, 4, none⟩ = some (.slice bv (getN s q).bs.length cw) := fun w' hb => by rw [cell_heap (heap_below hb (lt_of_heap HX7.out) HX7.out)]; rfl
              clear h1 h2 h3 h4 h5 h6 h7 h8 h9 hcell hown hve hue hz0 hz1 hz2 hz3 hz4 hxm hmem hqp hpl
              have hqi : (q : Int) < (s.l.length : Int) := by have := HQL.out; omega
              refine wp_region_held_drew (S := fun w' => Below w8.heap.size w8 w') (by kernel_rfl) (below_drew (Below.refl _ _) 1) (fun hHeld => ?_)
              refine wpAnyH_take (i := 0) (oi := { dst := some 224, op := Op.move (Operand.tmp 23), type := 4, pos := _, after := #[], guard := none }) (v := ?_) rfl (by kernel_rfl) (by kernel_rfl) (by kernel_rfl) (fun _ _ _ h => h) (Or.inl ⟨by rfl, ?_⟩) (by exact hHeld) ?_
              rotate_left
              · (intro w hSw; (try dsimp only at hSw); go_simp <;> with_reducible rfl)
              try simp only [Act.put, List.setIfInBounds_toArray, List.set_cons_zero, List.set_cons_succ]
              refine wpAnyH_take (i := 1) (oi := { dst := some 225, op := Op.unOp UnOp.not 4 (Operand.tmp 224), type := 4, pos := _, after := #[{ on := 0, ground := Ground.data }], guard := none }) (v := ?_) rfl (by kernel_rfl) (by kernel_rfl) (by kernel_rfl) (fun _ _ _ h => h) (Or.inl ⟨by rfl, ?_⟩) (by exact hHeld) ?_
              rotate_left
              · (intro w hSw; (try dsimp only at hSw); go_simp <;> with_reducible rfl)
              try simp only [Act.put, List.setIfInBounds_toArray, List.set_cons_zero, List.set_cons_succ]
              refine wpAnyH_take (i := 2) (oi := { dst := some 226, op := Op.move (Operand.tmp 225), type := 4, pos := _, after := #[{ on := 1, ground := Ground.data }], guard := none }) (v := ?_) rfl (by kernel_rfl) (by kernel_rfl) (by kernel_rfl) (fun _ _ _ h => h) (Or.inl ⟨by rfl, ?_⟩) (by exact hHeld) ?_
              rotate_left
              · (intro w hSw; (try dsimp only at hSw); go_simp <;> with_reducible rfl)
              try simp only [Act.put, List.setIfInBounds_toArray, List.set_cons_zero, List.set_cons_succ]
              refine wpAnyH_take (i := 3) (oi := { dst := some 227, op := Op.load 32 (Operand.tmp 22), type := 32, pos := _, after := #[{ on := 2, ground := Ground.guard }], guard := some (2, false) }) (v := ?_) rfl (by kernel_rfl) (by kernel_rfl) (by kernel_rfl) (fun _ _ _ h => h) (Or.inl ⟨by rfl, ?_⟩) (by exact hHeld) ?_
              rotate_left
              · (intro w hSw; (try dsimp only at hSw); go_simp <;> with_reducible rfl)
              try simp only [Act.put, List.setIfInBounds_toArray, List.set_cons_zero, List.set_cons_succ]
              refine wpAnyH_take (i := 5) (oi := { dst := some 229, op := Op.move (Operand.tmp 9), type := 39, pos := _, after := #[{ on := 2, ground := Ground.guard }], guard := some (2, false) }) (v := ?_) rfl (by kernel_rfl) (by kernel_rfl) (by kernel_rfl) (fun _ _ _ h => h) (Or.inl ⟨by rfl, ?_⟩) (by exact hHeld) ?_
              rotate_left
              · (intro w hSw; (try dsimp only at hSw); go_simp <;> with_reducible rfl)
              try simp only [Act.put, List.setIfInBounds_toArray, List.set_cons_zero, List.set_cons_succ]
              refine wpAnyH_take (i := 6) (oi := { dst := some 230, op := Op.nilCheck (Operand.tmp 229), type := 0, pos := _, after := #[{ on := 5, ground := Ground.data }, { on := 2, ground := Ground.guard }], guard := some (2, false) }) (v := ?_) rfl (by kernel_rfl) (by kernel_rfl) (by kernel_rfl) (fun _ _ _ h => h) (Or.inl ⟨by rfl, ?_⟩) (by exact hHeld) ?_
              rotate_left
              · (intro w hSw; (try dsimp only at hSw); go_simp <;> with_reducible rfl)
              try simp only [Act.put, List.setIfInBounds_toArray, List.set_cons_zero, List.set_cons_succ]
              refine wpAnyH_take (i := 7) (oi := { dst := some 231, op := Op.fieldAddr 44 (Operand.tmp 230) 2, type := 0, pos := _, after := #[{ on := 6, ground := Ground.data }, { on := 2, ground := Ground.guard }], guard := some (2, false) }) (v := ?_) rfl (by kernel_rfl) (by kernel_rfl) (by kernel_rfl) (fun _ _ _ h => h) (Or.inl ⟨by rfl, ?_⟩) (by exact hHeld) ?_
              rotate_left
              · (intro w hSw; (try dsimp only at hSw); go_simp <;> with_reducible rfl)
              try simp only [Act.put, List.setIfInBounds_toArray, List.set_cons_zero, List.set_cons_succ]
              refine wpAnyH_take (i := 8) (oi := { dst := some 232, op := Op.load 40 (Operand.tmp 231), type := 40, pos := _, after := #[{ on := 7, ground := Ground.data }, { on := 2, ground := Ground.guard }], guard := some (2, false) }) (v := ?_) rfl (by kernel_rfl) (by kernel_rfl) (by kernel_rfl) (fun _ _ _ h => h) (Or.inl ⟨by rfl, ?_⟩) (by exact hHeld) ?_
              rotate_left
              · (intro w hSw; (try dsimp only at hSw); go_simp <;> with_reducible rfl)
              try simp only [Act.put, List.setIfInBounds_toArray, List.set_cons_zero, List.set_cons_succ]
              refine wpAnyH_take (i := 9) (oi := { dst := some 233, op := Op.move (Operand.tmp 21), type := 3, pos := _, after := #[{ on := 2, ground := Ground.guard }], guard := some (2, false) }) (v := ?_) rfl (by kernel_rfl) (by kernel_rfl) (by kernel_rfl) (fun _ _ _ h => h) (Or.inl ⟨by rfl, ?_⟩) (by exact hHeld) ?_
              rotate_left
              · (intro w hSw; (try dsimp only at hSw); go_simp <;> with_reducible rfl)
              try simp only [Act.put, List.setIfInBounds_toArray, List.set_cons_zero, List.set_cons_succ]
              refine wpAnyH_take (i := 10) (oi := { dst := some 234, op := Op.indexAddr 40 (Operand.tmp 232) (Operand.tmp 233), type := 0, pos := _, after := #[{ on := 8, ground := Ground.data }, { on := 9, ground := Ground.data }, { on := 2, ground := Ground.guard }], guard := some (2, false) }) (v := ?_) rfl (by kernel_rfl) (by kernel_rfl) (by kernel_rfl) (fun _ _ _ h => h) (Or.inl ⟨by rfl, ?_⟩) (by exact hHeld) ?_
              rotate_left
              · (intro w hSw; (try dsimp only at hSw); go_simp <;> with_reducible rfl)
              try simp only [Act.put, List.setIfInBounds_toArray, List.set_cons_zero, List.set_cons_succ]
              refine wpAnyH_take (i := 11) (oi := { dst := some 235, op := Op.load 49 (Operand.tmp 234), type := 49, pos := _, after := #[{ on := 10, ground := Ground.data }, { on := 2, ground := Ground.guard }], guard := some (2, false) }) (v := ?_) rfl (by kernel_rfl) (by kernel_rfl) (by kernel_rfl) (fun _ _ _ h => h) (Or.inl ⟨by rfl, ?_⟩) (by exact hHeld) ?_
              rotate_left
              · (intro w hSw; (try dsimp only at hSw); go_simp <;> with_reducible rfl)
              try simp only [Act.put, List.setIfInBounds_toArray, List.set_cons_zero, List.set_cons_succ]
              refine wpAnyH_ready (rs := [4]) (by kernel_rfl) (by simp) ?_
              refine AllReadyH.cons (o := { dst := some 228, op := Op.call { callee := Callee.value (Operand.func 18), args := #[Operand.tmp 227], argTypes := #[32] }, type := 49, pos := _, after := #[{ on := 3, ground := Ground.data }, { on := 2, ground := Ground.chain }, { on := 2, ground := Ground.guard }], guard := some (2, false) }) rfl (fun K hK => ?_) AllReadyH.nil
              go_simp
              refine (nm_any (getN s q) av (getN s q).ns.length cv bv (getN s q).bs.length cw _).mono ?_
              rintro e w9 ⟨rfl, hb9⟩
              have hB9 : Below w8.heap.size w8 w9 := (below_drew (Below.refl _ _) 1).trans hb9
              have HB9 := Lib.hid hB9
              simp only [aggM, cellsM]
              go_wp2_with fail
              refine hK.out _ _ hB9 (fun hHeld => ?_)
              clear hK K
              try simp only [Act.put, List.setIfInBounds_toArray, List.set_cons_zero, List.set_cons_succ]
              clear hB9 hb9
              refine wpAnyH_ready (rs := [12]) (by kernel_rfl) (by simp) ?_
              refine AllReadyH.cons (o := { dst := some 236, op := Op.call { callee := Callee.value (Operand.func 21), args := #[Operand.tmp 228, Operand.tmp 235], argTypes := #[49, 49] }, type := 4, pos := _, after := #[{ on := 4, ground := Ground.data }, { on := 11, ground := Ground.data }, { on := 4, ground := Ground.chain }, { on := 2, ground := Ground.guard }], guard := some (2, false) }) rfl (fun K hK => ?_) AllReadyH.nil
              go_simp
              refine (same_refl (getN s q) (.slice av (getN s q).ns.length cv) (.slice bv (getN s q).bs.length cw) (.slice av2 (getN s q).ns.length cv2) (.slice bv2 (getN s q).bs.length cw2) _ (HI1.out.below HB9.out) (HI2.out.below HB9.out) HLM.out).mono ?_
              rintro e w10 ⟨rfl, hb10⟩
              have hB10 : Below w8.heap.size w8 w10 := HB9.out.trans (hb10.mono HB9.out.size)
              have HB10 := Lib.hid hB10
              go_wp2_with fail
              refine hK.out _ _ hB10 (fun hHeld => ?_)
              clear hK K
              try simp only [Act.put, List.setIfInBounds_toArray, List.set_cons_zero, List.set_cons_succ]
              clear hB10 hb10
              refine wpAnyH_ready (rs := [13]) (by kernel_rfl) (by simp) ?_
              refine AllReadyH.cons (o := { dst := some 237, op := Op.unOp UnOp.not 4 (Operand.tmp 236), type := 4, pos := _, after := #[{ on := 12, ground := Ground.data }, { on := 2, ground := Ground.guard }], guard := some (2, false) }) rfl (fun K hK => ?_) AllReadyH.nil
              go_simp
              refine hK.out _ _ hHeld (fun hHeld => ?_)
              clear hK K
              try simp only [Act.put, List.setIfInBounds_toArray, List.set_cons_zero, List.set_cons_succ]
              refine wpAnyH_ready (rs := [14]) (by kernel_rfl) (by simp) ?_
              refine AllReadyH.cons (o := { dst := some 238, op := Op.pick (Operand.tmp 226) (Operand.const (Value.bool true)) (Operand.tmp 237), type := 4, pos := _, after := #[{ on := 2, ground := Ground.data }, { on := 13, ground := Ground.data }], guard := none }) rfl (fun K hK => ?_) AllReadyH.nil
              go_simp
              refine hK.out _ _ hHeld (fun hHeld => ?_)
              clear hK K
              try simp only [Act.put, List.setIfInBounds_toArray, List.set_cons_zero, List.set_cons_succ]
              refine wpAnyH_done (by kernel_rfl) ?_ _
              go_wp2_with fail
              go_roundw
              case rel => exact ⟨q + 1, by have := HQL.out; omega, by go_num, HT8.out.later HB10.out⟩
              case measure => simp [intOf]; have := HQL.out; omega
            · obtain rfl : q = s.l.length := by omega
              go_wp2_with fail
              go_roundw
              case rel => exact ⟨k + 1, by omega, by go_num, ⟨s, es, HTQ.out, HF1.out⟩⟩
              case measure => simp [intOf]; omega
    · obtain rfl : k = n := by omega
      have hbl := HTW.out.below
      have HBL := Lib.hid hbl
      clear hbl
      go_wp2_with fail
      go_ret
      exact ⟨rfl, HBL.out⟩
end Go.Proofs.Ytmehgkbhpfcmpaa.G
