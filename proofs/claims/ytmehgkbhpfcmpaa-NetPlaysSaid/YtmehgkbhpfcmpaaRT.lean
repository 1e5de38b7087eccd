/-
  A message is taken from the document's net.
-/
import Derived.Test.YtmehgkbhpfcmpaaRA
namespace Go.Proofs.Ytmehgkbhpfcmpaa.G
open Go.RowKit Go.Proofs.Ytmehgkbhpfcmpaa
theorem results_row49 {fn : Func} {p u : Tmp} (h : fn.results = #[.cell p 49, .tmp u]) (tmps : Array Value) (w : World) (g : Nat) (cs : Array Value) (x : Value)
    (hp : tmps.getD p undef = .pointer (some ⟨g, 0, none⟩)) (hx : tmps.getD u undef = x) (hg : w.heap[g]? = some (.cells cs 49 (0, 0))) (hn : cs.size = 5) :
    (results fn tmps).run Try.prog w = .ok (.tuple #[.agg cs, x]) w := by
  have hl := run_loadVar_row (P := Try.prog) w g 49 49 cs (0, 0) _ hg Try.underlying49 rfl (by rw [hn]; exact size49)
  rw [results_cell_tmp h, hp, hx]
  simp [asAddr, hl, Result.andThen]
section
variable {w : World} {base d : Nat} {s : Nt} {es : List ((Int × Int) × Bool)}
theorem IsDoc.below {w' : World} (h : IsDoc w base d s es) (hb : Below w.heap.size w w') : IsDoc w' base d s es := by
  obtain ⟨⟨cs, v, ps, h1, h2, h3, h4, h5, h6, h7, h8⟩, h9⟩ := h
  exact ⟨⟨cs, v, ps, heap_below hb (lt_of_heap h1) h1, h2, h3, h4, h5, h6, rows_below h7 hb, h8.only (Only.ofBelow hb []) (fun j hj => by cases hj)⟩, h9⟩
set_option maxHeartbeats 1000000 in
theorem take_doc_none (h : IsDoc w base d s es) (x : Int) (hx : hasN s x = false) :
    Calls Try.prog 20 #[.pointer (some ⟨d, 0, none⟩), .int .i64 x] w fun e w' => e = .returned (.tuple #[aggM m0 (.slice none 0 0) (.slice none 0 0), .bool false]) ∧ Below w.heap.size w w' := by
  obtain ⟨⟨cs, v, ps, h1, _, _, _, h5, _, h7, _⟩, _⟩ := h
  have hc2 : (w.alloc (.cells #[.int .i64 0, .int .i64 0, .int .i64 0, .slice none 0 0, .slice none 0 0] 49)).cell? ⟨d, 2, none⟩ = some v := by rw [cell_heap (heap_old h1 _)]; exact h5
  obtain ⟨ao, cap, rfl, _, _⟩ := row_shape49 h7
  have HN := Lib.hid (heap_new w (.cells #[.int .i64 0, .int .i64 0, .int .i64 0, .slice none 0 0, .slice none 0 0] 49))
  clear h1 h5 h7
  unfold hasN at hx
  simp only [aggM, cellsM, m0]
  generalize s.l.length = n at *
  by_cases hlt : x < 0
  · clear hx
    go_enter Try.func20, Try.ntmps20
    go_wp2_with fail
    (try simp only [Exit.inBlock, Exit.then])
    exact bodyPost_ret (results_row49 (fn := Try.f20) rfl _ _ w.heap.size _ _ rfl rfl HN.out rfl) rfl ⟨rfl, (Below.refl _ _).alloc (Nat.le_refl _) _⟩
  · have hge : (n : Int) ≤ x := by
      rw [decide_eq_true (show 0 ≤ x by omega), Bool.true_and] at hx
      have := of_decide_eq_false hx
      omega
    clear hx
    go_enter Try.func20, Try.ntmps20
    go_wp2_with fail
    (try simp only [Exit.inBlock, Exit.then])
    exact bodyPost_ret (results_row49 (fn := Try.f20) rfl _ _ w.heap.size _ _ rfl rfl HN.out rfl) rfl ⟨rfl, (Below.refl _ _).alloc (Nat.le_refl _) _⟩
theorem row_cell49 {base n : Nat} {v : Value} {l : List Mv} (h : w.ownsRow base 49 5 v n (row5 l)) (hl : 0 < n) :
    ∃ g cap, v = .slice (some ⟨g, 0, none⟩) n cap ∧ base ≤ g ∧ g < w.heap.size ∧ n ≤ cap ∧ cap ≤ 9223372036854775807 ∧ l.length = n ∧
      ∀ i j, i < n → j < 5 → w.cell? ⟨g, i * 5 + j, none⟩ = (cells5 (l.getD i mv0))[j]? := by
  have h' := h
  have hle : l.length = n := by have := h.1; rw [row5_len] at this; omega
  rcases h.2 with ⟨_, h0⟩ | ⟨g, cap, cur, rfl, hb, hh, hn, hm, hs, ht⟩
  · omega
  · unfold maxLen at hm
    refine ⟨g, cap, rfl, hb, (Array.getElem?_eq_some_iff.1 hh).1, hn, by omega, hle, fun i j hi hj => ?_⟩
    rw [World.ownsRow.cellAt h' (i * 5 + j) (by omega), row5_at l i j (by omega) hj]
theorem below_size1 {B : Nat} {w X : World} (h : Below B w X) : w.heap.size ≤ X.heap.size := h.size
theorem mkR1 (w : World) (B : Nat) (hB : B ≤ w.heap.size) : (w.alloc (.cells #[] 49)).drew.ownsRow B 49 5 (.slice (some ⟨w.heap.size, 0, none⟩) 0 0) 0 (row5 []) ∧ Below B w (w.alloc (.cells #[] 49)).drew :=
  ⟨rows_heap (own_newR w B hB _ rfl) rfl, below_drew ((Below.refl _ _).alloc hB _) 1⟩
set_option maxHeartbeats 8000000 in
theorem take_doc (h : IsDoc w base d s es) (k : Nat) (hk : k < s.l.length) (hl : s.l.length ≤ 1000000) (hbs : base ≤ w.heap.size) :
    Calls Try.prog 20 #[.pointer (some ⟨d, 0, none⟩), .int .i64 (k : Int)] w fun e w' => ∃ v u, e = .returned (.tuple #[aggM (getN s k) v u, .bool true]) ∧ OwnM w' base (getN s k) v u ∧ IsDoc w' base d (loseN s k) es ∧ Only [d] w w' := by
  have HD := Lib.hid h
  obtain ⟨⟨cs, v, ps, h1, h2, h3, h4, h5, h6, h7, h8⟩, h9⟩ := h
  obtain ⟨g, cap, rfl, hg1, hg2, hc1, hc2, hpl, hcell⟩ := row_cell49 h7 (by omega)
  have hx : (ps.getD k mv0).m = getN s k := by
    unfold getN
    rw [← h8.ms]
    have hkp : k < ps.length := by omega
    simp [List.getD, hkp]
  have hxo := h8.own (ps.getD k mv0) (by
    have hkp : k < ps.length := by omega
    simp only [List.getD, List.getElem?_eq_getElem hkp, Option.getD_some]
    exact List.getElem_mem _)
  have hxe := h8.one (ps.getD k mv0) (by
    have hkp : k < ps.length := by omega
    simp only [List.getD, List.getElem?_eq_getElem hkp, Option.getD_some]
    exact List.getElem_mem _)
  rw [hx] at hxo
  obtain ⟨av, cv, hve, _⟩ := hxo.ns.isI
  obtain ⟨bv, cw, hue, _⟩ := hxo.bs.shape
  have e0 := hcell k 0 hk (by omega)
  have e1 := hcell k 1 hk (by omega)
  have e2 := hcell k 2 hk (by omega)
  have e3 := hcell k 3 hk (by omega)
  have e4 := hcell k 4 hk (by omega)
  simp only [cells5, hve, hue, hx] at e0 e1 e2 e3 e4
  have hal : ∀ p u, w.cell? p = some u → (w.alloc (.cells #[.int .i64 0, .int .i64 0, .int .i64 0, .slice none 0 0, .slice none 0 0] 49)).cell? p = some u := fun p u hp => cell_later ((Below.refl _ _).alloc (Nat.le_refl _) _) hp
  have y0 := hal ⟨g, k * 5, none⟩ _ e0
  have y1 := hal _ _ e1
  have y2 := hal _ _ e2
  have y3 := hal _ _ e3
  have y4 := hal _ _ e4
  have yd := hal ⟨d, 2, none⟩ _ ((cell_heap h1 2).trans h5)
  have H1 := Lib.hid h1
  have H := Lib.hid (And.intro h2 (And.intro h3 (And.intro h4 (And.intro h5 (And.intro h6 (And.intro h7 h8))))))
  have HX := Lib.hid hxo
  rw [hve, hue] at HX
  have HPL := Lib.hid hpl
  clear hal e0 e1 e2 e3 e4 h1 h2 h3 h4 h5 h6 h7 h8 hcell hxo hve hue hxe hx hpl
  have hfn := HD.out
  clear hfn
  have HGN : Hid (loseN s k = { s with l := s.l.eraseIdx k }) := Lib.hid rfl
  generalize hmg : getN s k = mg at *
  have HMG := Lib.hid hmg
  clear hmg
  cases mg with
  | mk mf mt mk ns bs =>
  simp only [aggM, cellsM] at *
  generalize hnn : s.l.length = n at *
  have HNN := Lib.hid hnn
  clear hnn
  have hkn : (k : Int) < (n : Int) := by omega
  have hk0 : ¬ (k : Int) < 0 := by omega
  have hge : decide ((n : Int) ≤ (k : Int)) = false := decide_eq_false (by omega)
  go_enter Try.func20, Try.ntmps20
  go_upto_region 4 with (fail)
  have hbW : Below w.heap.size w ((w.alloc (.cells #[.int .i64 0, .int .i64 0, .int .i64 0, .slice none 0 0, .slice none 0 0] 49)).alloc (.cells #[.int .i64 mf, .int .i64 mt, .int .i64 mk, .slice av ns.length cv, .slice bv bs.length cw] 49)) := ((Below.refl _ _).alloc (Nat.le_refl _) _).alloc (by simp) _
  have hZ := heap_old (heap_new w (.cells #[.int .i64 0, .int .i64 0, .int .i64 0, .slice none 0 0, .slice none 0 0] 49)) (.cells #[.int .i64 mf, .int .i64 mt, .int .i64 mk, .slice av ns.length cv, .slice bv bs.length cw] 49)
  have hM := heap_new (w.alloc (.cells #[.int .i64 0, .int .i64 0, .int .i64 0, .slice none 0 0, .slice none 0 0] 49)) (.cells #[.int .i64 mf, .int .i64 mt, .int .i64 mk, .slice av ns.length cv, .slice bv bs.length cw] 49)
  rw [show (w.alloc (.cells #[.int .i64 0, .int .i64 0, .int .i64 0, .slice none 0 0, .slice none 0 0] 49)).heap.size = w.heap.size + 1 by simp] at hM
  have hsz : (((w.alloc (.cells #[.int .i64 0, .int .i64 0, .int .i64 0, .slice none 0 0, .slice none 0 0] 49)).alloc (.cells #[.int .i64 mf, .int .i64 mt, .int .i64 mk, .slice av ns.length cv, .slice bv bs.length cw] 49))).heap.size = w.heap.size + 2 := by simp
  generalize ((w.alloc (.cells #[.int .i64 0, .int .i64 0, .int .i64 0, .slice none 0 0, .slice none 0 0] 49)).alloc (.cells #[.int .i64 mf, .int .i64 mt, .int .i64 mk, .slice av ns.length cv, .slice bv bs.length cw] 49)) = W at *
  clear y0 y1 y2 y3 y4 yd
  have HBW := Lib.hid hbW; have HZ := Lib.hid hZ; have HM := Lib.hid hM; have HSZ := Lib.hid hsz
  have K1 := Lib.hid (heap_below hbW (lt_of_heap H1.out) H1.out)
  have hdl := lt_of_heap H1.out
  have HOW := Lib.hid (rows_below H.out.2.2.2.2.2.1 hbW)
  have yd : W.cell? ⟨d, 2, none⟩ = some (.slice (some ⟨g, 0, none⟩) n cap) := by rw [cell_heap K1.out]; exact H.out.2.2.2.1
  have yf : W.frozen? ⟨d, 2, none⟩ = false := free_heap K1.out 2
  have HIR : Hid (∀ u, Below W.heap.size W u → IsR u (some ⟨g, 0, none⟩) n cap ps) := Lib.hid (fun u hb => (isR_own HOW.out).below hb)
  have HON : Hid (Ones ps) := Lib.hid H.out.2.2.2.2.2.2.one
  obtain ⟨q, hq, hdr⟩ : ∃ q, (if cap = k + 1 then (some ⟨g, 0, none⟩ : Option Addr) else some ⟨g, (k + 1) * 5, none⟩) = some q ∧ Hid (∀ u, Below W.heap.size W u → IsR u (some q) (n - (k + 1)) (cap - (k + 1)) (ps.drop (k + 1))) := by
    by_cases hck : cap = k + 1
    · refine ⟨⟨g, 0, none⟩, by rw [if_pos hck], Lib.hid fun u hu => ?_⟩
      obtain ⟨o2, ho, hr⟩ := isR_drop (HIR.out u hu) (k := k + 1) (by omega) hc1
      rw [if_pos hck] at ho
      rw [ho]; exact hr
    · refine ⟨⟨g, (k + 1) * 5, none⟩, by rw [if_neg hck], Lib.hid fun u hu => ?_⟩
      obtain ⟨o2, ho, hr⟩ := isR_drop (HIR.out u hu) (k := k + 1) (by omega) hc1
      rw [if_neg hck, Nat.zero_add] at ho
      rw [ho]; exact hr
  clear hbW hZ hM hsz
  have yc : ∀ o : Obj, (W.alloc o).cell? ⟨d, 2, none⟩ = some (.slice (some ⟨g, 0, none⟩) n cap) := fun o => cell_later ((Below.refl _ _).alloc (Nat.le_refl _) o) yd
  have hkc : k ≤ cap := by omega
  have g1 : k + 1 ≤ n := by omega
  have q1 : IntKind.i64.wrap ((k : Int) + 1) = ((k + 1 : Nat) : Int) := IntWalk.i64_in _ (by omega)
  have g3 : 0 ≤ (k : Int) + 1 ∧ (k : Int) + 1 ≤ (n : Int) := by omega
  have g4 : (0 ≤ (k : Int) + 1) = True := eq_true (by omega)
  have g5 : ((k : Int) + 1 ≤ (n : Int)) = True := eq_true (by omega)
  go_cut [] (fun wx => ∃ na nn w13, wx = w13.setCell ⟨d, 2, none⟩ (.slice na (n - 1) nn) ∧ w13.ownsRow W.heap.size 49 5 (.slice na (n - 1) nn) (n - 1) (row5 (ps.take k ++ ps.drop (k + 1))) ∧ Below W.heap.size W w13)
  case first =>
    go_region_law (first
      | (refine step_append_row (by rfl) (.tmp 27) (.tmp 33) (by rfl) W.heap.size (.slice (some ⟨W.heap.size, 0, none⟩) 0 0) [] 0 k (by rfl) ?_ _ _ _ (ps.take k) (by rfl) ?_ ?_ (by omega) (by omega) ?_ ?_; (with_reducible exact (mkR1 W W.heap.size (Nat.le_refl _)).1); (refine isR_take (HIR.out _ ?_) (Nat.le_of_lt hk)); (with_reducible exact (mkR1 W W.heap.size (Nat.le_refl _)).2); (exact fun x hx => HON.out x (List.mem_of_mem_take hx)); (refine (below_size1 (B := W.heap.size) (w := W) ?_)); (with_reducible exact (mkR1 W W.heap.size (Nat.le_refl _)).2); intro a5 c5 w5 ho5 hb5 hg5; have hB5 : Below W.heap.size W w5 := (mkR1 W W.heap.size (Nat.le_refl _)).2.trans hb5; have HO5 := Lib.hid ho5; have hc5 : w5.cell? ⟨d, 2, none⟩ = some (.slice (some ⟨g, 0, none⟩) n cap) := cell_later hB5 yd; have f5 : w5.frozen? ⟨d, 2, none⟩ = false := free_heap (heap_below hB5 (lt_of_heap K1.out) K1.out) 2; clear ho5 hb5 hg5; rw [List.nil_append] at HO5)
      | (refine step_append_row (by rfl) (.tmp 34) (.tmp 41) (by rfl) W.heap.size (.slice a5 k c5) (ps.take k) k (n - 1) (by rfl) ?_ _ _ _ (ps.drop (k + 1)) (by rfl) ?_ ?_ (by omega) (by omega) ?_ ?_; (exact HO5.out); (exact hdr.out _ hB5); (exact fun x hx => HON.out x (List.mem_of_mem_drop hx)); (exact hB5.size); intro a13 c13 w13 ho13 hb13 hg13; have hB13 : Below W.heap.size W w13 := hB5.trans hb13; have HO13 := Lib.hid ho13; have hc13 : w13.cell? ⟨d, 2, none⟩ = some (.slice (some ⟨g, 0, none⟩) n cap) := cell_later hB13 yd; have f13 : w13.frozen? ⟨d, 2, none⟩ = false := free_heap (heap_below hB13 (lt_of_heap K1.out) K1.out) 2; clear ho13 hb13 hg13)
      | fail)
    all_goals
      go_wp2_with fail
      go_meet
      exact ⟨a13, c13, w13, rfl, HO13.out, hB13⟩
  case rest =>
    obtain ⟨na, nn, w13, rfl, ho13, hb13⟩ := hcut
    have ow : Only [d] w13 (w13.setCell ⟨d, 2, none⟩ (.slice na (n - 1) nn)) := (Only.refl _ _).setCell (by simp) _
    have k13 := heap_below hb13 (lt_of_heap K1.out) K1.out
    have HK14 := Lib.hid (heap_set k13 2 (.slice na (n - 1) nn))
    have hdx : w.heap.size ≠ d := by omega
    have hdx1 : w.heap.size + 1 ≠ d := by omega
    have HZ14 := Lib.hid (ow.keeps (heap_below hb13 (lt_of_heap HZ.out) HZ.out) (by simpa using hdx))
    have HM14 := Lib.hid (ow.keeps (heap_below hb13 (lt_of_heap HM.out) HM.out) (by simpa using hdx1))
    have HO13 := Lib.hid ho13
    have HR14 := Lib.hid (rows_types ho13 ow (fun j hj cur => by rw [List.mem_singleton.1 hj, k13]; simp))
    have hnr : NoRow w13 [d] := by
      intro j hj cur
      rw [List.mem_singleton.1 hj, k13]; simp
    have HH14 := Lib.hid ((H.out.2.2.2.2.2.2.only (Only.ofBelow (HBW.out.trans (hb13.mono (by have := HSZ.out; omega))) []) (fun j hj => by cases hj)).only ow hnr)
    have HX14 := Lib.hid ((HX.out.below (HBW.out.trans (hb13.mono (by have := HSZ.out; omega)))).only ow hnr)
    have HO14 : Hid (Only [d] w (w13.setCell ⟨d, 2, none⟩ (.slice na (n - 1) nn))) := Lib.hid ((Only.ofBelow (HBW.out.trans (hb13.mono (by have := HSZ.out; omega))) [d]).trans ow)
    have HS14 : Hid (w.heap.size + 2 ≤ (w13.setCell ⟨d, 2, none⟩ (.slice na (n - 1) nn)).heap.size) := Lib.hid (by have := ow.size; have := hb13.size; have := HSZ.out; omega)
    clear ho13 k13 hnr ow yc yd yf g1 q1 g3 g4 g5 hq hdr hb13
    go_upto_region 5 with (fail)
    generalize (w13.setCell ⟨d, 2, none⟩ (.slice na (n - 1) nn)) = w14 at *
    go_wp2_with (first
      | (refine wpList_load_row rfl 49 (.tmp 6) rfl (w.heap.size + 1) rfl 49 #[.int .i64 mf, .int .i64 mt, .int .i64 mk, .slice av ns.length cv, .slice bv bs.length cw] (0, 0) _ HM14.out Try.underlying49 rfl size49 ?_)
      | (refine wpList_store_row rfl 49 (.tmp 4) (.tmp 45) rfl w.heap.size #[.int .i64 mf, .int .i64 mt, .int .i64 mk, .slice av ns.length cv, .slice bv bs.length cw] rfl rfl 49 _ HZ14.out size49 rfl (five_ones _ _ _ _ _ _ _ _ _) ?_))
    have HHP := Lib.hid (setRow_heap _ w.heap.size _ #[.int .i64 mf, .int .i64 mt, .int .i64 mk, .slice av ns.length cv, .slice bv bs.length cw] 49 (0, 0) HZ14.out)
    have hon : Only [w.heap.size] w14 (w14.setRow w.heap.size #[.int .i64 mf, .int .i64 mt, .int .i64 mk, .slice av ns.length cv, .slice bv bs.length cw]) := ⟨rfl, rfl, rfl, by simp, fun k _ hk => setRow_other _ _ _ _ (by simpa using hk)⟩
    (try simp only [Exit.inBlock, Exit.then])
    refine bodyPost_ret (results_row49 (fn := Try.f20) rfl _ _ w.heap.size _ _ rfl rfl HHP.out rfl) rfl ?_
    obtain ⟨k2, k3, k4, k5, k6, k7, k8⟩ := H.out
    have hnr : NoRow w14 [w.heap.size] := by
      intro j hj cur
      rw [List.mem_singleton.1 hj, HZ14.out]; simp
    have hle : (s.l.eraseIdx k).length = n - 1 := by rw [List.length_eraseIdx_of_lt (by rw [HNN.out]; exact hk), HNN.out]
    have hlos : loseN s k = { s with l := s.l.eraseIdx k } := rfl
    rw [hlos]
    refine ⟨_, _, rfl, HX14.out.only hon hnr, ⟨⟨_, .slice na (n - 1) nn, ps.take k ++ ps.drop (k + 1), hon.keeps HK14.out (by simpa using fun e => hdx e.symm), by simpa using k2, ?_, ?_, ?_, fun x y hx hy => ?_, ?_, ?_⟩, h9⟩, ?_⟩
    · rw [Array.getElem?_setIfInBounds_ne (by omega)]; exact k3
    · rw [Array.getElem?_setIfInBounds_ne (by omega)]; exact k4
    · rw [Array.getElem?_setIfInBounds_self_of_lt (by omega)]
    · rw [Array.getElem?_setIfInBounds_ne (by omega)]; exact k6 x y hx hy
    · show World.ownsRow _ base 49 5 _ (s.l.eraseIdx k).length _
      rw [hle]
      have hr := rows_mono HR14.out (show base ≤ W.heap.size by have := HSZ.out; omega)
      refine rows_only hr hon (fun j hj hm => ?_)
      have := List.mem_singleton.1 hm
      have h3 := (rows_block HR14.out hj).1
      have := HSZ.out
      omega
    · have hh := HH14.out.only hon hnr
      have hsub : ∀ x ∈ ps.take k ++ ps.drop (k + 1), x ∈ ps := by
        intro x hx
        rcases List.mem_append.1 hx with hx | hx
        · exact List.mem_of_mem_take hx
        · exact List.mem_of_mem_drop hx
      refine ⟨?_, fun x hx => hh.own x (hsub x hx), fun x hx => hh.one x (hsub x hx)⟩
      show (ps.take k ++ ps.drop (k + 1)).map Mv.m = s.l.eraseIdx k
      rw [List.eraseIdx_eq_take_drop_succ, ← hh.ms, List.map_append, List.map_take, List.map_drop]
    · exact ⟨hon.os.trans HO14.out.os, hon.tape.trans HO14.out.tape, hon.output.trans HO14.out.output, Nat.le_trans HO14.out.size hon.size, fun j hj hjs => (hon.block j (Nat.lt_of_lt_of_le hj HO14.out.size) (by simp; omega)).trans (HO14.out.block j hj hjs)⟩
end
end Go.Proofs.Ytmehgkbhpfcmpaa.G
