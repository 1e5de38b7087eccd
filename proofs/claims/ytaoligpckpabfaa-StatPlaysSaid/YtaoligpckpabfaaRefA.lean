/-
  The document's Add. No condition.
-/
import Derived.Test.YtaoligpckpabfaaRefW
namespace Go.Proofs.Ytaoligpckpabfaa
open Go.RowKit
set_option maxHeartbeats 16000000 in
set_option maxRecDepth 100000 in
theorem radd_any (x : Nd) (ao : Option Addr) (n c : Nat) (s : ByteArray) (w : World) (hw : WfN x) (h : IsS w ao n c x.names) (hnc : n ≤ c) (hn : n ≤ 50000) (hr : Ris x.names) :
    Calls Try.prog 18 #[aggN x (.slice ao n c), .string s] w fun e w' => ∃ ao' c', e = .returned (.tuple #[aggN (addZ x s) (.slice ao' (addZ x s).names.length c'), .bool (!hereS x.names s)]) ∧ IsS w' ao' (addZ x s).names.length c' (addZ x s).names ∧ (addZ x s).names.length ≤ c' ∧ (∀ p, ao' = some p → (ao' = ao ∧ (addZ x s).names.length = n) ∨ w.heap.size ≤ p.block) ∧ Below w.heap.size w w' := by
  have HPL := Lib.hid (fun (u : World) (hb : Below w.heap.size w u) => place_any ao n c x.names s u (h.below hb) (by omega))
  rw [thereS_eq hr] at HPL
  have HIS := Lib.hid (fun (u : World) (hb : Below w.heap.size w u) => h.below hb)
  have HNL := Lib.hid h.len
  have HNC := hnc
  unfold addZ
  generalize hhh : hereS x.names s = hh at *
  have hpk := placeS_le x.names s
  have HRR := Lib.hid hr
  have hk := hw.kids
  have hx := hw.next
  obtain ⟨hk1, hk2⟩ := hk
  obtain ⟨hx1, hx2⟩ := hx
  have HHS := Lib.hid hhh
  have HSE := Lib.hid (seekS_eq hr s)
  rw [h.len] at hpk
  clear h hr hw hhh
  cases x with
  | mk xa xb xc xg xh xi xj xd xe xn =>
  simp only at *
  generalize hq : placeS xn s = k at *
  have HK := Lib.hid hq; clear hq
  simp only [aggN, cellsN]
  cases hh with
  | true =>
    simp only [if_true]
    go_enter Try.func18, Try.ntmps18
    go_upto_region 1 with (fail)
    have hd := dw_start w #[.int .i64 xa, .int .i64 xb, .int .i64 xc, .int .i64 xg, .int .i64 xh, .int .i64 xi, .int .i64 xj, .string xd, .int .i64 xe, .slice ao n c]
    have hwz : w.heap.size + 2 ≤ ((w.alloc (.cells #[.int .i64 xa, .int .i64 xb, .int .i64 xc, .int .i64 xg, .int .i64 xh, .int .i64 xi, .int .i64 xj, .string xd, .int .i64 xe, .slice ao n c] 36)).alloc (.cells #[.int .i64 0, .int .i64 0, .int .i64 0, .int .i64 0, .int .i64 0, .int .i64 0, .int .i64 0, .string ⟨#[]⟩, .int .i64 0, .slice none 0 0] 36)).heap.size := by simp
    generalize World.alloc (World.alloc w _) _ = w0 at *
    have HD := Lib.hid hd; clear hd
    have c9 : w0.cell? ⟨w.heap.size, 9, none⟩ = some (.slice ao n c) := HD.out.cell 9
    go_wp2_with fail
    refine (HPL.out _ HD.out.bl).mono ?_
    rintro e w1 ⟨rfl, d, rfl⟩
    have HD1 := Lib.hid (HD.out.later (below_drew (Below.refl _ _) d))
    have hwz1 : w.heap.size + 2 ≤ (w0.drewN d).heap.size := Nat.le_trans hwz (below_drew (Below.refl w0.heap.size w0) d).size
    generalize w0.drewN d = w1 at *
    clear c9 hwz HPL HD
    go_wp2_with (first
      | (refine wpList_load_row rfl 36 (.tmp 2) rfl w.heap.size rfl 36 #[.int .i64 xa, .int .i64 xb, .int .i64 xc, .int .i64 xg, .int .i64 xh, .int .i64 xi, .int .i64 xj, .string xd, .int .i64 xe, .slice ao n c] (0, 0) _ HD1.out.box Try.underlying36 rfl size36 ?_)
      | (refine wpList_store_row rfl 36 (.tmp 4) (.tmp 16) rfl (w.heap.size + 1) #[.int .i64 xa, .int .i64 xb, .int .i64 xc, .int .i64 xg, .int .i64 xh, .int .i64 xi, .int .i64 xj, .string xd, .int .i64 xe, .slice ao n c] rfl rfl 36 _ HD1.out.res size36 rfl (cellsN_ones ⟨xa, xb, xc, xg, xh, xi, xj, xd, xe, []⟩ ao n c) ?_))
    have HHP := Lib.hid (setRow_heap _ (w.heap.size + 1) _ #[.int .i64 xa, .int .i64 xb, .int .i64 xc, .int .i64 xg, .int .i64 xh, .int .i64 xi, .int .i64 xj, .string xd, .int .i64 xe, .slice ao n c] 36 (0, 0) HD1.out.res)
    (try simp only [Exit.inBlock, Exit.then])
    refine bodyPost_ret (results_row2 (fn := Try.f18) rfl _ _ (w.heap.size + 1) #[.int .i64 xa, .int .i64 xb, .int .i64 xc, .int .i64 xg, .int .i64 xh, .int .i64 xi, .int .i64 xj, .string xd, .int .i64 xe, .slice ao n c] (.bool false) rfl rfl HHP.out rfl) rfl ?_
    refine ⟨ao, c, by rw [HNL.out]; try rfl, by rw [HNL.out]; exact HIS.out _ (HD1.out.last _), by rw [HNL.out]; exact hnc, fun p hp => .inl ⟨rfl, HNL.out⟩, HD1.out.last _⟩
  | false =>
    simp only [Bool.false_eq_true, if_false]
    go_enter Try.func18, Try.ntmps18
    go_upto_region 1 with (fail)
    have hd := dw_start w #[.int .i64 xa, .int .i64 xb, .int .i64 xc, .int .i64 xg, .int .i64 xh, .int .i64 xi, .int .i64 xj, .string xd, .int .i64 xe, .slice ao n c]
    have hwz : w.heap.size + 2 ≤ ((w.alloc (.cells #[.int .i64 xa, .int .i64 xb, .int .i64 xc, .int .i64 xg, .int .i64 xh, .int .i64 xi, .int .i64 xj, .string xd, .int .i64 xe, .slice ao n c] 36)).alloc (.cells #[.int .i64 0, .int .i64 0, .int .i64 0, .int .i64 0, .int .i64 0, .int .i64 0, .int .i64 0, .string ⟨#[]⟩, .int .i64 0, .slice none 0 0] 36)).heap.size := by simp
    generalize World.alloc (World.alloc w _) _ = w0 at *
    have HD := Lib.hid hd; clear hd
    have c9 : w0.cell? ⟨w.heap.size, 9, none⟩ = some (.slice ao n c) := HD.out.cell 9
    go_wp2_with fail
    refine (HPL.out _ HD.out.bl).mono ?_
    rintro e w1 ⟨rfl, d, rfl⟩
    have HD1 := Lib.hid (HD.out.later (below_drew (Below.refl _ _) d))
    have hwz1 : w.heap.size + 2 ≤ (w0.drewN d).heap.size := Nat.le_trans hwz (below_drew (Below.refl w0.heap.size w0) d).size
    generalize w0.drewN d = w1 at *
    clear c9 hwz HPL HD
    have HS1 := Lib.hid (fun (u : World) (hb : Below (w.heap.size + 2) w1 u) => HIS.out u (HD1.out.bl.trans (hb.mono (by omega))))
    have hc0 : w1.cell? ⟨w.heap.size, 9, none⟩ = some (.slice ao n c) := HD1.out.cell 9
    have hf0 := HD1.out.free 9
    have hx1' : ∀ o : Obj, (w1.alloc o).cell? ⟨w.heap.size, 9, none⟩ = some (.slice ao n c) := fun o => cell_later9 HD1.out ((Below.refl _ _).alloc hwz1 o)
    have hx2' : ∀ o o' : Obj, ((w1.alloc o).alloc o').cell? ⟨w.heap.size, 9, none⟩ = some (.slice ao n c) := fun o o' => cell_later9 HD1.out (((Below.refl _ _).alloc hwz1 o).alloc (Nat.le_trans hwz1 (((Below.refl (w.heap.size + 2) w1).alloc hwz1 o).size)) o')
    have hkc : k ≤ c := by omega
    cases ao with
    | none =>
      obtain ⟨rfl, rfl⟩ : n = 0 ∧ c = 0 := (HIS.out w (Below.refl _ _)).nil rfl
      obtain rfl : k = 0 := by omega
      obtain rfl : xn = [] := List.length_eq_zero_iff.1 HNL.out
      have hdr : Hid (∀ u, Below (w.heap.size + 2) w1 u → IsS u none 0 0 []) := Lib.hid fun u _ => isS_nil u
      go_wp2_with fail
      go_cut [] (fun wx => ∃ na nn w13, wx = w13.setCell ⟨w.heap.size, 9, none⟩ (.slice na 1 nn) ∧ OwnS w13 (w.heap.size + 2) 9 (.slice na 1 nn) (insS ([] : List ByteArray) 0 s) ∧ Below (w.heap.size + 2) w1 w13)
      case first =>
        go_region_law (first
          | (refine step_append_texts (by rfl) (.tmp 22) (.tmp 24) (by rfl) (w.heap.size + 2) (.slice (some ⟨w1.heap.size, 0, none⟩) 0 0) [] 1 (by rfl) ?_ _ _ _ [s] (by rfl) ?_ (by simp) (by omega) ?_ ?_; (with_reducible exact (mk2d w1 (w.heap.size + 2) hwz1 s).1); (refine isS_one ?_ _); (with_reducible exact (mk2d w1 (w.heap.size + 2) hwz1 s).2.2); (refine Nat.le_trans hwz1 (below_size (B := (w.heap.size + 2)) (w := w1) ?_)); (with_reducible exact (mk2d w1 (w.heap.size + 2) hwz1 s).2.1); intro a8 c8 w8 ho8 hb8 hg8; have hB8 : Below (w.heap.size + 2) w1 w8 := (below_trans (mk2d w1 (w.heap.size + 2) hwz1 s).2.1 hb8); have HO8 := Lib.hid ho8; have hc8 : w8.cell? ⟨w.heap.size, 9, none⟩ = some (.slice none 0 0) := cell_later9 HD1.out hB8; have f8 := free9 HD1.out hB8; clear ho8 hb8 hg8)
          | (refine step_append_texts (by rfl) (.tmp 22) (.tmp 24) (by rfl) (w.heap.size + 2) (.slice (some ⟨w1.heap.size + 1, 0, none⟩) 0 0) [] 1 (by rfl) ?_ _ _ _ [s] (by rfl) ?_ (by simp) (by omega) ?_ ?_; (with_reducible exact (mk3d w1 (w.heap.size + 2) hwz1 s).1); (refine isS_one ?_ _); (with_reducible exact (mk3d w1 (w.heap.size + 2) hwz1 s).2.2); (refine Nat.le_trans hwz1 (below_size (B := (w.heap.size + 2)) (w := w1) ?_)); (with_reducible exact (mk3d w1 (w.heap.size + 2) hwz1 s).2.1); intro a8 c8 w8 ho8 hb8 hg8; have hB8 : Below (w.heap.size + 2) w1 w8 := (below_trans (mk3d w1 (w.heap.size + 2) hwz1 s).2.1 hb8); have HO8 := Lib.hid ho8; have hc8 : w8.cell? ⟨w.heap.size, 9, none⟩ = some (.slice none 0 0) := cell_later9 HD1.out hB8; have f8 := free9 HD1.out hB8; clear ho8 hb8 hg8)
          | (refine step_append_texts (by rfl) (.tmp 25) (.tmp 29) (by rfl) (w.heap.size + 2) (.slice a8 1 c8) ([] ++ [s]) 1 (by rfl) ?_ _ _ _ [] (by rfl) ?_ (by simp) (by omega) ?_ ?_; (exact HO8.out); (exact isS_nil _); (exact Nat.le_trans hwz1 hB8.size); intro a13 c13 w13 ho13 hb13 hg13; have hB13 : Below (w.heap.size + 2) w1 w13 := hB8.trans hb13; have HO13 := Lib.hid ho13; have hc13 : w13.cell? ⟨w.heap.size, 9, none⟩ = some (.slice none 0 0) := cell_later9 HD1.out hB13; have f13 := free9 HD1.out hB13; clear ho13 hb13 hg13)
          | fail)
        all_goals
          go_wp2_with fail
          go_meet
          exact ⟨a13, c13, w13, rfl, HO13.out, hB13⟩
      case rest =>
        obtain ⟨na, nn, w13, rfl, ho13, hb13⟩ := hcut
        have HO13 := Lib.hid ho13
        have HD13 := Lib.hid (HD1.out.above hb13)
        have HHO := Lib.hid (show Only [w.heap.size] w13 (w13.setCell ⟨w.heap.size, 9, none⟩ (.slice na 1 nn)) from (Only.refl _ _).setCell (by simp) _)
        have hdx : Dw w (w13.setCell ⟨w.heap.size, 9, none⟩ (.slice na 1 nn)) w.heap.size #[.int .i64 xa, .int .i64 xb, .int .i64 xc, .int .i64 xg, .int .i64 xh, .int .i64 xi, .int .i64 xj, .string xd, .int .i64 xe, .slice na 1 nn] := HD13.out.set 9 _
        have HDX := Lib.hid hdx; clear hdx ho13
        have hsz13 := hb13.size
        clear hb13 hx1' hx2' hc0 hf0 hdr HS1 HD1
        generalize (w13.setCell ⟨w.heap.size, 9, none⟩ (.slice na 1 nn)) = w14 at *
        have c3 : w14.cell? ⟨w.heap.size, 3, none⟩ = some (.int .i64 xg) := HDX.out.cell 3
        have c6 : w14.cell? ⟨w.heap.size, 6, none⟩ = some (.int .i64 xj) := HDX.out.cell 6
        have c8 : w14.cell? ⟨w.heap.size, 8, none⟩ = some (.int .i64 xe) := HDX.out.cell 8
        have c9 : w14.cell? ⟨w.heap.size, 9, none⟩ = some (.slice na 1 nn) := HDX.out.cell 9
        have f3 := HDX.out.free 3
        have f6 := HDX.out.free 6
        have f8 := HDX.out.free 8
        go_wp2_with fail
        refine (rmore_any xg _ hk1 hk2).mono ?_
        rintro e w15 ⟨rfl, rfl⟩
        generalize hm1 : moreZ xg = m1
        have HM1 := Lib.hid hm1; clear hm1
        go_wp2_with fail
        refine (rmore_any xe _ hx1 hx2).mono ?_
        rintro e w16 ⟨rfl, rfl⟩
        generalize hm2 : moreZ xe = m2
        have HM2 := Lib.hid hm2; clear hm2
        go_upto_region 8 with (fail)
        have hdy : Dw w (((w15.setCell ⟨w.heap.size, 3, none⟩ (.int .i64 m1)).setCell ⟨w.heap.size, 6, none⟩ (.int .i64 1)).setCell ⟨w.heap.size, 8, none⟩ (.int .i64 m2)) w.heap.size #[.int .i64 xa, .int .i64 xb, .int .i64 xc, .int .i64 m1, .int .i64 xh, .int .i64 xi, .int .i64 1, .string xd, .int .i64 m2, .slice na 1 nn] := ((HDX.out.set 3 _).set 6 _).set 8 _
        have hoy : Only [w.heap.size] w15 (((w15.setCell ⟨w.heap.size, 3, none⟩ (.int .i64 m1)).setCell ⟨w.heap.size, 6, none⟩ (.int .i64 1)).setCell ⟨w.heap.size, 8, none⟩ (.int .i64 m2)) := (((Only.refl _ _).setCell (by simp) _).setCell (by simp) _).setCell (by simp) _
        have HDY := Lib.hid hdy
        have HOY := Lib.hid (HHO.out.trans hoy)
        clear hdy hoy HDX c3 c6 c8 c9 f3 f6 f8
        generalize ((w15.setCell ⟨w.heap.size, 3, none⟩ (.int .i64 m1)).setCell ⟨w.heap.size, 6, none⟩ (.int .i64 1)).setCell ⟨w.heap.size, 8, none⟩ (.int .i64 m2) = w17 at *
        go_wp2_with (first
          | (refine wpList_load_row rfl 36 (.tmp 2) rfl w.heap.size rfl 36 #[.int .i64 xa, .int .i64 xb, .int .i64 xc, .int .i64 m1, .int .i64 xh, .int .i64 xi, .int .i64 1, .string xd, .int .i64 m2, .slice na 1 nn] (0, 0) _ HDY.out.box Try.underlying36 rfl size36 ?_)
          | (refine wpList_store_row rfl 36 (.tmp 4) (.tmp 47) rfl (w.heap.size + 1) #[.int .i64 xa, .int .i64 xb, .int .i64 xc, .int .i64 m1, .int .i64 xh, .int .i64 xi, .int .i64 1, .string xd, .int .i64 m2, .slice na 1 nn] rfl rfl 36 _ HDY.out.res size36 rfl (cellsN_ones ⟨xa, xb, xc, m1, xh, xi, 1, xd, m2, []⟩ na 1 nn) ?_))
        have HHP := Lib.hid (setRow_heap _ (w.heap.size + 1) _ #[.int .i64 xa, .int .i64 xb, .int .i64 xc, .int .i64 m1, .int .i64 xh, .int .i64 xi, .int .i64 1, .string xd, .int .i64 m2, .slice na 1 nn] 36 (0, 0) HDY.out.res)
        (try simp only [Exit.inBlock, Exit.then])
        refine bodyPost_ret (results_row2 (fn := Try.f18) rfl _ _ (w.heap.size + 1) #[.int .i64 xa, .int .i64 xb, .int .i64 xc, .int .i64 m1, .int .i64 xh, .int .i64 xi, .int .i64 1, .string xd, .int .i64 m2, .slice na 1 nn] (.bool true) rfl rfl HHP.out rfl) rfl ?_
        have hol : Only [w.heap.size, w.heap.size + 1] w13 (w17.setRow (w.heap.size + 1) #[.int .i64 xa, .int .i64 xb, .int .i64 xc, .int .i64 m1, .int .i64 xh, .int .i64 xi, .int .i64 1, .string xd, .int .i64 m2, .slice na 1 nn]) := (HOY.out.mono (by simp)).trans ⟨rfl, rfl, rfl, by simp, fun k _ hk => setRow_other _ _ _ _ (by simp at hk; omega)⟩
        have hown := rows_only HO13.out hol (by simp)
        have hbz := HDY.out.last #[.int .i64 xa, .int .i64 xb, .int .i64 xc, .int .i64 m1, .int .i64 xh, .int .i64 xi, .int .i64 1, .string xd, .int .i64 m2, .slice na 1 nn]
        generalize World.setRow _ _ _ = wz at *
        rw [HSE.out, HNL.out]
        have hlen : (insS ([] : List ByteArray) 0 s).length = 1 := by rw [insS_len _ _ _ (by rw [HNL.out]; exact hpk), HNL.out]
        obtain ⟨yo, yc, he, his⟩ := OwnS.isS (show OwnS wz (w.heap.size + 2) 9 _ _ from hown)
        rw [hlen] at he his ⊢
        simp only [Value.slice.injEq, true_and] at he
        obtain ⟨rfl, rfl⟩ := he
        obtain ⟨ao9, c9, he9, hcap, _⟩ := rows_shape hown
        rw [hlen] at he9
        simp only [Value.slice.injEq, true_and] at he9
        obtain ⟨rfl, rfl⟩ := he9
        rw [hlen] at hcap
        refine ⟨na, nn, by rw [HM1.out, HM2.out]; rfl, his, hcap, fun p hp => ?_, hbz⟩
        subst hp
        have := (show OwnS wz (w.heap.size + 2) 9 _ _ from hown).lt p.block rfl
        exact .inr (by omega)
    | some p =>
      obtain ⟨q, hq, hdr⟩ : ∃ q, (if c = k then some p else some (p.add k)) = some q ∧ Hid (∀ u, Below (w.heap.size + 2) w1 u → IsS u (some q) (n - k) (c - k) (xn.drop k)) := isS_fromS HS1.out hpk hnc
      go_wp2_with fail
      go_cut [] (fun wx => ∃ na nn w13, wx = w13.setCell ⟨w.heap.size, 9, none⟩ (.slice na (n + 1) nn) ∧ OwnS w13 (w.heap.size + 2) 9 (.slice na (n + 1) nn) (insS xn k s) ∧ Below (w.heap.size + 2) w1 w13)
      case first =>
        go_region_law (first
          | (refine step_append_texts (by rfl) (.tmp 17) (.tmp 21) (by rfl) (w.heap.size + 2) (.slice (some ⟨w1.heap.size, 0, none⟩) 0 0) [] k (by rfl) ?_ _ _ _ (xn.take k) (by rfl) ?_ (by simp) (by omega) ?_ ?_; (with_reducible exact (mk1d w1 (w.heap.size + 2) hwz1).1); (refine isS_takeS (HS1.out _ ?_) hpk); (with_reducible exact (mk1d w1 (w.heap.size + 2) hwz1).2); (refine Nat.le_trans hwz1 (below_size (B := (w.heap.size + 2)) (w := w1) ?_)); (with_reducible exact (mk1d w1 (w.heap.size + 2) hwz1).2); intro a5 c5 w5 ho5 hb5 hg5; have hB5 : Below (w.heap.size + 2) w1 w5 := (below_trans (mk1d w1 (w.heap.size + 2) hwz1).2 hb5); have HO5 := Lib.hid ho5; have hc5 : w5.cell? ⟨w.heap.size, 9, none⟩ = some (.slice (some p) n c) := cell_later9 HD1.out hB5; have hx5 : ∀ o : Obj, (w5.alloc o).cell? ⟨w.heap.size, 9, none⟩ = some (.slice (some p) n c) := fun o => cell_later9 HD1.out (hB5.alloc (Nat.le_trans hwz1 hB5.size) o); have f5 := free9 HD1.out hB5; clear ho5 hb5 hg5; rw [List.nil_append] at HO5)
          | (refine step_append_texts (by rfl) (.tmp 17) (.tmp 21) (by rfl) (w.heap.size + 2) (.slice (some ⟨w1.heap.size, 0, none⟩) 0 0) [] k (by rfl) ?_ _ _ _ (xn.take k) (by rfl) ?_ (by simp) (by omega) ?_ ?_; (with_reducible exact (mk2d w1 (w.heap.size + 2) hwz1 s).1); (refine isS_takeS (HS1.out _ ?_) hpk); (with_reducible exact (mk2d w1 (w.heap.size + 2) hwz1 s).2.1); (refine Nat.le_trans hwz1 (below_size (B := (w.heap.size + 2)) (w := w1) ?_)); (with_reducible exact (mk2d w1 (w.heap.size + 2) hwz1 s).2.1); intro a5 c5 w5 ho5 hb5 hg5; have hB5 : Below (w.heap.size + 2) w1 w5 := (below_trans (mk2d w1 (w.heap.size + 2) hwz1 s).2.1 hb5); have HO5 := Lib.hid ho5; have hc5 : w5.cell? ⟨w.heap.size, 9, none⟩ = some (.slice (some p) n c) := cell_later9 HD1.out hB5; have hx5 : ∀ o : Obj, (w5.alloc o).cell? ⟨w.heap.size, 9, none⟩ = some (.slice (some p) n c) := fun o => cell_later9 HD1.out (hB5.alloc (Nat.le_trans hwz1 hB5.size) o); have f5 := free9 HD1.out hB5; have HY5 := Lib.hid (grown_keep hg5 (show _ = some (Obj.cells #[Value.string s] 9 (0, 0)) from (mk2d w1 (w.heap.size + 2) hwz1 s).2.2) (by simp)); clear ho5 hb5 hg5; rw [List.nil_append] at HO5)
          | (refine step_append_texts (by rfl) (.tmp 17) (.tmp 21) (by rfl) (w.heap.size + 2) (.slice (some ⟨w1.heap.size + 1, 0, none⟩) 0 0) [] k (by rfl) ?_ _ _ _ (xn.take k) (by rfl) ?_ (by simp) (by omega) ?_ ?_; (with_reducible exact (mk3d w1 (w.heap.size + 2) hwz1 s).1); (refine isS_takeS (HS1.out _ ?_) hpk); (with_reducible exact (mk3d w1 (w.heap.size + 2) hwz1 s).2.1); (refine Nat.le_trans hwz1 (below_size (B := (w.heap.size + 2)) (w := w1) ?_)); (with_reducible exact (mk3d w1 (w.heap.size + 2) hwz1 s).2.1); intro a5 c5 w5 ho5 hb5 hg5; have hB5 : Below (w.heap.size + 2) w1 w5 := (below_trans (mk3d w1 (w.heap.size + 2) hwz1 s).2.1 hb5); have HO5 := Lib.hid ho5; have hc5 : w5.cell? ⟨w.heap.size, 9, none⟩ = some (.slice (some p) n c) := cell_later9 HD1.out hB5; have hx5 : ∀ o : Obj, (w5.alloc o).cell? ⟨w.heap.size, 9, none⟩ = some (.slice (some p) n c) := fun o => cell_later9 HD1.out (hB5.alloc (Nat.le_trans hwz1 hB5.size) o); have f5 := free9 HD1.out hB5; have HY5 := Lib.hid (grown_keep hg5 (show _ = some (Obj.cells #[Value.string s] 9 (0, 0)) from (mk3d w1 (w.heap.size + 2) hwz1 s).2.2) (by simp)); clear ho5 hb5 hg5; rw [List.nil_append] at HO5)
          | (refine step_append_texts (by rfl) (.tmp 22) (.tmp 24) (by rfl) (w.heap.size + 2) (.slice a5 k c5) (xn.take k) (k + 1) (by rfl) ?_ _ _ _ [s] (by rfl) ?_ (by rw [List.length_take, HNL.out]; omega) (by omega) ?_ ?_; (exact HO5.out); (exact isS_one HY5.out _); (exact Nat.le_trans hwz1 hB5.size); intro a8 c8 w8 ho8 hb8 hg8; have hB8 : Below (w.heap.size + 2) w1 w8 := hB5.trans hb8; have HO8 := Lib.hid ho8; have hc8 : w8.cell? ⟨w.heap.size, 9, none⟩ = some (.slice (some p) n c) := cell_later9 HD1.out hB8; have hx8 : ∀ o : Obj, (w8.alloc o).cell? ⟨w.heap.size, 9, none⟩ = some (.slice (some p) n c) := fun o => cell_later9 HD1.out (hB8.alloc (Nat.le_trans hwz1 hB8.size) o); have f8 := free9 HD1.out hB8; clear ho8 hb8 hg8)
          | (refine step_append_texts (by rfl) (.tmp 22) (.tmp 24) (by rfl) (w.heap.size + 2) (.slice a5 k c5) (xn.take k) (k + 1) (by rfl) ?_ _ _ _ [s] (by rfl) ?_ (by rw [List.length_take, HNL.out]; omega) (by omega) ?_ ?_; (exact HO5.out.alloc _); (exact isS_one (heap_new _ _) _); (exact Nat.le_trans hwz1 (hB5.alloc (Nat.le_trans hwz1 hB5.size) _).size); intro a8 c8 w8 ho8 hb8 hg8; have hB8 : Below (w.heap.size + 2) w1 w8 := (hB5.alloc (Nat.le_trans hwz1 hB5.size) _).trans hb8; have HO8 := Lib.hid ho8; have hc8 : w8.cell? ⟨w.heap.size, 9, none⟩ = some (.slice (some p) n c) := cell_later9 HD1.out hB8; have hx8 : ∀ o : Obj, (w8.alloc o).cell? ⟨w.heap.size, 9, none⟩ = some (.slice (some p) n c) := fun o => cell_later9 HD1.out (hB8.alloc (Nat.le_trans hwz1 hB8.size) o); have f8 := free9 HD1.out hB8; clear ho8 hb8 hg8)
          | (refine step_append_texts (by rfl) (.tmp 25) (.tmp 29) (by rfl) (w.heap.size + 2) (.slice a8 (k + 1) c8) (xn.take k ++ [s]) (n + 1) (by rfl) ?_ _ _ _ (xn.drop k) (by rfl) ?_ (by rw [List.length_append, List.length_take, HNL.out]; simp; omega) (by omega) ?_ ?_; (exact HO8.out); (exact hdr.out _ hB8); (exact Nat.le_trans hwz1 hB8.size); intro a13 c13 w13 ho13 hb13 hg13; have hB13 : Below (w.heap.size + 2) w1 w13 := hB8.trans hb13; have HO13 := Lib.hid ho13; have hc13 : w13.cell? ⟨w.heap.size, 9, none⟩ = some (.slice (some p) n c) := cell_later9 HD1.out hB13; have hx13 : ∀ o : Obj, (w13.alloc o).cell? ⟨w.heap.size, 9, none⟩ = some (.slice (some p) n c) := fun o => cell_later9 HD1.out (hB13.alloc (Nat.le_trans hwz1 hB13.size) o); have f13 := free9 HD1.out hB13; clear ho13 hb13 hg13)
          | fail)
        all_goals
          go_wp2_with fail
          go_meet
          exact ⟨a13, c13, w13, rfl, by have := HO13.out; rw [List.append_assoc] at this; exact this, hB13⟩
      case rest =>
        obtain ⟨na, nn, w13, rfl, ho13, hb13⟩ := hcut
        have HO13 := Lib.hid ho13
        have HD13 := Lib.hid (HD1.out.above hb13)
        have HHO := Lib.hid (show Only [w.heap.size] w13 (w13.setCell ⟨w.heap.size, 9, none⟩ (.slice na (n + 1) nn)) from (Only.refl _ _).setCell (by simp) _)
        have hdx : Dw w (w13.setCell ⟨w.heap.size, 9, none⟩ (.slice na (n + 1) nn)) w.heap.size #[.int .i64 xa, .int .i64 xb, .int .i64 xc, .int .i64 xg, .int .i64 xh, .int .i64 xi, .int .i64 xj, .string xd, .int .i64 xe, .slice na (n + 1) nn] := HD13.out.set 9 _
        have HDX := Lib.hid hdx; clear hdx ho13
        have hsz13 := hb13.size
        clear hb13 hx1' hx2' hc0 hf0 hdr hq HS1 HD1
        generalize (w13.setCell ⟨w.heap.size, 9, none⟩ (.slice na (n + 1) nn)) = w14 at *
        have c3 : w14.cell? ⟨w.heap.size, 3, none⟩ = some (.int .i64 xg) := HDX.out.cell 3
        have c6 : w14.cell? ⟨w.heap.size, 6, none⟩ = some (.int .i64 xj) := HDX.out.cell 6
        have c8 : w14.cell? ⟨w.heap.size, 8, none⟩ = some (.int .i64 xe) := HDX.out.cell 8
        have c9 : w14.cell? ⟨w.heap.size, 9, none⟩ = some (.slice na (n + 1) nn) := HDX.out.cell 9
        have f3 := HDX.out.free 3
        have f6 := HDX.out.free 6
        have f8 := HDX.out.free 8
        go_wp2_with fail
        refine (rmore_any xg _ hk1 hk2).mono ?_
        rintro e w15 ⟨rfl, rfl⟩
        generalize hm1 : moreZ xg = m1
        have HM1 := Lib.hid hm1; clear hm1
        go_wp2_with fail
        refine (rmore_any xe _ hx1 hx2).mono ?_
        rintro e w16 ⟨rfl, rfl⟩
        generalize hm2 : moreZ xe = m2
        have HM2 := Lib.hid hm2; clear hm2
        go_upto_region 8 with (fail)
        have hdy : Dw w (((w15.setCell ⟨w.heap.size, 3, none⟩ (.int .i64 m1)).setCell ⟨w.heap.size, 6, none⟩ (.int .i64 ((n : Int) + 1))).setCell ⟨w.heap.size, 8, none⟩ (.int .i64 m2)) w.heap.size #[.int .i64 xa, .int .i64 xb, .int .i64 xc, .int .i64 m1, .int .i64 xh, .int .i64 xi, .int .i64 ((n : Int) + 1), .string xd, .int .i64 m2, .slice na (n + 1) nn] := ((HDX.out.set 3 _).set 6 _).set 8 _
        have hoy : Only [w.heap.size] w15 (((w15.setCell ⟨w.heap.size, 3, none⟩ (.int .i64 m1)).setCell ⟨w.heap.size, 6, none⟩ (.int .i64 ((n : Int) + 1))).setCell ⟨w.heap.size, 8, none⟩ (.int .i64 m2)) := (((Only.refl _ _).setCell (by simp) _).setCell (by simp) _).setCell (by simp) _
        have HDY := Lib.hid hdy
        have HOY := Lib.hid (HHO.out.trans hoy)
        clear hdy hoy HDX c3 c6 c8 c9 f3 f6 f8
        generalize ((w15.setCell ⟨w.heap.size, 3, none⟩ (.int .i64 m1)).setCell ⟨w.heap.size, 6, none⟩ (.int .i64 ((n : Int) + 1))).setCell ⟨w.heap.size, 8, none⟩ (.int .i64 m2) = w17 at *
        go_wp2_with (first
          | (refine wpList_load_row rfl 36 (.tmp 2) rfl w.heap.size rfl 36 #[.int .i64 xa, .int .i64 xb, .int .i64 xc, .int .i64 m1, .int .i64 xh, .int .i64 xi, .int .i64 ((n : Int) + 1), .string xd, .int .i64 m2, .slice na (n + 1) nn] (0, 0) _ HDY.out.box Try.underlying36 rfl size36 ?_)
          | (refine wpList_store_row rfl 36 (.tmp 4) (.tmp 47) rfl (w.heap.size + 1) #[.int .i64 xa, .int .i64 xb, .int .i64 xc, .int .i64 m1, .int .i64 xh, .int .i64 xi, .int .i64 ((n : Int) + 1), .string xd, .int .i64 m2, .slice na (n + 1) nn] rfl rfl 36 _ HDY.out.res size36 rfl (cellsN_ones ⟨xa, xb, xc, m1, xh, xi, (n : Int) + 1, xd, m2, []⟩ na (n + 1) nn) ?_))
        have HHP := Lib.hid (setRow_heap _ (w.heap.size + 1) _ #[.int .i64 xa, .int .i64 xb, .int .i64 xc, .int .i64 m1, .int .i64 xh, .int .i64 xi, .int .i64 ((n : Int) + 1), .string xd, .int .i64 m2, .slice na (n + 1) nn] 36 (0, 0) HDY.out.res)
        (try simp only [Exit.inBlock, Exit.then])
        refine bodyPost_ret (results_row2 (fn := Try.f18) rfl _ _ (w.heap.size + 1) #[.int .i64 xa, .int .i64 xb, .int .i64 xc, .int .i64 m1, .int .i64 xh, .int .i64 xi, .int .i64 ((n : Int) + 1), .string xd, .int .i64 m2, .slice na (n + 1) nn] (.bool true) rfl rfl HHP.out rfl) rfl ?_
        have hol : Only [w.heap.size, w.heap.size + 1] w13 (w17.setRow (w.heap.size + 1) #[.int .i64 xa, .int .i64 xb, .int .i64 xc, .int .i64 m1, .int .i64 xh, .int .i64 xi, .int .i64 ((n : Int) + 1), .string xd, .int .i64 m2, .slice na (n + 1) nn]) := (HOY.out.mono (by simp)).trans ⟨rfl, rfl, rfl, by simp, fun k _ hk => setRow_other _ _ _ _ (by simp at hk; omega)⟩
        have hown := rows_only HO13.out hol (by simp)
        have hbz := HDY.out.last #[.int .i64 xa, .int .i64 xb, .int .i64 xc, .int .i64 m1, .int .i64 xh, .int .i64 xi, .int .i64 ((n : Int) + 1), .string xd, .int .i64 m2, .slice na (n + 1) nn]
        generalize World.setRow _ _ _ = wz at *
        rw [HSE.out, HNL.out]
        have hlen : (insS xn k s).length = n + 1 := by rw [insS_len _ _ _ (by rw [HNL.out]; exact hpk), HNL.out]
        obtain ⟨yo, yc, he, his⟩ := OwnS.isS (show OwnS wz (w.heap.size + 2) 9 _ _ from hown)
        rw [hlen] at he his ⊢
        simp only [Value.slice.injEq, true_and] at he
        obtain ⟨rfl, rfl⟩ := he
        obtain ⟨ao9, c9, he9, hcap, _⟩ := rows_shape hown
        rw [hlen] at he9
        simp only [Value.slice.injEq, true_and] at he9
        obtain ⟨rfl, rfl⟩ := he9
        rw [hlen] at hcap
        refine ⟨na, nn, by rw [HM1.out, HM2.out]; rfl, his, hcap, fun p hp => ?_, hbz⟩
        subst hp
        have := (show OwnS wz (w.heap.size + 2) 9 _ _ from hown).lt p.block rfl
        exact .inr (by omega)
end Go.Proofs.Ytaoligpckpabfaa
