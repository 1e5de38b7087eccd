/-
  A reply is read. No condition.
-/
import Derived.Test.YtpikdeikcmdcmaaRead
namespace Go.Proofs.Ytpikdeikcmdcmaa
open Go.RowKit
/-- results, one behind another -/
def rAll : Nat → List UInt8 → Bool → Rd (List Re)
  | 0, l, bad => ⟨[], l, bad⟩
  | n + 1, l, bad => ⟨(rAll n l bad).v ++ [(rOne (rAll n l bad).l (rAll n l bad).bad).v], (rOne (rAll n l bad).l (rAll n l bad).bad).l, (rOne (rAll n l bad).l (rAll n l bad).bad).bad⟩
theorem r7_len (l : List UInt8) (bad : Bool) : (r7 l bad).l.length ≤ l.length := by
  simp only [r7]
  exact Nat.le_trans (rI_len _ _) (Nat.le_trans (rI_len _ _) (Nat.le_trans (rI_len _ _) (Nat.le_trans (rI_len _ _) (Nat.le_trans (rI_len _ _) (Nat.le_trans (rI_len _ _) (rI_len _ _))))))
theorem rOne_len (l : List UInt8) (bad : Bool) : (rOne l bad).l.length ≤ l.length := by
  simp only [rOne]
  exact Nat.le_trans (r7_len _ _) (Nat.le_trans (rTs_len _ _ _).1 (Nat.le_trans (rC_len _ _ _) (Nat.le_trans (rT_len _ _ _) (Nat.le_trans (rT_len _ _ _) (rI_len _ _)))))
theorem rAll_len (n : Nat) (l : List UInt8) (bad : Bool) : (rAll n l bad).l.length ≤ l.length ∧ (rAll n l bad).v.length = n := by
  induction n with
  | zero => exact ⟨Nat.le_refl _, rfl⟩
  | succ n ih =>
    have h := rOne_len (rAll n l bad).l (rAll n l bad).bad
    refine ⟨?_, ?_⟩
    · simp only [rAll]; omega
    · simp only [rAll, List.length_append, ih.2, List.length_cons, List.length_nil]
/-- a reply -/
def rRep (l : List UInt8) (bad : Bool) : Rd Rp :=
  let a := rI l bad; let b := rI a.l a.bad; let c := rI b.l b.bad; let d := rI c.l c.bad; let k := rC d.l d.bad 16; let x := rAll k.v.toNat k.l k.bad
  ⟨⟨a.v, b.v, c.v, d.v, x.v⟩, x.l, x.bad⟩
/-- what is read of bytes: a reply, and an error -/
def getR (l : List UInt8) : Rp × Int := if (!(rRep l false).bad && (rRep l false).l.isEmpty) = true then ((rRep l false).v, 0) else (⟨0, 0, 0, 0, []⟩, 3)
/-- a reply in a cell, and one value more -/
theorem results_rep_tmp {fn : Func} {p u : Tmp} {t : TypeId} {fs : Array Field} (h : fn.results = #[.cell p t, .tmp u]) (tmps : Array Value) (w : World) (g : Nat) (cs : Array Value) (x : Value)
    (hp : tmps.getD p undef = .pointer (some ⟨g, 0, none⟩)) (hx : tmps.getD u undef = x) (hg : w.heap[g]? = some (.cells cs t (0, 0))) (hu : Try.prog.underlying t = some (.struct fs)) (hi : (Try.prog.info? t).map (·.size) = some cs.size) :
    (results fn tmps).run Try.prog w = .ok (.tuple #[.agg cs, x]) w := by
  have hl := run_loadVar_row (P := Try.prog) w g t t cs (0, 0) _ hg hu rfl hi
  rw [results_cell_tmp h, hp, hx]
  simp [asAddr, hl, Result.andThen]
/-- where reading stands -/
structure GdS (w W : World) (p : Nat) (T : Nat → Prop) (R X B : Nat) (l : List UInt8) (bad : Bool) (cs : Array Value) (v : Value) (rs : List (Re × Value)) : Prop where
  rd : IsR W p T l bad
  below : Below w.heap.size w W
  at_ : W.heap[X]? = some (.cells cs 26 (0, 0))
  res : W.heap[R]? = some (.cells #[.int .i64 0, .int .i64 0, .int .i64 0, .int .i64 0, .slice none 0 0] 26 (0, 0))
  own : ResOwn W B v rs
  h1 : w.heap.size ≤ R
  h2 : R < p
  h3 : p < X
  h4 : X < B
  h5 : B ≤ W.heap.size
  h6 : ∀ k, T k → R < k ∧ k < p
section
variable {w W u : World} {p : Nat} {T : Nat → Prop} {R X B : Nat} {l l' : List UInt8} {bad bad' : Bool} {cs : Array Value} {v v' : Value} {rs rs' : List (Re × Value)}
theorem GdS.read (h : GdS w W p T R X B l bad cs v rs) (hr : IsR u p T l' bad') (ho : Only [p] W u) : GdS w u p T R X B l' bad' cs v rs := by
  have a1 := h.h1; have a2 := h.h2; have a3 := h.h3; have a4 := h.h4; have a5 := h.h5
  exact ⟨hr, h.below.trans (ho.below h.below.size (by simp; omega)), ho.keeps h.at_ (by simp; omega), ho.keeps h.res (by simp; omega), h.own.only ho (by simp; omega), a1, a2, a3, a4, Nat.le_trans a5 ho.size, h.h6⟩
theorem GdS.set (h : GdS w W p T R X B l bad cs v rs) (j : Nat) (x : Value) : GdS w (W.setCell ⟨X, j, none⟩ x) p T R X B l bad (cs.setIfInBounds j x) v rs := by
  have o : Only [X] W (W.setCell ⟨X, j, none⟩ x) := (Only.refl _ _).setCell (by simp) _
  have a1 := h.h1; have a2 := h.h2; have a3 := h.h3; have a4 := h.h4; have a5 := h.h5; have a6 := h.h6
  exact ⟨h.rd.keep o (by simp; omega) (fun k hk => by have := a6 k hk; simp; omega), h.below.trans (o.below h.below.size (by simp; omega)), heap_set h.at_ j x, o.keeps h.res (by simp; omega), h.own.only o (by simp; omega), a1, a2, a3, a4, Nat.le_trans a5 o.size, a6⟩
theorem GdS.app (h : GdS w W p T R X B l bad cs v rs) (hb : Below B W u) (ho : ResOwn u B v' rs') : GdS w u p T R X B l bad cs v' rs' := by
  have a1 := h.h1; have a2 := h.h2; have a3 := h.h3; have a4 := h.h4; have a5 := h.h5; have a6 := h.h6
  refine ⟨?_, h.below.trans (hb.mono (by omega)), by rw [hb.block X a4]; exact h.at_, by rw [hb.block R (by omega)]; exact h.res, ho, a1, a2, a3, a4, Nat.le_trans a5 hb.size, a6⟩
  obtain ⟨⟨ao, n, c, k1, k2, k3, k4⟩, hne⟩ := h.rd
  refine ⟨⟨ao, n, c, by rw [hb.block p (by omega)]; exact k1, ?_, k3, k4⟩, hne⟩
  refine ⟨k2.len, k2.nil, ?_⟩
  rcases k2.at_ with g3 | ⟨b, off, g4, g5⟩
  · exact .inl g3
  · have hbB : b < B := by have := (a6 b (k4 _ g4)).2; omega
    exact .inr ⟨b, off, g4, fun i hi => (World.cell?_of_block (hb.block b hbB)).trans (g5 i hi)⟩
theorem GdS.drew (h : GdS w W p T R X B l bad cs v rs) : GdS w W.drew p T R X B l bad cs v rs :=
  h.app (below_drew (Below.refl _ _) 1) (h.own.below (below_drew (Below.refl _ _) 1))
theorem GdS.alloc (h : GdS w W p T R X B l bad cs v rs) (o : Obj) : GdS w (W.alloc o) p T R X B l bad cs v rs :=
  h.app ((Below.refl _ _).alloc h.h5 o) (h.own.below ((Below.refl _ _).alloc (Nat.le_refl _) o))
theorem GdS.cell (h : GdS w W p T R X B l bad cs v rs) (j : Nat) : W.cell? ⟨X, j, none⟩ = cs[j]? := cell_heap h.at_ j
theorem GdS.free (h : GdS w W p T R X B l bad cs v rs) (j : Nat) : W.frozen? ⟨X, j, none⟩ = false := free_heap h.at_ j
end
theorem rep_ones (a b c d : Int) (ao : Option Addr) (n k : Nat) : ([.int .i64 a, .int .i64 b, .int .i64 c, .int .i64 d, .slice ao n k] : List Value).toArray.all (·.oneCell') = true :=
  ones_arr (fun v hv => by
    simp only [List.mem_cons, List.not_mem_nil, or_false] at hv
    rcases hv with rfl | rfl | rfl | rfl | rfl <;> rfl)

set_option maxHeartbeats 8000000 in
set_option maxRecDepth 100000 in
theorem get_any (ao : Option Addr) (n c : Nat) (l : List UInt8) (w : World) (h : IsB w ao n c l) (hn : n ≤ 100000000000) :
    Calls Try.prog 11 #[.slice ao n c] w fun e w' => ∃ v rs, e = .returned (.tuple #[aggP (getR l).1.num (getR l).1.zxid (getR l).1.err (getR l).1.place v, .int .i64 (getR l).2]) ∧ ResOwn w' w.heap.size v rs ∧ resL rs = (getR l).1.res ∧ rs.length ≤ 16 ∧ Below w.heap.size w w' := by
  have HL0 : l.length ≤ 100000000000 := by rw [h.len]; exact hn
  go_enter Try.func11, Try.ntmps11
  go_wp2_with fail
  have hb0 : Below w.heap.size w (w.alloc (.cells #[.int .i64 0, .int .i64 0, .int .i64 0, .int .i64 0, .slice none 0 0] 26)) := (Below.refl _ _).alloc (Nat.le_refl _) _
  have hz0 : (w.alloc (.cells #[.int .i64 0, .int .i64 0, .int .i64 0, .int .i64 0, .slice none 0 0] 26)).heap[w.heap.size]? = some (.cells #[.int .i64 0, .int .i64 0, .int .i64 0, .int .i64 0, .slice none 0 0] 26 (0, 0)) := heap_new _ _
  have hsz : (w.alloc (.cells #[.int .i64 0, .int .i64 0, .int .i64 0, .int .i64 0, .slice none 0 0] 26)).heap.size = w.heap.size + 1 := by simp
  have hi0 := h.below hb0
  generalize (w.alloc (.cells #[.int .i64 0, .int .i64 0, .int .i64 0, .int .i64 0, .slice none 0 0] 26)) = w0 at *
  refine (read_any ao n c l w0 hi0 (by omega)).mono ?_
  rintro e u0 ⟨p, rfl, hr0, hp1, hp2, hb1⟩
  have hB1 := hb0.trans (hb1.mono (by omega))
  have hz1 := (Only.ofBelow hb1 []).keeps hz0 (by simp)
  go_wp2_with fail
  refine (rdI64_any p l false u0 hr0 (by omega)).mono ?_
  rintro e u1 ⟨rfl, hr1, ho1⟩
  generalize hTT : (fun b => w0.heap.size ≤ b ∧ b < p) = T at *
  have hT6 : ∀ k, T k → w.heap.size < k ∧ k < p := by
    intro k hk; rw [← hTT] at hk; obtain ⟨h1, h2⟩ := hk; omega
  have hz2 := ho1.keeps hz1 (by simp; omega)
  have hl1 := Nat.le_trans (rI_len l false) HL0
  generalize hE1 : rI l false = e1 at *
  have HE1 := Lib.hid hE1
  have HL1 : e1.l.length ≤ 100000000000 := hl1
  have hlt : p < u1.heap.size := Nat.lt_of_lt_of_le hp2 ho1.size
  have hs1 : GdS w (u1.alloc (.cells #[.int .i64 e1.v, .int .i64 0, .int .i64 0, .int .i64 0, .slice none 0 0] 26)) p T w.heap.size u1.heap.size (u1.heap.size + 1) e1.l e1.bad #[.int .i64 e1.v, .int .i64 0, .int .i64 0, .int .i64 0, .slice none 0 0] (.slice none 0 0) [] :=
    ⟨hr1.only ((Below.refl _ _).alloc (Nat.le_refl _) _), (hB1.trans (ho1.below hB1.size (by simp; omega))).alloc (Nat.le_trans hB1.size ho1.size) _, heap_new _ _, heap_old hz2 _, ResOwn.nil _ _, Nat.le_refl _, by omega, hlt, Nat.lt_succ_self _, by simp, hT6⟩
  have HS1 := Lib.hid hs1
  clear hs1 hE1 hz1 hz2 hr1 ho1 hz0 hr0 hb0 hb1 hB1 hi0 h hl1 hTT hp1 hp2 hsz
  go_wp2_with fail
  generalize u1.heap.size = X at *
  generalize (u1.alloc (.cells #[.int .i64 e1.v, .int .i64 0, .int .i64 0, .int .i64 0, .slice none 0 0] 26)) = u1 at *
  generalize X + 1 = B at *
  refine (rdI64_any p e1.l e1.bad _ HS1.out.rd (by omega)).mono ?_
  rintro e u2 ⟨rfl, hr2, ho2⟩
  have hs2 := HS1.out.read hr2 ho2
  generalize hE2 : rI e1.l e1.bad = e2 at *
  have HE2 := Lib.hid hE2
  have HL2 : e2.l.length ≤ 100000000000 := by rw [← hE2]; exact Nat.le_trans (rI_len _ _) HL1
  clear hr2 ho2 hE2
  have hf2 := hs2.free 1
  have hq2 : u2.cell? ⟨X, 1, none⟩ = some (.int .i64 0) := hs2.cell 1
  have ht2 : GdS w (u2.setCell ⟨X, 1, none⟩ (.int .i64 e2.v)) p T w.heap.size X B e2.l e2.bad #[.int .i64 e1.v, .int .i64 e2.v, .int .i64 0, .int .i64 0, .slice none 0 0] _ _ := hs2.set 1 (.int .i64 e2.v)
  have HT2 := Lib.hid ht2
  clear hs2 ht2
  go_wp2_with fail
  clear hf2 hq2
  have HS2 := HT2
  refine (rdI64_any p e2.l e2.bad _ HS2.out.rd (by omega)).mono ?_
  rintro e u3 ⟨rfl, hr3, ho3⟩
  have hs3 := HS2.out.read hr3 ho3
  generalize hE3 : rI e2.l e2.bad = e3 at *
  have HE3 := Lib.hid hE3
  have HL3 : e3.l.length ≤ 100000000000 := by rw [← hE3]; exact Nat.le_trans (rI_len _ _) HL2
  clear hr3 ho3 hE3
  have hf3 := hs3.free 2
  have hq3 : u3.cell? ⟨X, 2, none⟩ = some (.int .i64 0) := hs3.cell 2
  have ht3 : GdS w (u3.setCell ⟨X, 2, none⟩ (.int .i64 e3.v)) p T w.heap.size X B e3.l e3.bad #[.int .i64 e1.v, .int .i64 e2.v, .int .i64 e3.v, .int .i64 0, .slice none 0 0] _ _ := hs3.set 2 (.int .i64 e3.v)
  have HT3 := Lib.hid ht3
  clear hs3 ht3
  go_wp2_with fail
  clear hf3 hq3
  have HS3 := HT3
  refine (rdI64_any p e3.l e3.bad _ HS3.out.rd (by omega)).mono ?_
  rintro e u4 ⟨rfl, hr4, ho4⟩
  have hs4 := HS3.out.read hr4 ho4
  generalize hE4 : rI e3.l e3.bad = e4 at *
  have HE4 := Lib.hid hE4
  have HL4 : e4.l.length ≤ 100000000000 := by rw [← hE4]; exact Nat.le_trans (rI_len _ _) HL3
  clear hr4 ho4 hE4
  have hf4 := hs4.free 3
  have hq4 : u4.cell? ⟨X, 3, none⟩ = some (.int .i64 0) := hs4.cell 3
  have ht4 : GdS w (u4.setCell ⟨X, 3, none⟩ (.int .i64 e4.v)) p T w.heap.size X B e4.l e4.bad #[.int .i64 e1.v, .int .i64 e2.v, .int .i64 e3.v, .int .i64 e4.v, .slice none 0 0] _ _ := hs4.set 3 (.int .i64 e4.v)
  have HT4 := Lib.hid ht4
  clear hs4 ht4
  go_wp2_with fail
  clear hf4 hq4
  have HS4 := HT4
  refine (rdCount_any p e4.l e4.bad 16 _ HS4.out.rd (by omega)).mono ?_
  rintro e u5 ⟨rfl, hr5, ho5⟩
  have hs5 := HS4.out.read hr5 ho5
  have hk0 := rC_pos e4.l e4.bad 16
  have hk5 : (rC e4.l e4.bad 16).v ≤ 16 := by unfold rC; split <;> first | omega | (show (0 : Int) ≤ 16; omega)
  generalize hE5 : rC e4.l e4.bad 16 = e5 at *
  have HE5 := Lib.hid hE5
  have HL5 : e5.l.length ≤ 100000000000 := by rw [← hE5]; exact Nat.le_trans (rC_len _ _ _) HL4
  obtain ⟨kk, hkk⟩ := Int.eq_ofNat_of_zero_le hk0
  rw [hkk] at hk5
  have HS5 := Lib.hid hs5
  have HKK := Lib.hid hkk
  rw [hkk]
  clear hr5 ho5 hE5 hs5 hk0 hkk
  go_wp2_with fail
  go_loopw [22] (fun i wr => ∃ k : Nat, k ≤ kk ∧ i = .int .i64 (k : Int) ∧ ∃ a c rs, resL rs = (rAll k e5.l e5.bad).v ∧ GdS w wr p T w.heap.size X B (rAll k e5.l e5.bad).l (rAll k e5.l e5.bad).bad #[.int .i64 e1.v, .int .i64 e2.v, .int .i64 e3.v, .int .i64 e4.v, .slice a k c] (.slice a k c) rs) (fun i _ => kk - (intOf i).toNat)
  case atStart => exact ⟨0, by omega, rfl, none, 0, [], rfl, HS5.out⟩
  case round =>
    obtain ⟨k, hk, rfl, ga, gc, rs, hrs, hst⟩ := hrel
    have HST := Lib.hid hst; clear hst
    have HRS := Lib.hid hrs
    have HRL := Lib.hid (show rs.length = k by have := congrArg List.length hrs; rw [(rAll_len _ _ _).2] at this; simpa [resL] using this)
    clear hrs
    by_cases hlt : k < kk
    · have hc3 : wr.cell? ⟨X, 4, none⟩ = some (.slice ga k gc) := HST.out.cell 4
      have hlen := (rAll_len k e5.l e5.bad).1
      have HTE := Lib.hid (show rAll (k + 1) e5.l e5.bad = ⟨(rAll k e5.l e5.bad).v ++ [(rOne (rAll k e5.l e5.bad).l (rAll k e5.l e5.bad).bad).v], (rOne (rAll k e5.l e5.bad).l (rAll k e5.l e5.bad).bad).l, (rOne (rAll k e5.l e5.bad).l (rAll k e5.l e5.bad).bad).bad⟩ from rfl)
      have HTT := Lib.hid (show ∀ j, T j → j < wr.drew.heap.size from fun j hj => by have := HST.out.h6 j hj; have := HST.out.h3; have := HST.out.h4; have := HST.out.h5; show j < wr.heap.size; omega)
      generalize rAll k e5.l e5.bad = t at *
      have HRO := Lib.hid (readOne_any p T t.l t.bad wr.drew HST.out.drew.rd HTT.out (by omega))
      generalize hYY : rOne t.l t.bad = yy at *
      obtain ⟨y, yl, ybad⟩ := yy
      have HYY := Lib.hid hYY
      clear hYY
      obtain ⟨ye, yp, yd, yn, ya, yb, yc, yg, yh, yi, yj⟩ := y
      go_wp2_with fail
      go_region_law (first
        | (go_simp; go_at_call 26; go_must (refine (HRO.out).mono ?_); go_must (rintro e u6 ⟨yv, rfl, hyv, hyl, hr6, ho6⟩); have hs6 := HST.out.drew.read hr6 ho6; have HS6 := Lib.hid hs6; have HYV := Lib.hid (rows_mono hyv (show B ≤ wr.drew.heap.size from HST.out.h5)); go_must (have HYL := Lib.hid (show yn.length ≤ 1000 from Nat.le_trans hyl (by decide))); go_must (obtain ⟨ya2, yc2, rfl, _⟩ := hyv.isS); simp only [aggR]; clear hr6 ho6 hyv hyl; have hc63 : u6.cell? ⟨X, 4, none⟩ = some (.slice ga k gc) := hs6.cell 4; have hca3 : ∀ o : Obj, (u6.alloc o).cell? ⟨X, 4, none⟩ = some (.slice ga k gc) := fun o => (hs6.alloc o).cell 4; clear hs6)
        | (refine wanted_step rfl (wp_append_res (.tmp 25) (.tmp 28) rfl B (.slice ga k gc) rs (by rfl) (by exact (HS6.out.alloc _).own) ⟨ye, yp, yd, yn, ya, yb, yc, yg, yh, yi, yj⟩ ya2 _ yc2 u6.heap.size (by rfl) (by exact heap_new _ _) (by exact rows_below HYV.out ((Below.refl _ _).alloc (Nat.le_refl _) _)) HYL.out (by rw [HRL.out]; omega) (by exact (HS6.out.alloc _).h5) ?_); intro a7 c7 u7 ho7 hb7; have hs7 := (HS6.out.alloc _).app hb7 ho7; have HS7 := Lib.hid hs7; have hc73 : u7.cell? ⟨X, 4, none⟩ = some (.slice ga k gc) := hs7.cell 4; have hf7 := hs7.free 4; clear ho7 hb7 hs7))
      all_goals
        have hS8 := HS7.out.set 4 (.slice a7 (rs.length + 1) c7)
        rw [HRL.out] at hS8
        have HS8 := Lib.hid hS8
        clear hS8 hc73 hf7 hc3 hc63 hca3
        go_wp2_with fail
        go_roundw
        case rel => exact ⟨k + 1, by omega, by go_num, a7, c7, rs ++ [(⟨ye, yp, yd, yn, ya, yb, yc, yg, yh, yi, yj⟩, .slice ya2 yn.length yc2)], by rw [HTE.out, resL, List.map_append, ← HRS.out]; rfl, by rw [HTE.out, HRL.out]; exact HS8.out⟩
        case measure => simp [intOf]; omega
    · obtain rfl : k = kk := by omega
      have hT5 := (rAll_len k e5.l e5.bad).1
      generalize hE6 : rAll k e5.l e5.bad = e6 at *
      have HE6 := Lib.hid hE6
      clear hE6
      have hres : rRep l false = ⟨⟨e1.v, e2.v, e3.v, e4.v, e6.v⟩, e6.l, e6.bad⟩ := by
        simp only [rRep, HE1.out, HE2.out, HE3.out, HE4.out, HE5.out, HKK.out, Int.toNat_natCast, HE6.out]
      have hget : getR l = if (!e6.bad && e6.l.isEmpty) = true then (⟨e1.v, e2.v, e3.v, e4.v, e6.v⟩, 0) else (⟨0, 0, 0, 0, []⟩, 3) := by
        rw [getR, hres]
      have HGET := Lib.hid hget
      clear hget hres
      go_wp2_with fail
      refine (end_any p e6.l e6.bad wr HST.out.rd).mono ?_
      rintro e w2 ⟨rfl, rfl⟩
      have hXs : w.heap.size < X := by have := HST.out.h1; have := HST.out.h2; have := HST.out.h3; omega
      cases hok : (!e6.bad && e6.l.isEmpty) with
      | true =>
        have hg : getR l = (⟨e1.v, e2.v, e3.v, e4.v, e6.v⟩, 0) := by rw [HGET.out, if_pos hok]
        have HG := Lib.hid hg; clear hg
        go_wp2_with (first
          | (refine wpList_load_row rfl 26 (.tmp 5) rfl X rfl 26 #[.int .i64 e1.v, .int .i64 e2.v, .int .i64 e3.v, .int .i64 e4.v, .slice ga k gc] (0, 0) _ HST.out.at_ Try.underlying26 rfl size26 ?_)
          | (refine wpList_store_row rfl 26 (.tmp 2) (.tmp 36) rfl w.heap.size #[.int .i64 e1.v, .int .i64 e2.v, .int .i64 e3.v, .int .i64 e4.v, .slice ga k gc] rfl rfl 26 _ HST.out.res size26 rfl (rep_ones _ _ _ _ _ _ _) ?_))
        have hon : Only [w.heap.size] wr (wr.setRow w.heap.size #[.int .i64 e1.v, .int .i64 e2.v, .int .i64 e3.v, .int .i64 e4.v, .slice ga k gc]) := ⟨rfl, rfl, rfl, by simp, fun k _ hk => setRow_other _ _ _ _ (by simpa using hk)⟩
        have HON := Lib.hid hon; clear hon
        have HHP := Lib.hid (setRow_heap wr w.heap.size _ #[.int .i64 e1.v, .int .i64 e2.v, .int .i64 e3.v, .int .i64 e4.v, .slice ga k gc] 26 (0, 0) HST.out.res)
        (try simp only [Exit.inBlock, Exit.then])
        have hB := HST.out.below.trans (HON.out.below HST.out.below.size (by simp))
        refine bodyPost_ret (results_rep_tmp (fn := Try.f11) rfl _ _ w.heap.size _ _ rfl rfl HHP.out Try.underlying26 size26) rfl ?_
        rw [HG.out]
        exact ⟨_, rs, rfl, (HST.out.own.only HON.out (by simp; have := HST.out.h4; omega)).mono (by have := HST.out.h4; omega), HRS.out, by rw [HRL.out]; omega, hB⟩
      | false =>
        have hg : getR l = (⟨0, 0, 0, 0, []⟩, 3) := by rw [HGET.out, if_neg (by rw [hok]; decide)]
        have HG := Lib.hid hg; clear hg
        go_wp2_with (refine wpList_store_row rfl 26 (.tmp 2) (.tmp 35) rfl w.heap.size #[.int .i64 0, .int .i64 0, .int .i64 0, .int .i64 0, .slice none 0 0] rfl rfl 26 _ HST.out.res size26 rfl (rep_ones _ _ _ _ _ _ _) ?_)
        have hon : Only [w.heap.size] wr (wr.setRow w.heap.size #[.int .i64 0, .int .i64 0, .int .i64 0, .int .i64 0, .slice none 0 0]) := ⟨rfl, rfl, rfl, by simp, fun k _ hk => setRow_other _ _ _ _ (by simpa using hk)⟩
        have HON := Lib.hid hon; clear hon
        have HHP := Lib.hid (setRow_heap wr w.heap.size _ #[.int .i64 0, .int .i64 0, .int .i64 0, .int .i64 0, .slice none 0 0] 26 (0, 0) HST.out.res)
        (try simp only [Exit.inBlock, Exit.then])
        have hB := HST.out.below.trans (HON.out.below HST.out.below.size (by simp))
        refine bodyPost_ret (results_rep_tmp (fn := Try.f11) rfl _ _ w.heap.size _ _ rfl rfl HHP.out Try.underlying26 size26) rfl ?_
        rw [HG.out]
        exact ⟨_, [], rfl, ResOwn.nil _ _, rfl, by simp, hB⟩
end Go.Proofs.Ytpikdeikcmdcmaa
