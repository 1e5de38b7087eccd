/-
  A result is read. No condition.
-/
import Derived.Test.YtpikdeikcmdcmaaGrow
import Derived.Deep.RegionLaw
namespace Go.Proofs.Ytpikdeikcmdcmaa
open Go.RowKit
theorem heap_ne' {w : World} {a b : Nat} {c1 c2 : Array Value} {t1 t2 : TypeId} {f1 f2 : Nat × Nat} (h1 : w.heap[a]? = some (.cells c1 t1 f1)) (h2 : w.heap[b]? = some (.cells c2 t2 f2)) (hne : t1 ≠ t2) : a ≠ b := by
  intro e; subst e; rw [h1] at h2; cases h2; exact hne rfl
theorem ones_arr {cs : List Value} (h : ∀ v ∈ cs, v.oneCell' = true) : cs.toArray.all (·.oneCell') = true :=
  Array.all_eq_true_iff_forall_mem.2 (fun v hv => h v (by simpa using hv))
/-- texts, one behind another -/
def rTs : Nat → List UInt8 → Bool → Rd (List ByteArray)
  | 0, l, bad => ⟨[], l, bad⟩
  | n + 1, l, bad => ⟨(rTs n l bad).v ++ [(rT (rTs n l bad).l (rTs n l bad).bad 20000).v], (rT (rTs n l bad).l (rTs n l bad).bad 20000).l, (rT (rTs n l bad).l (rTs n l bad).bad 20000).bad⟩
theorem rTs_len (n : Nat) (l : List UInt8) (bad : Bool) : (rTs n l bad).l.length ≤ l.length ∧ (rTs n l bad).v.length = n := by
  induction n with
  | zero => exact ⟨Nat.le_refl _, rfl⟩
  | succ n ih =>
    have h := rT_len (rTs n l bad).l (rTs n l bad).bad 20000
    refine ⟨?_, ?_⟩
    · simp only [rTs]; omega
    · simp only [rTs, List.length_append, ih.2, List.length_cons, List.length_nil]
/-- seven numbers -/
structure Nums7 where
  a : Int
  b : Int
  c : Int
  d : Int
  e : Int
  f : Int
  g : Int
def r7 (l : List UInt8) (bad : Bool) : Rd Nums7 :=
  let a := rI l bad; let b := rI a.l a.bad; let c := rI b.l b.bad; let d := rI c.l c.bad; let e := rI d.l d.bad; let f := rI e.l e.bad; let g := rI f.l f.bad
  ⟨⟨a.v, b.v, c.v, d.v, e.v, f.v, g.v⟩, g.l, g.bad⟩
/-- a result -/
def rOne (l : List UInt8) (bad : Bool) : Rd Re :=
  let e := rI l bad; let p := rT e.l e.bad 20000; let d := rT p.l p.bad 20000; let k := rC d.l d.bad 500; let ns := rTs k.v.toNat k.l k.bad; let z := r7 ns.l ns.bad
  ⟨⟨e.v, p.v, d.v, ns.v, z.v.a, z.v.b, z.v.c, z.v.d, z.v.e, z.v.f, z.v.g⟩, z.l, z.bad⟩
/-- where reading stands: the result that grows lies in block X, its names from block B on, the answer's cell in block R, the reader in block p -/
structure RdS (w W : World) (p : Nat) (T : Nat → Prop) (R X B : Nat) (l : List UInt8) (bad : Bool) (cs : Array Value) (v : Value) (ns : List ByteArray) : Prop where
  rd : IsR W p T l bad
  only : Only [p] w W
  at_ : W.heap[X]? = some (.cells cs 35 (0, 0))
  res : W.heap[R]? = some (.cells #[.int .i64 0, .string ⟨#[]⟩, .string ⟨#[]⟩, .slice none 0 0, .int .i64 0, .int .i64 0, .int .i64 0, .int .i64 0, .int .i64 0, .int .i64 0, .int .i64 0] 35 (0, 0))
  own : OwnS W B 9 v ns
  h1 : w.heap.size ≤ R
  h2 : R < X
  h3 : X < B
  h4 : B ≤ W.heap.size
  h5 : p < w.heap.size
  h6 : ∀ k, T k → k < w.heap.size
theorem RdS.read {w W u : World} {p : Nat} {T : Nat → Prop} {R X B : Nat} {l l' : List UInt8} {bad bad' : Bool} {cs : Array Value} {v : Value} {ns : List ByteArray} (h : RdS w W p T R X B l bad cs v ns) (hr : IsR u p T l' bad') (ho : Only [p] W u) : RdS w u p T R X B l' bad' cs v ns :=
  ⟨hr, h.only.trans ho, ho.keeps h.at_ (by have := h.h1; have := h.h2; have := h.h5; simp; omega), ho.keeps h.res (by have := h.h1; have := h.h2; have := h.h5; simp; omega), rows_only h.own ho (by have := h.h1; have := h.h2; have := h.h3; have := h.h5; simp; omega), h.h1, h.h2, h.h3, Nat.le_trans h.h4 ho.size, h.h5, h.h6⟩
theorem RdS.set {w W : World} {p : Nat} {T : Nat → Prop} {R X B : Nat} {l : List UInt8} {bad : Bool} {cs : Array Value} {v : Value} {ns : List ByteArray} (h : RdS w W p T R X B l bad cs v ns) (j : Nat) (x : Value) : RdS w (W.setCell ⟨X, j, none⟩ x) p T R X B l bad (cs.setIfInBounds j x) v ns := by
  have o : Only [X] W (W.setCell ⟨X, j, none⟩ x) := (Only.refl _ _).setCell (by simp) _
  have a1 := h.h1; have a2 := h.h2; have a3 := h.h3; have a5 := h.h5; have a6 := h.h6
  refine ⟨h.rd.keep o (by simp; omega) (fun k hk => by have := a6 k hk; simp; omega), ?_, heap_set h.at_ j x, o.keeps h.res (by simp; omega), rows_only h.own o (by simp; omega), a1, a2, a3, by have := h.h4; have := o.size; omega, a5, a6⟩
  exact ((h.only.mono (T := [p, X]) (by simp)).trans (o.mono (by simp))).cut (by simp; omega)
theorem RdS.app {w W u : World} {p : Nat} {T : Nat → Prop} {R X B : Nat} {l : List UInt8} {bad : Bool} {cs : Array Value} {v v' : Value} {ns ns' : List ByteArray} (h : RdS w W p T R X B l bad cs v ns) (hb : Below B W u) (ho : OwnS u B 9 v' ns') : RdS w u p T R X B l bad cs v' ns' := by
  have a1 := h.h1; have a2 := h.h2; have a3 := h.h3; have a4 := h.h4; have a5 := h.h5; have a6 := h.h6
  refine ⟨?_, ⟨hb.os.trans h.only.os, hb.tape.trans h.only.tape, hb.output.trans h.only.output, Nat.le_trans h.only.size hb.size, fun k hk hn => (hb.block k (by omega)).trans (h.only.block k hk hn)⟩, by rw [hb.block X a3]; exact h.at_, by rw [hb.block R (by omega)]; exact h.res, ho, a1, a2, a3, Nat.le_trans a4 hb.size, a5, a6⟩
  obtain ⟨⟨ao, n, c, k1, k2, k3, k4⟩, hne⟩ := h.rd
  refine ⟨⟨ao, n, c, by rw [hb.block p (by omega)]; exact k1, ?_, k3, k4⟩, hne⟩
  refine ⟨k2.len, k2.nil, ?_⟩
  rcases k2.at_ with g3 | ⟨b, off, g4, g5⟩
  · exact .inl g3
  · have hbB : b < B := by have := a6 b (k4 _ g4); omega
    exact .inr ⟨b, off, g4, fun i hi => (World.cell?_of_block (hb.block b hbB)).trans (g5 i hi)⟩
theorem RdS.drew {w W : World} {p : Nat} {T : Nat → Prop} {R X B : Nat} {l : List UInt8} {bad : Bool} {cs : Array Value} {v : Value} {ns : List ByteArray} (h : RdS w W p T R X B l bad cs v ns) : RdS w W.drew p T R X B l bad cs v ns :=
  h.app (below_drew (Below.refl _ _) 1) h.own
theorem RdS.alloc {w W : World} {p : Nat} {T : Nat → Prop} {R X B : Nat} {l : List UInt8} {bad : Bool} {cs : Array Value} {v : Value} {ns : List ByteArray} (h : RdS w W p T R X B l bad cs v ns) (o : Obj) : RdS w (W.alloc o) p T R X B l bad cs v ns :=
  h.app ((Below.refl _ _).alloc h.h4 o) (rows_below h.own ((Below.refl _ _).alloc (Nat.le_refl _) o))
theorem RdS.cell {w W : World} {p : Nat} {T : Nat → Prop} {R X B : Nat} {l : List UInt8} {bad : Bool} {cs : Array Value} {v : Value} {ns : List ByteArray} (h : RdS w W p T R X B l bad cs v ns) (j : Nat) : W.cell? ⟨X, j, none⟩ = cs[j]? := cell_heap h.at_ j
theorem RdS.free {w W : World} {p : Nat} {T : Nat → Prop} {R X B : Nat} {l : List UInt8} {bad : Bool} {cs : Array Value} {v : Value} {ns : List ByteArray} (h : RdS w W p T R X B l bad cs v ns) (j : Nat) : W.frozen? ⟨X, j, none⟩ = false := free_heap h.at_ j

set_option maxHeartbeats 8000000 in
set_option maxRecDepth 100000 in
theorem readOne_any (p : Nat) (T : Nat → Prop) (l : List UInt8) (bad : Bool) (w : World) (h : IsR w p T l bad) (hT : ∀ k, T k → k < w.heap.size) (hl : l.length ≤ 100000000000000) :
    Calls Try.prog 26 #[.pointer (some ⟨p, 0, none⟩)] w fun e w' => ∃ v, e = .returned (aggR (rOne l bad).v v) ∧ OwnS w' w.heap.size 9 v (rOne l bad).v.names ∧ (rOne l bad).v.names.length ≤ 500 ∧ IsR w' p T (rOne l bad).l (rOne l bad).bad ∧ Only [p] w w' := by
  have hp : p < w.heap.size := by
    obtain ⟨⟨ao, n, c, h1, _⟩, _⟩ := h
    exact lt_of_heap h1
  have HL0 := hl
  go_enter Try.func26, Try.ntmps26
  go_wp2_with fail
  have hb0 : Below w.heap.size w (w.alloc (.cells #[.int .i64 0, .string ⟨#[]⟩, .string ⟨#[]⟩, .slice none 0 0, .int .i64 0, .int .i64 0, .int .i64 0, .int .i64 0, .int .i64 0, .int .i64 0, .int .i64 0] 35)) := (Below.refl _ _).alloc (Nat.le_refl _) _
  have hz0 : (w.alloc (.cells #[.int .i64 0, .string ⟨#[]⟩, .string ⟨#[]⟩, .slice none 0 0, .int .i64 0, .int .i64 0, .int .i64 0, .int .i64 0, .int .i64 0, .int .i64 0, .int .i64 0] 35)).heap[w.heap.size]? = some (.cells #[.int .i64 0, .string ⟨#[]⟩, .string ⟨#[]⟩, .slice none 0 0, .int .i64 0, .int .i64 0, .int .i64 0, .int .i64 0, .int .i64 0, .int .i64 0, .int .i64 0] 35 (0, 0)) := heap_new _ _
  have hr0 := h.only hb0
  generalize (w.alloc (.cells #[.int .i64 0, .string ⟨#[]⟩, .string ⟨#[]⟩, .slice none 0 0, .int .i64 0, .int .i64 0, .int .i64 0, .int .i64 0, .int .i64 0, .int .i64 0, .int .i64 0] 35)) = w0 at *
  refine (rdI64_any p l bad w0 hr0 (by omega)).mono ?_
  rintro e u1 ⟨rfl, hr1, ho1⟩
  have hz1 := ho1.keeps hz0 (by simp; omega)
  have hl1 := Nat.le_trans (rI_len l bad) HL0
  generalize hE1 : rI l bad = e1 at *
  have HE1 := Lib.hid hE1
  have HL1 : e1.l.length ≤ 100000000000000 := hl1
  have hlt : w.heap.size < u1.heap.size := lt_of_heap hz1
  have hs1 : RdS w (u1.alloc (.cells #[.int .i64 e1.v, .string ⟨#[]⟩, .string ⟨#[]⟩, .slice none 0 0, .int .i64 0, .int .i64 0, .int .i64 0, .int .i64 0, .int .i64 0, .int .i64 0, .int .i64 0] 35)) p T w.heap.size u1.heap.size (u1.heap.size + 1) e1.l e1.bad #[.int .i64 e1.v, .string ⟨#[]⟩, .string ⟨#[]⟩, .slice none 0 0, .int .i64 0, .int .i64 0, .int .i64 0, .int .i64 0, .int .i64 0, .int .i64 0, .int .i64 0] (.slice none 0 0) [] :=
    ⟨hr1.only ((Below.refl _ _).alloc (Nat.le_refl _) _), ((Only.ofBelow hb0 [p]).trans ho1).alloc _, heap_new _ _, heap_old hz1 _, OwnS.nil _ _ _, Nat.le_refl _, hlt, Nat.lt_succ_self _, by simp, hp, hT⟩
  have HS1 := Lib.hid hs1
  clear hs1 hE1 hz1 hr1 ho1 hz0 hr0 hb0 h hl1
  go_wp2_with fail
  generalize u1.heap.size = X at *
  generalize (u1.alloc (.cells #[.int .i64 e1.v, .string ⟨#[]⟩, .string ⟨#[]⟩, .slice none 0 0, .int .i64 0, .int .i64 0, .int .i64 0, .int .i64 0, .int .i64 0, .int .i64 0, .int .i64 0] 35)) = u1 at *
  have hXB : X < X + 1 := Nat.lt_succ_self _
  generalize X + 1 = B at *
  refine (rdText_any p e1.l e1.bad 20000 _ HS1.out.rd (by omega)).mono ?_
  rintro e u2 ⟨rfl, hr2, ho2⟩
  have hs2 := HS1.out.read hr2 ho2
  generalize hE2 : rT e1.l e1.bad 20000 = e2 at *
  have HE2 := Lib.hid hE2
  have HL2 : e2.l.length ≤ 100000000000000 := by rw [← hE2]; exact Nat.le_trans (rT_len _ _ _) HL1
  clear hr2 ho2 hE2
  have hf2 := hs2.free 1
  have hq2 : u2.cell? ⟨X, 1, none⟩ = some (.string ⟨#[]⟩) := hs2.cell 1
  have ht2 : RdS w (u2.setCell ⟨X, 1, none⟩ (.string e2.v)) p T w.heap.size X B e2.l e2.bad #[.int .i64 e1.v, .string e2.v, .string ⟨#[]⟩, .slice none 0 0, .int .i64 0, .int .i64 0, .int .i64 0, .int .i64 0, .int .i64 0, .int .i64 0, .int .i64 0] _ _ := hs2.set 1 (.string e2.v)
  have HT2 := Lib.hid ht2
  clear hs2 ht2
  go_wp2_with fail
  clear hf2 hq2
  have HS2 := HT2
  refine (rdText_any p e2.l e2.bad 20000 _ HS2.out.rd (by omega)).mono ?_
  rintro e u3 ⟨rfl, hr3, ho3⟩
  have hs3 := HS2.out.read hr3 ho3
  generalize hE3 : rT e2.l e2.bad 20000 = e3 at *
  have HE3 := Lib.hid hE3
  have HL3 : e3.l.length ≤ 100000000000000 := by rw [← hE3]; exact Nat.le_trans (rT_len _ _ _) HL2
  clear hr3 ho3 hE3
  have hf3 := hs3.free 2
  have hq3 : u3.cell? ⟨X, 2, none⟩ = some (.string ⟨#[]⟩) := hs3.cell 2
  have ht3 : RdS w (u3.setCell ⟨X, 2, none⟩ (.string e3.v)) p T w.heap.size X B e3.l e3.bad #[.int .i64 e1.v, .string e2.v, .string e3.v, .slice none 0 0, .int .i64 0, .int .i64 0, .int .i64 0, .int .i64 0, .int .i64 0, .int .i64 0, .int .i64 0] _ _ := hs3.set 2 (.string e3.v)
  have HT3 := Lib.hid ht3
  clear hs3 ht3
  go_wp2_with fail
  clear hf3 hq3
  have HS3 := HT3
  refine (rdCount_any p e3.l e3.bad 500 _ HS3.out.rd (by omega)).mono ?_
  rintro e u4 ⟨rfl, hr4, ho4⟩
  have hs4 := HS3.out.read hr4 ho4
  have hk0 := rC_pos e3.l e3.bad 500
  have hk5 : (rC e3.l e3.bad 500).v ≤ 500 := by unfold rC; split <;> first | omega | (show (0 : Int) ≤ 500; omega)
  generalize hE4 : rC e3.l e3.bad 500 = e4 at *
  have HE4 := Lib.hid hE4
  have HL4 : e4.l.length ≤ 100000000000000 := by rw [← hE4]; exact Nat.le_trans (rC_len _ _ _) HL3
  obtain ⟨kk, hkk⟩ := Int.eq_ofNat_of_zero_le hk0
  rw [hkk] at hk5
  have HS4 := Lib.hid hs4
  have HKK := Lib.hid hkk
  rw [hkk]
  clear hr4 ho4 hE4 hs4 hk0 hkk
  go_wp2_with fail
  go_loopw [15] (fun i wr => ∃ k : Nat, k ≤ kk ∧ i = .int .i64 (k : Int) ∧ ∃ a c, RdS w wr p T w.heap.size X B (rTs k e4.l e4.bad).l (rTs k e4.l e4.bad).bad #[.int .i64 e1.v, .string e2.v, .string e3.v, .slice a k c, .int .i64 0, .int .i64 0, .int .i64 0, .int .i64 0, .int .i64 0, .int .i64 0, .int .i64 0] (.slice a k c) (rTs k e4.l e4.bad).v) (fun i _ => kk - (intOf i).toNat)
  case atStart => exact ⟨0, by omega, rfl, none, 0, HS4.out⟩
  case round =>
    obtain ⟨k, hk, rfl, ga, gc, hst⟩ := hrel
    have HST := Lib.hid hst; clear hst
    by_cases hlt : k < kk
    · have hc3 : wr.cell? ⟨X, 3, none⟩ = some (.slice ga k gc) := HST.out.cell 3
      have hlen := (rTs_len k e4.l e4.bad).1
      have HTS := Lib.hid (show (rTs (k + 1) e4.l e4.bad) = _ from rfl)
      have HV := Lib.hid (rTs_len k e4.l e4.bad).2
      have HTE := Lib.hid (show rTs (k + 1) e4.l e4.bad = ⟨(rTs k e4.l e4.bad).v ++ [(rT (rTs k e4.l e4.bad).l (rTs k e4.l e4.bad).bad 20000).v], (rT (rTs k e4.l e4.bad).l (rTs k e4.l e4.bad).bad 20000).l, (rT (rTs k e4.l e4.bad).l (rTs k e4.l e4.bad).bad 20000).bad⟩ from rfl)
      clear HTS
      generalize rTs k e4.l e4.bad = t at *
      go_wp2_with fail
      go_region_law (first
        | (go_simp; go_at_call 40; go_must (refine (rdText_any p t.l t.bad 20000 _ (by exact HST.out.drew.rd) (by omega)).mono ?_); rintro e u5 ⟨rfl, hr5, ho5⟩; have hs5 := HST.out.drew.read hr5 ho5; have HS5 := Lib.hid hs5; clear hr5 ho5; have hc53 : u5.cell? ⟨X, 3, none⟩ = some (.slice ga k gc) := hs5.cell 3; have hca3 : ∀ o : Obj, (u5.alloc o).cell? ⟨X, 3, none⟩ = some (.slice ga k gc) := fun o => (hs5.alloc o).cell 3; have hY := Lib.hid (show rT t.l t.bad 20000 = _ from rfl); clear hs5)
        | (refine wanted_step rfl (wp_append_text (.tmp 18) (.tmp 21) rfl B (.slice ga k gc) t.v (by rfl) (by exact (HS5.out.alloc _).own) _ u5.heap.size (by rfl) (by rw [cell_heap (heap_new _ _)]; rfl) (by rw [HV.out]; omega) (by exact (HS5.out.alloc _).h4) ?_); intro a6 c6 u6 ho6 hb6; have hs6 := (HS5.out.alloc _).app hb6 ho6; have HS6 := Lib.hid hs6; have hc63 : u6.cell? ⟨X, 3, none⟩ = some (.slice ga k gc) := hs6.cell 3; have hf6 := hs6.free 3; clear ho6 hb6 hs6))
      all_goals
        have hS7 := HS6.out.set 3 (.slice a6 (t.v.length + 1) c6)
        rw [HV.out] at hS7
        have HS7 := Lib.hid hS7
        clear hS7 hc63 hf6 hc3 hc53 hca3
        go_wp2_with fail
        go_roundw
        case rel => exact ⟨k + 1, by omega, by go_num, _, _, by rw [HTE.out, HV.out]; exact HS7.out⟩
        case measure => simp [intOf]; omega
    · obtain rfl : k = kk := by omega
      have HV := Lib.hid (rTs_len k e4.l e4.bad).2
      have hT4 := (rTs_len k e4.l e4.bad).1
      generalize hE5 : rTs k e4.l e4.bad = e5 at *
      have HE5 := Lib.hid hE5
      have HL5 : e5.l.length ≤ 100000000000000 := Nat.le_trans hT4 HL4
      have HS5 := HST
      clear hE5 hT4 HST
      go_wp2_with fail
      refine (rdI64_any p e5.l e5.bad _ HS5.out.rd (by omega)).mono ?_
      rintro e u6 ⟨rfl, hr6, ho6⟩
      have hs6 := HS5.out.read hr6 ho6
      generalize hE6 : rI e5.l e5.bad = e6 at *
      have HE6 := Lib.hid hE6
      have HL6 : e6.l.length ≤ 100000000000000 := by rw [← hE6]; exact Nat.le_trans (rI_len _ _) HL5
      clear hr6 ho6 hE6
      have hf6 := hs6.free 4
      have hq6 : u6.cell? ⟨X, 4, none⟩ = some (.int .i64 0) := hs6.cell 4
      have ht6 : RdS w (u6.setCell ⟨X, 4, none⟩ (.int .i64 e6.v)) p T w.heap.size X B e6.l e6.bad #[.int .i64 e1.v, .string e2.v, .string e3.v, .slice ga k gc, .int .i64 e6.v, .int .i64 0, .int .i64 0, .int .i64 0, .int .i64 0, .int .i64 0, .int .i64 0] _ _ := hs6.set 4 (.int .i64 e6.v)
      have HT6 := Lib.hid ht6
      clear hs6 ht6
      go_wp2_with fail
      clear hf6 hq6
      have HS6 := HT6
      refine (rdI64_any p e6.l e6.bad _ HS6.out.rd (by omega)).mono ?_
      rintro e u7 ⟨rfl, hr7, ho7⟩
      have hs7 := HS6.out.read hr7 ho7
      generalize hE7 : rI e6.l e6.bad = e7 at *
      have HE7 := Lib.hid hE7
      have HL7 : e7.l.length ≤ 100000000000000 := by rw [← hE7]; exact Nat.le_trans (rI_len _ _) HL6
      clear hr7 ho7 hE7
      have hf7 := hs7.free 5
      have hq7 : u7.cell? ⟨X, 5, none⟩ = some (.int .i64 0) := hs7.cell 5
      have ht7 : RdS w (u7.setCell ⟨X, 5, none⟩ (.int .i64 e7.v)) p T w.heap.size X B e7.l e7.bad #[.int .i64 e1.v, .string e2.v, .string e3.v, .slice ga k gc, .int .i64 e6.v, .int .i64 e7.v, .int .i64 0, .int .i64 0, .int .i64 0, .int .i64 0, .int .i64 0] _ _ := hs7.set 5 (.int .i64 e7.v)
      have HT7 := Lib.hid ht7
      clear hs7 ht7
      go_wp2_with fail
      clear hf7 hq7
      have HS7 := HT7
      refine (rdI64_any p e7.l e7.bad _ HS7.out.rd (by omega)).mono ?_
      rintro e u8 ⟨rfl, hr8, ho8⟩
      have hs8 := HS7.out.read hr8 ho8
      generalize hE8 : rI e7.l e7.bad = e8 at *
      have HE8 := Lib.hid hE8
      have HL8 : e8.l.length ≤ 100000000000000 := by rw [← hE8]; exact Nat.le_trans (rI_len _ _) HL7
      clear hr8 ho8 hE8
      have hf8 := hs8.free 6
      have hq8 : u8.cell? ⟨X, 6, none⟩ = some (.int .i64 0) := hs8.cell 6
      have ht8 : RdS w (u8.setCell ⟨X, 6, none⟩ (.int .i64 e8.v)) p T w.heap.size X B e8.l e8.bad #[.int .i64 e1.v, .string e2.v, .string e3.v, .slice ga k gc, .int .i64 e6.v, .int .i64 e7.v, .int .i64 e8.v, .int .i64 0, .int .i64 0, .int .i64 0, .int .i64 0] _ _ := hs8.set 6 (.int .i64 e8.v)
      have HT8 := Lib.hid ht8
      clear hs8 ht8
      go_wp2_with fail
      clear hf8 hq8
      have HS8 := HT8
      refine (rdI64_any p e8.l e8.bad _ HS8.out.rd (by omega)).mono ?_
      rintro e u9 ⟨rfl, hr9, ho9⟩
      have hs9 := HS8.out.read hr9 ho9
      generalize hE9 : rI e8.l e8.bad = e9 at *
      have HE9 := Lib.hid hE9
      have HL9 : e9.l.length ≤ 100000000000000 := by rw [← hE9]; exact Nat.le_trans (rI_len _ _) HL8
      clear hr9 ho9 hE9
      have hf9 := hs9.free 7
      have hq9 : u9.cell? ⟨X, 7, none⟩ = some (.int .i64 0) := hs9.cell 7
      have ht9 : RdS w (u9.setCell ⟨X, 7, none⟩ (.int .i64 e9.v)) p T w.heap.size X B e9.l e9.bad #[.int .i64 e1.v, .string e2.v, .string e3.v, .slice ga k gc, .int .i64 e6.v, .int .i64 e7.v, .int .i64 e8.v, .int .i64 e9.v, .int .i64 0, .int .i64 0, .int .i64 0] _ _ := hs9.set 7 (.int .i64 e9.v)
      have HT9 := Lib.hid ht9
      clear hs9 ht9
      go_wp2_with fail
      clear hf9 hq9
      have HS9 := HT9
      refine (rdI64_any p e9.l e9.bad _ HS9.out.rd (by omega)).mono ?_
      rintro e u10 ⟨rfl, hr10, ho10⟩
      have hs10 := HS9.out.read hr10 ho10
      generalize hE10 : rI e9.l e9.bad = e10 at *
      have HE10 := Lib.hid hE10
      have HL10 : e10.l.length ≤ 100000000000000 := by rw [← hE10]; exact Nat.le_trans (rI_len _ _) HL9
      clear hr10 ho10 hE10
      have hf10 := hs10.free 8
      have hq10 : u10.cell? ⟨X, 8, none⟩ = some (.int .i64 0) := hs10.cell 8
      have ht10 : RdS w (u10.setCell ⟨X, 8, none⟩ (.int .i64 e10.v)) p T w.heap.size X B e10.l e10.bad #[.int .i64 e1.v, .string e2.v, .string e3.v, .slice ga k gc, .int .i64 e6.v, .int .i64 e7.v, .int .i64 e8.v, .int .i64 e9.v, .int .i64 e10.v, .int .i64 0, .int .i64 0] _ _ := hs10.set 8 (.int .i64 e10.v)
      have HT10 := Lib.hid ht10
      clear hs10 ht10
      go_wp2_with fail
      clear hf10 hq10
      have HS10 := HT10
      refine (rdI64_any p e10.l e10.bad _ HS10.out.rd (by omega)).mono ?_
      rintro e u11 ⟨rfl, hr11, ho11⟩
      have hs11 := HS10.out.read hr11 ho11
      generalize hE11 : rI e10.l e10.bad = e11 at *
      have HE11 := Lib.hid hE11
      have HL11 : e11.l.length ≤ 100000000000000 := by rw [← hE11]; exact Nat.le_trans (rI_len _ _) HL10
      clear hr11 ho11 hE11
      have hf11 := hs11.free 9
      have hq11 : u11.cell? ⟨X, 9, none⟩ = some (.int .i64 0) := hs11.cell 9
      have ht11 : RdS w (u11.setCell ⟨X, 9, none⟩ (.int .i64 e11.v)) p T w.heap.size X B e11.l e11.bad #[.int .i64 e1.v, .string e2.v, .string e3.v, .slice ga k gc, .int .i64 e6.v, .int .i64 e7.v, .int .i64 e8.v, .int .i64 e9.v, .int .i64 e10.v, .int .i64 e11.v, .int .i64 0] _ _ := hs11.set 9 (.int .i64 e11.v)
      have HT11 := Lib.hid ht11
      clear hs11 ht11
      go_wp2_with fail
      clear hf11 hq11
      have HS11 := HT11
      refine (rdI64_any p e11.l e11.bad _ HS11.out.rd (by omega)).mono ?_
      rintro e u12 ⟨rfl, hr12, ho12⟩
      have hs12 := HS11.out.read hr12 ho12
      generalize hE12 : rI e11.l e11.bad = e12 at *
      have HE12 := Lib.hid hE12
      have HL12 : e12.l.length ≤ 100000000000000 := by rw [← hE12]; exact Nat.le_trans (rI_len _ _) HL11
      clear hr12 ho12 hE12
      have hf12 := hs12.free 10
      have hq12 : u12.cell? ⟨X, 10, none⟩ = some (.int .i64 0) := hs12.cell 10
      have ht12 : RdS w (u12.setCell ⟨X, 10, none⟩ (.int .i64 e12.v)) p T w.heap.size X B e12.l e12.bad #[.int .i64 e1.v, .string e2.v, .string e3.v, .slice ga k gc, .int .i64 e6.v, .int .i64 e7.v, .int .i64 e8.v, .int .i64 e9.v, .int .i64 e10.v, .int .i64 e11.v, .int .i64 e12.v] _ _ := hs12.set 10 (.int .i64 e12.v)
      have HT12 := Lib.hid ht12
      clear hs12 ht12
      go_wp2_with (first
        | (refine wpList_load_row rfl 35 (.tmp 3) rfl X rfl 35 #[.int .i64 e1.v, .string e2.v, .string e3.v, .slice ga k gc, .int .i64 e6.v, .int .i64 e7.v, .int .i64 e8.v, .int .i64 e9.v, .int .i64 e10.v, .int .i64 e11.v, .int .i64 e12.v] (0, 0) _ HT12.out.at_ Try.underlying35 rfl size35 ?_)
        | (refine wpList_store_row rfl 35 (.tmp 2) (.tmp 53) rfl w.heap.size #[.int .i64 e1.v, .string e2.v, .string e3.v, .slice ga k gc, .int .i64 e6.v, .int .i64 e7.v, .int .i64 e8.v, .int .i64 e9.v, .int .i64 e10.v, .int .i64 e11.v, .int .i64 e12.v] rfl rfl 35 _ HT12.out.res size35 rfl (ones_arr (fun v hv => cellsR_ones ⟨e1.v, e2.v, e3.v, [], e6.v, e7.v, e8.v, e9.v, e10.v, e11.v, e12.v⟩ ga k gc v hv)) ?_))
      generalize (u12.setCell ⟨X, 10, none⟩ (.int .i64 e12.v)) = W at *
      clear hf12 hq12
      have hon : Only [w.heap.size] W (W.setRow w.heap.size #[.int .i64 e1.v, .string e2.v, .string e3.v, .slice ga k gc, .int .i64 e6.v, .int .i64 e7.v, .int .i64 e8.v, .int .i64 e9.v, .int .i64 e10.v, .int .i64 e11.v, .int .i64 e12.v]) := ⟨rfl, rfl, rfl, by simp, fun k _ hk => setRow_other _ _ _ _ (by simpa using hk)⟩
      have HON := Lib.hid hon; clear hon
      have HHP := Lib.hid (setRow_heap W w.heap.size _ #[.int .i64 e1.v, .string e2.v, .string e3.v, .slice ga k gc, .int .i64 e6.v, .int .i64 e7.v, .int .i64 e8.v, .int .i64 e9.v, .int .i64 e10.v, .int .i64 e11.v, .int .i64 e12.v] 35 (0, 0) HT12.out.res)
      (try simp only [Exit.inBlock, Exit.then])
      have hres : rOne l bad = ⟨⟨e1.v, e2.v, e3.v, e5.v, e6.v, e7.v, e8.v, e9.v, e10.v, e11.v, e12.v⟩, e12.l, e12.bad⟩ := by
        simp only [rOne, r7, HE1.out, HE2.out, HE3.out, HE4.out, HKK.out, Int.toNat_natCast, HE5.out, HE6.out, HE7.out, HE8.out, HE9.out, HE10.out, HE11.out, HE12.out]
      have hR := HT12.out.h1; have hX := HT12.out.h2; have hB := HT12.out.h3
      refine bodyPost_ret (results_cell_row (P := Try.prog) (fn := Try.f26) rfl _ _ w.heap.size 35 #[.int .i64 e1.v, .string e2.v, .string e3.v, .slice ga k gc, .int .i64 e6.v, .int .i64 e7.v, .int .i64 e8.v, .int .i64 e9.v, .int .i64 e10.v, .int .i64 e11.v, .int .i64 e12.v] (0, 0) _ rfl HHP.out Try.underlying35 rfl size35) rfl ?_
      rw [hres]
      refine ⟨_, rfl, (rows_only HT12.out.own HON.out (by simp; omega) |> fun h => rows_mono h (by omega)), by rw [HV.out]; omega, HT12.out.rd.keep HON.out (by simp; omega) (fun k hk => by have := hT k hk; simp; omega), ?_⟩
      exact ((HT12.out.only.mono (T := [p, w.heap.size]) (by simp)).trans (HON.out.mono (by simp))).cut (by simp)
end Go.Proofs.Ytpikdeikcmdcmaa
