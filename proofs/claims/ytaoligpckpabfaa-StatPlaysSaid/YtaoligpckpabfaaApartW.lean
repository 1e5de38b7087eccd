/-
  StatApart's walk. No condition.
-/
import Derived.Test.YtaoligpckpabfaaKnownW
import Derived.Deep.RegionHeld3
namespace Go.Proofs.Ytaoligpckpabfaa
open Go.RowKit
def doAs (s : Nd) (l : List Ac) : Nd := l.foldl doA s
theorem Made.le {s : Nd} {k j : Nat} (h : Made s k) (hk : k ≤ j) : Made s j := by
  have h1 := h.version; have h2 := h.kids; have h3 := h.next; have hl := h.len
  exact ⟨h.ris, by omega, h.each, by omega, by omega, by omega, h.length, h.count, h.data, h.made, h.changed, h.owner⟩
theorem take_oneA (l : List Ac) (k : Nat) (h : k < l.length) : l.take (k + 1) = l.take k ++ [getA l k] := by
  rw [List.take_succ_eq_append_getElem h]
  simp [getA, h]
theorem doAs_take (s : Nd) (l : List Ac) (k : Nat) (h : k < l.length) : doAs s (l.take (k + 1)) = doA (doAs s (l.take k)) (getA l k) := by
  rw [take_oneA l k h]; simp [doAs]
theorem doAs_over (s : Nd) (l : List Ac) (k : Nat) (h : l.length ≤ k) : doAs s (l.take (k + 1)) = doAs s (l.take k) := by
  rw [List.take_of_length_le (by omega), List.take_of_length_le (by omega)]
theorem load27 {o : Oper} {a : Act} {w : World} (x : Operand) (ho : o.op = .load 27 x) (g : Nat) (hx : a.eval x = .pointer (some ⟨g, 0, none⟩)) (cs : Array Value) (hg : w.heap[g]? = some (.cells cs 27 (0, 0))) (hn : cs.size = 10) :
    (execOp a.eval o).run Try.prog w = .ok (.value (.agg cs)) w := by
  unfold execOp
  simp only [ho, hx, Instr.loadAt, Instr.sureAddr, Sem.run_bind, Sem.run_pure, Result.andThen_ok, run_loadVar_row w g 27 27 cs (0, 0) _ hg Try.underlying27 rfl (by rw [hn]; exact size27)]
/-- two acts' turns, as a law -/
structure Two (W wr : World) (A : List Nat) (a b : Nat) (s t : Nd) (k : Nat) : Prop where
  n1 : IsNd wr A a s
  n2 : IsNd wr A b t
  m1 : Made s k
  m2 : Made t k
  bl : Below W.heap.size W wr
  all : ∀ x ∈ A, W.heap.size ≤ x ∧ x < wr.heap.size
  ne : a ≠ b
theorem Two.one {W wr w' : World} {A : List Nat} {a b : Nat} {s t s' : Nd} {k : Nat} (h : Two W wr A a b s t k) (h1 : IsNd w' A a s') (ho : Only [a] wr w') (hm : Made s' (k + 1)) (hb : Made t (k + 1)) : Two W w' A a b s' t (k + 1) :=
  ⟨h1, h.n2.keep ho (by simpa using fun e => h.ne e.symm) (by simpa using h.n1.mem), hm, hb, below_of_only h.bl ho (h.all a h.n1.mem).1 (Nat.le_refl _), fun x hx => ⟨(h.all x hx).1, Nat.lt_of_lt_of_le (h.all x hx).2 ho.size⟩, h.ne⟩
theorem Two.two {W wr w' : World} {A : List Nat} {a b : Nat} {s t t' : Nd} {k : Nat} (h : Two W wr A a b s t k) (h2 : IsNd w' A b t') (ho : Only [b] wr w') (hm : Made t' k) : Two W w' A a b s t' k :=
  ⟨h.n1.keep ho (by simpa using h.ne) (by simpa using h.n2.mem), h2, h.m1, hm, below_of_only h.bl ho (h.all b h.n2.mem).1 (Nat.le_refl _), fun x hx => ⟨(h.all x hx).1, Nat.lt_of_lt_of_le (h.all x hx).2 ho.size⟩, h.ne⟩
theorem Two.next {W wr : World} {A : List Nat} {a b : Nat} {s t : Nd} {k : Nat} (h : Two W wr A a b s t k) : Two W wr A a b s t (k + 1) :=
  ⟨h.n1, h.n2, h.m1.le (by omega), h.m2.le (by omega), h.bl, h.all, h.ne⟩
theorem Two.turn1 {W wr : World} {A : List Nat} {a b : Nat} {s t : Nd} {k : Nat} (h : Two W wr A a b s t k) (hk : k ≤ 1000) (x : Ac) (hx : x.s.size ≤ 40) (hn : I64 x.n) :
    Calls Try.prog 22 #[.pointer (some ⟨a, 0, none⟩), aggA x] wr fun e w' => e = .returned (.tuple #[]) ∧ Two W w' A a b (doA s x) t (k + 1) := by
  refine (turn_any A a s k x wr h.n1 h.m1 hk (fun b hb => (h.all b hb).2)).mono ?_
  rintro e w' ⟨rfl, hi, ho⟩
  exact ⟨rfl, h.one hi ho (made_do h.m1 hk x hx hn) (h.m2.le (by omega))⟩
theorem Two.turn2 {W wr : World} {A : List Nat} {a b : Nat} {s t t0 : Nd} {k : Nat} (h : Two W wr A a b s t (k + 1)) (hm : Made t k) (hk : k ≤ 1000) (x : Ac) (hx : x.s.size ≤ 40) (hn : I64 x.n) :
    Calls Try.prog 22 #[.pointer (some ⟨b, 0, none⟩), aggA x] wr fun e w' => e = .returned (.tuple #[]) ∧ Two W w' A a b s (doA t x) (k + 1) := by
  refine (turn_any A b t k x wr h.n2 hm hk (fun b hb => (h.all b hb).2)).mono ?_
  rintro e w' ⟨rfl, hi, ho⟩
  exact ⟨rfl, h.two hi ho (made_do hm hk x hx hn)⟩
/-- the third node, beside the two -/
structure Thr (W wr : World) (A : List Nat) (a b g : Nat) (s t u : Nd) (k : Nat) : Prop where
  n1 : IsNd wr A a s
  n2 : IsNd wr A b t
  n3 : IsNd wr A g u
  m3 : Made u k
  bl : Below W.heap.size W wr
  all : ∀ x ∈ A, W.heap.size ≤ x ∧ x < wr.heap.size
  ne : a ≠ g ∧ b ≠ g
theorem Thr.turn {W wr : World} {A : List Nat} {a b g : Nat} {s t u : Nd} {k : Nat} (h : Thr W wr A a b g s t u k) (hk : k ≤ 1000) (x : Ac) (hx : x.s.size ≤ 40) (hn : I64 x.n) :
    Calls Try.prog 22 #[.pointer (some ⟨g, 0, none⟩), aggA x] wr fun e w' => e = .returned (.tuple #[]) ∧ Thr W w' A a b g s t (doA u x) (k + 1) := by
  refine (turn_any A g u k x wr h.n3 h.m3 hk (fun b hb => (h.all b hb).2)).mono ?_
  rintro e w' ⟨rfl, hi, ho⟩
  exact ⟨rfl, ⟨h.n1.keep ho (by simpa using h.ne.1) (by simpa using h.n3.mem), h.n2.keep ho (by simpa using h.ne.2) (by simpa using h.n3.mem), hi, made_do h.m3 hk x hx hn, below_of_only h.bl ho (h.all g h.n3.mem).1 (Nat.le_refl _), fun x hx => ⟨(h.all x hx).1, Nat.lt_of_lt_of_le (h.all x hx).2 ho.size⟩, h.ne⟩⟩
theorem IsNd.row_of {w : World} {A : List Nat} {a : Nat} {s : Nd} (h : IsNd w A a s) : ∃ o c, Hid (∀ w', Below w.heap.size w w' → w'.heap[a]? = some (.cells (cellsN s (.slice o s.names.length c)) 27 (0, 0))) ∧ Hid (∀ w', Below w.heap.size w w' → IsS w' o s.names.length c s.names) := by
  obtain ⟨⟨ao, n, c, h1, h2, h3, h4⟩, h5⟩ := h
  obtain rfl : s.names.length = n := h2.len
  exact ⟨ao, c, Lib.hid fun w' hb => (hb.block a (lt_of_heap h1)).trans h1, Lib.hid fun w' hb => h2.below hb⟩
theorem same_on {U : World} {s t : Nd} {o o2 : Option Addr} {c c2 : Nat} (h1 : Hid (∀ w', Below U.heap.size U w' → IsS w' o s.names.length c s.names)) (h2 : Hid (∀ w', Below U.heap.size U w' → IsS w' o2 t.names.length c2 t.names)) (b1 : s.names.length ≤ 1000) (b2 : t.names.length ≤ 1000) {bb : Bool} (hb : decide (s = t) = bb) :
    ∀ W', Below U.heap.size U W' → Calls Try.prog 23 #[aggN s (.slice o s.names.length c), aggN t (.slice o2 t.names.length c2)] W' fun e w' => e = .returned (.bool bb) ∧ Below U.heap.size U w' ∧ Below W'.heap.size W' w' := by
  intro W' hW
  refine (same23_any s t o s.names.length c o2 t.names.length c2 W' (h1.out W' hW) (h2.out W' hW) (by omega) (by omega)).mono ?_
  rintro e w' ⟨rfl, hb'⟩
  exact ⟨by rw [hb], hW.trans (hb'.mono hW.size), hb'⟩
theorem put_on {U : World} {s : Nd} {o : Option Addr} {c : Nat} (h1 : Hid (∀ w', Below U.heap.size U w' → IsS w' o s.names.length c s.names)) (hf : FitN s) {X : ByteArray} (hX : strB (putN s) = X) :
    ∀ W', Below U.heap.size U W' → Calls Try.prog 24 #[aggN s (.slice o s.names.length c)] W' fun e w' => ∃ a n c, e = .returned (.slice a n c) ∧ (∀ u, Below w'.heap.size w' u → (convert 48 9 (.slice a n c)).run Try.prog u = .ok (.string X) u) ∧ Below U.heap.size U w' ∧ Below W'.heap.size W' w' := by
  intro W' hW
  refine (put_any s o s.names.length c W' (h1.out W' hW) hf).mono ?_
  rintro e w' ⟨a, n, c, rfl, hw, hb⟩
  exact ⟨a, n, c, rfl, fun u hu => by rw [← hX]; exact conv_any u a n c _ (hw.is.below hu), hW.trans (hb.mono hW.size), hb⟩
theorem strB_inj {l m : List UInt8} (h : strB l = strB m) : l = m := by
  unfold strB at h
  have := congrArg (fun x : ByteArray => x.data.toList) h
  simpa using this
theorem bytes_eq {s t : Nd} {k j : Nat} (h : Made s k) (g : Made t j) (hk : k ≤ 500) (hj : j ≤ 500) : ((strB (putN s)).toList == (strB (putN t)).toList) = decide (s = t) := by
  by_cases he : s = t
  · subst he; simp
  · rw [decide_eq_false he]
    simpa using fun e => he (put_inj h g hk hj (strB_inj (toList_inj e)))
set_option maxHeartbeats 16000000 in
set_option maxRecDepth 100000 in
theorem apart_walk (ao : Option Addr) (n c : Nat) (l : List Ac) (bo : Option Addr) (q c2 : Nat) (m : List Ac) (W : World) (h : IsActs W ao n l) (h2 : IsActs W bo q m) :
    Calls Try.prog 6 #[.slice ao n c, .slice bo q c2] W fun e w' => e = .returned (.bool true) ∧ Below W.heap.size W w' := by
  by_cases hn : 20 < n
  · have g0 : decide (20 < (n : Int)) = true := by simp; omega
    go_enter Try.func6, Try.ntmps6
    go_wp2_with fail
    refine (awake_any _).mono ?_
    rintro e w1 ⟨rfl, hb1⟩
    go_wp2_with fail
    go_ret
    exact ⟨rfl, hb1⟩
  · have g0 : decide (20 < (n : Int)) = false := by simp; omega
    by_cases hq : 20 < q
    · have g1 : decide (20 < (q : Int)) = true := by simp; omega
      clear hn
      go_enter Try.func6, Try.ntmps6
      go_wp2_with fail
      refine (awake_any _).mono ?_
      rintro e w1 ⟨rfl, hb1⟩
      go_wp2_with fail
      go_ret
      exact ⟨rfl, hb1⟩
    · have g1 : decide (20 < (q : Int)) = false := by simp; omega
      have H := Lib.hid h
      have H2 := Lib.hid h2
      have HN := Lib.hid hn
      have HQ := Lib.hid hq
      clear h h2 hn hq
      go_enter Try.func6, Try.ntmps6
      go_wp2_with fail
      refine (awake_any _).mono ?_
      rintro e w1 ⟨rfl, hb1⟩
      go_wp2_with fail
      clear g0 g1
      refine (new_any _ _ _ _).mono ?_
      rintro e w2 ⟨rfl, hb2⟩
      rw [show aggN (newZ 1 0 ⟨#[]⟩) (.slice none 0 0) = .agg #[.int .i64 1, .int .i64 1, .int .i64 0, .int .i64 0, .int .i64 0, .int .i64 0, .int .i64 0, .string ⟨#[]⟩, .int .i64 0, .slice none 0 0] from rfl]
      go_wp2_with fail
      refine (new_any _ _ _ _).mono ?_
      rintro e w3 ⟨rfl, hb3⟩
      rw [show aggN (newZ 1 0 ⟨#[]⟩) (.slice none 0 0) = .agg #[.int .i64 1, .int .i64 1, .int .i64 0, .int .i64 0, .int .i64 0, .int .i64 0, .int .i64 0, .string ⟨#[]⟩, .int .i64 0, .slice none 0 0] from rfl]
      have hb13 := (hb1.trans (hb2.mono hb1.size)).trans (hb3.mono (hb1.trans (hb2.mono hb1.size)).size)
      have HT : Hid (Two W ((w3.alloc (.cells #[.int .i64 1, .int .i64 1, .int .i64 0, .int .i64 0, .int .i64 0, .int .i64 0, .int .i64 0, .string ⟨#[]⟩, .int .i64 0, .slice none 0 0] 27)).alloc (.cells #[.int .i64 1, .int .i64 1, .int .i64 0, .int .i64 0, .int .i64 0, .int .i64 0, .int .i64 0, .string ⟨#[]⟩, .int .i64 0, .slice none 0 0] 27)) [w3.heap.size + 1, w3.heap.size] w3.heap.size (w3.heap.size + 1) (newZ 1 0 ⟨#[]⟩) (newZ 1 0 ⟨#[]⟩) 0) := Lib.hid
        ⟨(isNd_new w3 1 0 ⟨#[]⟩ _ _ rfl (by simp)).below ((Below.refl _ _).alloc (Nat.le_refl _) _), isNd_new (w3.alloc (.cells #[.int .i64 1, .int .i64 1, .int .i64 0, .int .i64 0, .int .i64 0, .int .i64 0, .int .i64 0, .string ⟨#[]⟩, .int .i64 0, .slice none 0 0] 27)) 1 0 ⟨#[]⟩ _ _ (by simp) (by simp), made_new (by unfold I64; omega) (by unfold I64; omega) (by decide), made_new (by unfold I64; omega) (by unfold I64; omega) (by decide),
          hb13.trans ((below_two _ _ _).mono hb13.size), fun x hx => by have := hb13.size; simp at hx; simp; omega, by omega⟩
      clear hb1 hb2 hb3 hb13
      go_wp2_with fail
      generalize w3.heap.size + 1 = b at *
      generalize w3.heap.size = a at *
      generalize World.alloc (World.alloc w3 _) _ = w4 at *
      generalize hs0 : newZ 1 0 ⟨#[]⟩ = s0 at *
      have HS0 := Lib.hid hs0
      clear hs0
      have HLn := Lib.hid H.out.len
      have HLq := Lib.hid H2.out.len
      have hn20 := HN.out
      have hq20 := HQ.out
      go_loopw [7] (fun i wr => ∃ k : Nat, k ≤ 20 ∧ i = .int .i64 (k : Int) ∧ Two W wr [b, a] a b (doAs s0 (l.take k)) (doAs s0 (m.take k)) k ∧ ∀ j, j < k → j < n → (getA l j).s.size ≤ 40) (fun i _ => 20 - (intOf i).toNat)
      case atStart => exact ⟨0, by omega, rfl, HT.out, fun j hj => by omega⟩
      case round =>
        obtain ⟨k, hk, rfl, ht, hzz⟩ := hrel
        have HT1 := Lib.hid ht; clear ht HT
        have HZ := Lib.hid hzz; clear hzz
        by_cases hlt : k < 20
        · have hk20 : decide ((k : Int) < 20) = true := by simp; omega
          by_cases hn2 : k < n
          · obtain ⟨xb, xo, rfl, hx0, hx1, hx2, hokx⟩ := act_cells H.out hn2
            have c0 := cell_later HT1.out.bl hx0
            have c1 := cell_later HT1.out.bl hx1
            have c2' := cell_later HT1.out.bl hx2
            have HDA := Lib.hid (doAs_take s0 l k (by rw [HLn.out]; omega))
            have HTU := Lib.hid (fun (hs : (getA l k).s.size ≤ 40) => HT1.out.turn1 (by omega) (getA l k) hs hokx.2)
            have HM2 := Lib.hid HT1.out.m2
            clear hx0 hx1 hx2 hokx
            generalize hxe : getA l k = x at *
            have HXE := Lib.hid hxe; clear hxe
            cases x with
            | mk xop xn xs =>
            simp only [aggA] at *
            by_cases hxs : 40 < xs.size
            · have g3 : decide (40 < (xs.size : Int)) = true := by simp; omega
              go_wp2_with fail
              go_ret
              exact ⟨rfl, HT1.out.bl⟩
            · have g3 : decide (40 < (xs.size : Int)) = false := by simp; omega
              have HZ2 : Hid (∀ j, j < k + 1 → j < n → (getA l j).s.size ≤ 40) := Lib.hid (fun j hj hjn => by
                by_cases hjk : j = k
                · subst hjk; rw [HXE.out]; show xs.size ≤ 40; omega
                · exact HZ.out j (by omega) hjn)
              go_wp2_with fail
              refine (HTU.out (by omega)).mono ?_
              rintro e wx ⟨rfl, htx⟩
              have HT2 := Lib.hid htx; clear htx c0 c1 c2'
              by_cases hq2 : k < q
              · obtain ⟨yb, yo, rfl, hy0, hy1, hy2, hoky⟩ := act_cells H2.out hq2
                have d0 := cell_later HT2.out.bl hy0
                have d1 := cell_later HT2.out.bl hy1
                have d2 := cell_later HT2.out.bl hy2
                have HDB := Lib.hid (doAs_take s0 m k (by rw [HLq.out]; omega))
                have HTU2 := Lib.hid (fun (hs : (getA m k).s.size ≤ 40) => HT2.out.turn2 (t0 := s0) HM2.out (by omega) (getA m k) hs hoky.2)
                clear hy0 hy1 hy2 hoky
                generalize getA m k = y at *
                cases y with
                | mk yop yn ys =>
                simp only [aggA] at *
                by_cases hys : 40 < ys.size
                · have g4 : decide (40 < (ys.size : Int)) = true := by simp; omega
                  go_wp2_with fail
                  go_ret
                  exact ⟨rfl, HT2.out.bl⟩
                · have g4 : decide (40 < (ys.size : Int)) = false := by simp; omega
                  go_wp2_with fail
                  refine (HTU2.out (by omega)).mono ?_
                  rintro e wy ⟨rfl, hty⟩
                  have HT3 := Lib.hid hty; clear hty d0 d1 d2
                  go_wp2_with fail
                  go_roundw
                  case rel => exact ⟨k + 1, by omega, by go_num, by rw [HDA.out, HDB.out]; exact HT3.out, HZ2.out⟩
                  case measure => simp [intOf]; omega
              · have HDB := Lib.hid (doAs_over s0 m k (by rw [HLq.out]; omega))
                go_wp2_with fail
                go_roundw
                case rel => exact ⟨k + 1, by omega, by go_num, by rw [HDA.out, HDB.out]; exact HT2.out, HZ2.out⟩
                case measure => simp [intOf]; omega
          · have HDA := Lib.hid (doAs_over s0 l k (by rw [HLn.out]; omega))
            have HM2 := Lib.hid HT1.out.m2
            have HZ2 : Hid (∀ j, j < k + 1 → j < n → (getA l j).s.size ≤ 40) := Lib.hid (fun j hj hjn => HZ.out j (by omega) hjn)
            have HT2 := Lib.hid HT1.out.next
            by_cases hq2 : k < q
            · obtain ⟨yb, yo, rfl, hy0, hy1, hy2, hoky⟩ := act_cells H2.out hq2
              have d0 := cell_later HT2.out.bl hy0
              have d1 := cell_later HT2.out.bl hy1
              have d2 := cell_later HT2.out.bl hy2
              have HDB := Lib.hid (doAs_take s0 m k (by rw [HLq.out]; omega))
              have HTU2 := Lib.hid (fun (hs : (getA m k).s.size ≤ 40) => HT2.out.turn2 (t0 := s0) HM2.out (by omega) (getA m k) hs hoky.2)
              clear hy0 hy1 hy2 hoky
              generalize getA m k = y at *
              cases y with
              | mk yop yn ys =>
              simp only [aggA] at *
              by_cases hys : 40 < ys.size
              · have g4 : decide (40 < (ys.size : Int)) = true := by simp; omega
                go_wp2_with fail
                go_ret
                exact ⟨rfl, HT2.out.bl⟩
              · have g4 : decide (40 < (ys.size : Int)) = false := by simp; omega
                go_wp2_with fail
                refine (HTU2.out (by omega)).mono ?_
                rintro e wy ⟨rfl, hty⟩
                have HT3 := Lib.hid hty; clear hty d0 d1 d2
                go_wp2_with fail
                go_roundw
                case rel => exact ⟨k + 1, by omega, by go_num, by rw [HDA.out, HDB.out]; exact HT3.out, HZ2.out⟩
                case measure => simp [intOf]; omega
            · have HDB := Lib.hid (doAs_over s0 m k (by rw [HLq.out]; omega))
              go_wp2_with fail
              go_roundw
              case rel => exact ⟨k + 1, by omega, by go_num, by rw [HDA.out, HDB.out]; exact HT2.out, HZ2.out⟩
              case measure => simp [intOf]; omega
        · obtain rfl : k = 20 := by omega
          have hk20 : decide (((20 : Nat) : Int) < 20) = false := by simp
          have ht := HT1.out
          rw [List.take_of_length_le (by rw [HLn.out]; omega), List.take_of_length_le (by rw [HLq.out]; omega)] at ht
          generalize hs1 : doAs s0 l = s1 at *
          generalize hs2 : doAs s0 m = s2 at *
          have HS1 := Lib.hid hs1
          have HT2 := Lib.hid ht
          clear hs1 hs2 ht HT1
          go_wp2_with fail
          refine (new_any _ _ _ _).mono ?_
          rintro e w5 ⟨rfl, hb5⟩
          rw [show aggN (newZ 1 0 ⟨#[]⟩) (.slice none 0 0) = .agg #[.int .i64 1, .int .i64 1, .int .i64 0, .int .i64 0, .int .i64 0, .int .i64 0, .int .i64 0, .string ⟨#[]⟩, .int .i64 0, .slice none 0 0] from rfl]
          go_wp2_with fail
          have hsz5 := hb5.size
          have HT3 : Hid (Thr W (w5.alloc (.cells #[.int .i64 1, .int .i64 1, .int .i64 0, .int .i64 0, .int .i64 0, .int .i64 0, .int .i64 0, .string ⟨#[]⟩, .int .i64 0, .slice none 0 0] 27)) [w5.heap.size, b, a] a b w5.heap.size s1 s2 (doAs s0 (l.take 0)) 0) := Lib.hid (by
            have hb6 : Below w5.heap.size w5 (w5.alloc (.cells #[.int .i64 1, .int .i64 1, .int .i64 0, .int .i64 0, .int .i64 0, .int .i64 0, .int .i64 0, .string ⟨#[]⟩, .int .i64 0, .slice none 0 0] 27)) := (Below.refl _ _).alloc (Nat.le_refl _) _
            have l1 := HT2.out.all a HT2.out.n1.mem
            have l2 := HT2.out.all b HT2.out.n2.mem
            have lW := HT2.out.bl.size
            refine ⟨((HT2.out.n1.below hb5).widen _ (Nat.le_refl _)).below hb6, ((HT2.out.n2.below hb5).widen _ (Nat.le_refl _)).below hb6, ?_, ?_, (HT2.out.bl.trans (hb5.mono lW)).trans (hb6.mono (by omega)), fun x hx => ?_, by omega, by omega⟩
            · rw [List.take_zero, ← HS0.out]
              exact isNd_new w5 1 0 ⟨#[]⟩ _ _ rfl (by simp)
            · rw [List.take_zero, ← HS0.out]
              exact made_new (by unfold I64; omega) (by unfold I64; omega) (by decide)
            · simp only [List.mem_cons, List.not_mem_nil, or_false] at hx
              simp
              rcases hx with rfl | rfl | rfl <;> omega)
          have HM1 := Lib.hid HT2.out.m1
          have HM2 := Lib.hid HT2.out.m2
          have HSIZ := Lib.hid (fun k (hk : k < n) => show (getA l k).s.size ≤ 40 from HZ.out k (by omega) hk)
          clear hb5 HT2 hsz5
          generalize w5.heap.size = g at *
          generalize World.alloc w5 _ = w6 at *
          go_loopw [9] (fun i wr => ∃ j : Nat, j ≤ n ∧ i = .int .i64 (j : Int) ∧ Thr W wr [g, b, a] a b g s1 s2 (doAs s0 (l.take j)) j) (fun i _ => n - (intOf i).toNat)
          case atStart => exact ⟨0, by omega, rfl, HT3.out⟩
          case round =>
            obtain ⟨j, hj, rfl, ht⟩ := hrel
            have HT4 := Lib.hid ht; clear ht HT3
            by_cases hlt3 : j < n
            · obtain ⟨xb, xo, rfl, hx0, hx1, hx2, hokx⟩ := act_cells H.out hlt3
              have c0 := cell_later HT4.out.bl hx0
              have c1 := cell_later HT4.out.bl hx1
              have c2' := cell_later HT4.out.bl hx2
              have HDA := Lib.hid (doAs_take s0 l j (by rw [HLn.out]; omega))
              have HTU := Lib.hid (HT4.out.turn (by omega) (getA l j) (HSIZ.out j hlt3) hokx.2)
              clear hx0 hx1 hx2 hokx
              generalize getA l j = x at *
              cases x with
              | mk xop xn xs =>
              simp only [aggA] at *
              go_wp2_with fail
              refine HTU.out.mono ?_
              rintro e wx ⟨rfl, htx⟩
              have HT5 := Lib.hid htx; clear htx c0 c1 c2'
              go_wp2_with fail
              go_roundw
              case rel => exact ⟨j + 1, by omega, by go_num, by rw [HDA.out]; exact HT5.out⟩
              case measure => simp [intOf]; omega
            · obtain rfl : j = n := by omega
              have ht := HT4.out
              rw [List.take_of_length_le (by rw [HLn.out]; omega), HS1.out] at ht
              have HT6 := Lib.hid ht
              clear ht HT4
              obtain ⟨wu, rfl⟩ : ∃ wu : World, wu = wr := ⟨_, rfl⟩
              obtain ⟨no, nc, HN1, HNS⟩ := HT6.out.n1.row_of
              obtain ⟨mo, mc, HMR, HMS⟩ := HT6.out.n2.row_of
              obtain ⟨ko, kc, HK, HKS⟩ := HT6.out.n3.row_of
              have l1 := HM1.out.len
              have l2 := HM2.out.len
              have HS11 := Lib.hid (same_on HKS HNS (by omega) (by omega) (show decide (s1 = s1) = true by simp))
              generalize hbb : decide (s1 = s2) = bb at *
              have HS12 := Lib.hid (same_on HNS HMS (by omega) (by omega) hbb)
              have hxy := bytes_eq HM1.out HM2.out (by omega) (by omega)
              rw [hbb] at hxy
              generalize hX1 : strB (putN s1) = X1 at *
              generalize hX2 : strB (putN s2) = X2 at *
              have HP1 := Lib.hid (put_on HNS (HM1.out.fit (by omega)) hX1)
              have HP2 := Lib.hid (put_on HMS (HM2.out.fit (by omega)) hX2)
              have HBU := Lib.hid HT6.out.bl
              clear hbb hX1 hX2 l1 l2
              go_wp2_with fail
              refine wp_region_held_drew (S := fun w' => Below wu.heap.size wu w') (by kernel_rfl) (below_drew (Below.refl _ _) 1) (fun hHeld => ?_)
              refine wpAnyH_take (i := 0) (oi := { dst := some 70, op := Op.load 27 (Operand.tmp 8), type := 27, pos := _, after := #[], guard := none }) (v := ?_) rfl (by kernel_rfl) (by kernel_rfl) (by kernel_rfl) (fun _ _ _ h => h) (Or.inl ⟨by rfl, ?_⟩) (by exact hHeld) ?_
              rotate_left
              · (intro w hSw; refine load27 (.tmp 8) ?_ _ ?_ (cellsN s1 (.slice ko s1.names.length kc)) (HK.out w hSw) rfl <;> rfl)
              try simp only [Act.put, List.setIfInBounds_toArray, List.set_cons_zero, List.set_cons_succ]
              refine wpAnyH_take (i := 1) (oi := { dst := some 71, op := Op.load 27 (Operand.tmp 5), type := 27, pos := _, after := #[], guard := none }) (v := ?_) rfl (by kernel_rfl) (by kernel_rfl) (by kernel_rfl) (fun _ _ _ h => h) (Or.inl ⟨by rfl, ?_⟩) (by exact hHeld) ?_
              rotate_left
              · (intro w hSw; refine load27 (.tmp 5) ?_ _ ?_ (cellsN s1 (.slice no s1.names.length nc)) (HN1.out w hSw) rfl <;> rfl)
              try simp only [Act.put, List.setIfInBounds_toArray, List.set_cons_zero, List.set_cons_succ]
              refine wpAnyH_ready (rs := [2]) (by kernel_rfl) (by simp) ?_
              refine AllReadyH.cons (o := { dst := some 72, op := Op.call { callee := Callee.value (Operand.func 23), args := #[Operand.tmp 70, Operand.tmp 71], argTypes := #[27, 27] }, type := 4, pos := _, after := #[{ on := 0, ground := Ground.data }, { on := 1, ground := Ground.data }], guard := none }) rfl (fun K hK => ?_) AllReadyH.nil
              go_simp
              refine (HS11.out _ (below_drew (Below.refl wu.heap.size wu) 1)).mono ?_
              rintro e u1 ⟨rfl, hB1, _⟩
              go_wp2_with fail
              refine hK.out _ _ hB1 (fun hHeld => ?_)
              clear hK K
              try simp only [Act.put, List.setIfInBounds_toArray, List.set_cons_zero, List.set_cons_succ]
              refine wpAnyH_take (i := 3) (oi := { dst := some 73, op := Op.move (Operand.tmp 72), type := 4, pos := _, after := #[{ on := 2, ground := Ground.data }, { on := 2, ground := Ground.chain }], guard := none }) (v := ?_) rfl (by kernel_rfl) (by kernel_rfl) (by kernel_rfl) (fun _ _ _ h => h) (Or.inl ⟨by rfl, ?_⟩) (by exact hHeld) ?_
              rotate_left
              · (intro w hSw; go_simp <;> with_reducible rfl)
              try simp only [Act.put, List.setIfInBounds_toArray, List.set_cons_zero, List.set_cons_succ]
              refine wpAnyH_take (i := 4) (oi := { dst := some 74, op := Op.load 27 (Operand.tmp 5), type := 27, pos := _, after := #[{ on := 3, ground := Ground.guard }], guard := some (3, true) }) (v := ?_) rfl (by kernel_rfl) (by kernel_rfl) (by kernel_rfl) (fun _ _ _ h => h) (Or.inl ⟨by rfl, ?_⟩) (by exact hHeld) ?_
              rotate_left
              · (intro w hSw; refine load27 (.tmp 5) ?_ _ ?_ (cellsN s1 (.slice no s1.names.length nc)) (HN1.out w hSw) rfl <;> rfl)
              try simp only [Act.put, List.setIfInBounds_toArray, List.set_cons_zero, List.set_cons_succ]
              refine wpAnyH_take (i := 7) (oi := { dst := some 77, op := Op.load 27 (Operand.tmp 6), type := 27, pos := _, after := #[{ on := 3, ground := Ground.guard }], guard := some (3, true) }) (v := ?_) rfl (by kernel_rfl) (by kernel_rfl) (by kernel_rfl) (fun _ _ _ h => h) (Or.inl ⟨by rfl, ?_⟩) (by exact hHeld) ?_
              rotate_left
              · (intro w hSw; refine load27 (.tmp 6) ?_ _ ?_ (cellsN s2 (.slice mo s2.names.length mc)) (HMR.out w hSw) rfl <;> rfl)
              try simp only [Act.put, List.setIfInBounds_toArray, List.set_cons_zero, List.set_cons_succ]
              refine wpAnyH_take (i := 11) (oi := { dst := some 81, op := Op.load 27 (Operand.tmp 5), type := 27, pos := _, after := #[{ on := 3, ground := Ground.guard }], guard := some (3, true) }) (v := ?_) rfl (by kernel_rfl) (by kernel_rfl) (by kernel_rfl) (fun _ _ _ h => h) (Or.inl ⟨by rfl, ?_⟩) (by exact hHeld) ?_
              rotate_left
              · (intro w hSw; refine load27 (.tmp 5) ?_ _ ?_ (cellsN s1 (.slice no s1.names.length nc)) (HN1.out w hSw) rfl <;> rfl)
              try simp only [Act.put, List.setIfInBounds_toArray, List.set_cons_zero, List.set_cons_succ]
              refine wpAnyH_take (i := 12) (oi := { dst := some 82, op := Op.load 27 (Operand.tmp 6), type := 27, pos := _, after := #[{ on := 3, ground := Ground.guard }], guard := some (3, true) }) (v := ?_) rfl (by kernel_rfl) (by kernel_rfl) (by kernel_rfl) (fun _ _ _ h => h) (Or.inl ⟨by rfl, ?_⟩) (by exact hHeld) ?_
              rotate_left
              · (intro w hSw; refine load27 (.tmp 6) ?_ _ ?_ (cellsN s2 (.slice mo s2.names.length mc)) (HMR.out w hSw) rfl <;> rfl)
              try simp only [Act.put, List.setIfInBounds_toArray, List.set_cons_zero, List.set_cons_succ]
              refine wpAnyH_ready (rs := [5]) (by kernel_rfl) (by simp) ?_
              refine AllReadyH.cons (o := { dst := some 75, op := Op.call { callee := Callee.value (Operand.func 24), args := #[Operand.tmp 74], argTypes := #[27] }, type := 48, pos := _, after := #[{ on := 4, ground := Ground.data }, { on := 3, ground := Ground.chain }, { on := 3, ground := Ground.guard }], guard := some (3, true) }) rfl (fun K hK => ?_) AllReadyH.nil
              go_simp
              refine (HP1.out _ hB1).mono ?_
              rintro e u2 ⟨a2, q2, c2, rfl, hcv2, hB2, _⟩
              have HV2 := Lib.hid hcv2; have hA := hcv2 u2 (Below.refl _ _); clear hcv2
              go_wp2_with fail
              refine hK.out _ _ hB2 (fun hHeld => ?_)
              clear hK K
              try simp only [Act.put, List.setIfInBounds_toArray, List.set_cons_zero, List.set_cons_succ]
              refine wpAnyH_ready (rs := [6, 8]) (by kernel_rfl) (by simp) ?_
              refine AllReadyH.cons (o := { dst := some 76, op := Op.convert 48 9 (Operand.tmp 75), type := 9, pos := _, after := #[{ on := 5, ground := Ground.data }, { on := 3, ground := Ground.guard }], guard := some (3, true) }) rfl (fun K hK => ?_) (AllReadyH.cons (o := { dst := some 78, op := Op.call { callee := Callee.value (Operand.func 24), args := #[Operand.tmp 77], argTypes := #[27] }, type := 48, pos := _, after := #[{ on := 7, ground := Ground.data }, { on := 5, ground := Ground.chain }, { on := 3, ground := Ground.guard }], guard := some (3, true) }) rfl (fun K hK => ?_) AllReadyH.nil)
              · go_simp
                refine hK.out _ _ hB2 (fun hHeld => ?_)
                clear hK K
                try simp only [Act.put, List.setIfInBounds_toArray, List.set_cons_zero, List.set_cons_succ]
                refine wpAnyH_ready (rs := [8]) (by kernel_rfl) (by simp) ?_
                refine AllReadyH.cons (o := { dst := some 78, op := Op.call { callee := Callee.value (Operand.func 24), args := #[Operand.tmp 77], argTypes := #[27] }, type := 48, pos := _, after := #[{ on := 7, ground := Ground.data }, { on := 5, ground := Ground.chain }, { on := 3, ground := Ground.guard }], guard := some (3, true) }) rfl (fun K hK => ?_) AllReadyH.nil
                go_simp
                refine (HP2.out _ hB2).mono ?_
                rintro e u3 ⟨a3, q3, c3, rfl, hcv3, hB3, hb3⟩
                have HV3 := Lib.hid hcv3; have hD := hcv3 u3 (Below.refl _ _); have hA3 := HV2.out u3 hb3; clear hcv3
                go_wp2_with fail
                refine hK.out _ _ hB3 (fun hHeld => ?_)
                clear hK K
                try simp only [Act.put, List.setIfInBounds_toArray, List.set_cons_zero, List.set_cons_succ]
                refine wpAnyH_ready (rs := [9, 13]) (by kernel_rfl) (by simp) ?_
                refine AllReadyH.cons (o := { dst := some 79, op := Op.convert 48 9 (Operand.tmp 78), type := 9, pos := _, after := #[{ on := 8, ground := Ground.data }, { on := 3, ground := Ground.guard }], guard := some (3, true) }) rfl (fun K hK => ?_) (AllReadyH.cons (o := { dst := some 83, op := Op.call { callee := Callee.value (Operand.func 23), args := #[Operand.tmp 81, Operand.tmp 82], argTypes := #[27, 27] }, type := 4, pos := _, after := #[{ on := 11, ground := Ground.data }, { on := 12, ground := Ground.data }, { on := 8, ground := Ground.chain }, { on := 3, ground := Ground.guard }], guard := some (3, true) }) rfl (fun K hK => ?_) AllReadyH.nil)
                · go_simp
                  refine hK.out _ _ hB3 (fun hHeld => ?_)
                  clear hK K
                  try simp only [Act.put, List.setIfInBounds_toArray, List.set_cons_zero, List.set_cons_succ]
                  refine wpAnyH_take (i := 10) (oi := { dst := some 80, op := Op.binOp BinOp.eql 9 (Operand.tmp 76) (Operand.tmp 79) 9, type := 4, pos := _, after := #[{ on := 6, ground := Ground.data }, { on := 9, ground := Ground.data }, { on := 3, ground := Ground.guard }], guard := some (3, true) }) (v := ?_) rfl (by kernel_rfl) (by kernel_rfl) (by kernel_rfl) (fun _ _ _ h => h) (Or.inl ⟨by rfl, ?_⟩) (by exact hHeld) ?_
                  rotate_left
                  · (intro w hSw; go_simp <;> with_reducible rfl)
                  try simp only [Act.put, List.setIfInBounds_toArray, List.set_cons_zero, List.set_cons_succ]
                  refine wpAnyH_ready (rs := [13]) (by kernel_rfl) (by simp) ?_
                  refine AllReadyH.cons (o := { dst := some 83, op := Op.call { callee := Callee.value (Operand.func 23), args := #[Operand.tmp 81, Operand.tmp 82], argTypes := #[27, 27] }, type := 4, pos := _, after := #[{ on := 11, ground := Ground.data }, { on := 12, ground := Ground.data }, { on := 8, ground := Ground.chain }, { on := 3, ground := Ground.guard }], guard := some (3, true) }) rfl (fun K hK => ?_) AllReadyH.nil
                  go_simp
                  refine (HS12.out _ hB3).mono ?_
                  rintro e u4 ⟨rfl, hB4, hb4⟩
                  have hD4 := HV3.out u4 hb4; have hA4 := HV2.out u4 (hb3.trans (hb4.mono hb3.size))
                  go_wp2_with fail
                  refine hK.out _ _ hB4 (fun hHeld => ?_)
                  clear hK K
                  try simp only [Act.put, List.setIfInBounds_toArray, List.set_cons_zero, List.set_cons_succ]
                  refine wpAnyH_take (i := 14) (oi := { dst := some 84, op := Op.binOp BinOp.eql 4 (Operand.tmp 80) (Operand.tmp 83) 4, type := 4, pos := _, after := #[{ on := 10, ground := Ground.data }, { on := 13, ground := Ground.data }, { on := 3, ground := Ground.guard }], guard := some (3, true) }) (v := ?_) rfl (by kernel_rfl) (by kernel_rfl) (by kernel_rfl) (fun _ _ _ h => h) (Or.inl ⟨by rfl, ?_⟩) (by exact hHeld) ?_
                  rotate_left
                  · (intro w hSw; go_simp <;> with_reducible rfl)
                  try simp only [Act.put, List.setIfInBounds_toArray, List.set_cons_zero, List.set_cons_succ]
                  refine wpAnyH_take (i := 15) (oi := { dst := some 85, op := Op.pick (Operand.tmp 73) (Operand.tmp 84) (Operand.const (Value.bool false)), type := 4, pos := _, after := #[{ on := 3, ground := Ground.data }, { on := 14, ground := Ground.data }], guard := none }) (v := ?_) rfl (by kernel_rfl) (by kernel_rfl) (by kernel_rfl) (fun _ _ _ h => h) (Or.inl ⟨by rfl, ?_⟩) (by exact hHeld) ?_
                  rotate_left
                  · (intro w hSw; go_simp <;> with_reducible rfl)
                  try simp only [Act.put, List.setIfInBounds_toArray, List.set_cons_zero, List.set_cons_succ]
                  refine wpAnyH_take (i := 16) (oi := { dst := some 4, op := Op.assign (Operand.tmp 85), type := 4, pos := _, after := #[{ on := 15, ground := Ground.data }, { on := 13, ground := Ground.chain }, { on := 0, ground := Ground.phase }, { on := 1, ground := Ground.phase }, { on := 2, ground := Ground.phase }, { on := 3, ground := Ground.phase }, { on := 4, ground := Ground.phase }, { on := 5, ground := Ground.phase }, { on := 6, ground := Ground.phase }, { on := 7, ground := Ground.phase }, { on := 8, ground := Ground.phase }, { on := 9, ground := Ground.phase }, { on := 10, ground := Ground.phase }, { on := 11, ground := Ground.phase }, { on := 12, ground := Ground.phase }, { on := 13, ground := Ground.phase }, { on := 14, ground := Ground.phase }, { on := 15, ground := Ground.phase }], guard := none }) (v := ?_) rfl (by kernel_rfl) (by kernel_rfl) (by kernel_rfl) (fun _ _ _ h => h) (Or.inl ⟨by rfl, ?_⟩) (by exact hHeld) ?_
                  rotate_left
                  · (intro w hSw; go_simp <;> with_reducible rfl)
                  try simp only [Act.put, List.setIfInBounds_toArray, List.set_cons_zero, List.set_cons_succ]
                  refine wpAnyH_done (by kernel_rfl) ?_ _
                  go_wp2_with fail
                  go_ret
                  exact ⟨rfl, HBU.out.trans (hB4.mono HBU.out.size)⟩
                · go_simp
                  refine (HS12.out _ hB3).mono ?_
                  rintro e u4 ⟨rfl, hB4, hb4⟩
                  have hD4 := HV3.out u4 hb4; have hA4 := HV2.out u4 (hb3.trans (hb4.mono hb3.size))
                  go_wp2_with fail
                  refine hK.out _ _ hB4 (fun hHeld => ?_)
                  clear hK K
                  try simp only [Act.put, List.setIfInBounds_toArray, List.set_cons_zero, List.set_cons_succ]
                  refine wpAnyH_ready (rs := [9]) (by kernel_rfl) (by simp) ?_
                  refine AllReadyH.cons (o := { dst := some 79, op := Op.convert 48 9 (Operand.tmp 78), type := 9, pos := _, after := #[{ on := 8, ground := Ground.data }, { on := 3, ground := Ground.guard }], guard := some (3, true) }) rfl (fun K hK => ?_) AllReadyH.nil
                  go_simp
                  refine hK.out _ _ hB4 (fun hHeld => ?_)
                  clear hK K
                  try simp only [Act.put, List.setIfInBounds_toArray, List.set_cons_zero, List.set_cons_succ]
                  refine wpAnyH_take (i := 10) (oi := { dst := some 80, op := Op.binOp BinOp.eql 9 (Operand.tmp 76) (Operand.tmp 79) 9, type := 4, pos := _, after := #[{ on := 6, ground := Ground.data }, { on := 9, ground := Ground.data }, { on := 3, ground := Ground.guard }], guard := some (3, true) }) (v := ?_) rfl (by kernel_rfl) (by kernel_rfl) (by kernel_rfl) (fun _ _ _ h => h) (Or.inl ⟨by rfl, ?_⟩) (by exact hHeld) ?_
                  rotate_left
                  · (intro w hSw; go_simp <;> with_reducible rfl)
                  try simp only [Act.put, List.setIfInBounds_toArray, List.set_cons_zero, List.set_cons_succ]
                  refine wpAnyH_take (i := 14) (oi := { dst := some 84, op := Op.binOp BinOp.eql 4 (Operand.tmp 80) (Operand.tmp 83) 4, type := 4, pos := _, after := #[{ on := 10, ground := Ground.data }, { on := 13, ground := Ground.data }, { on := 3, ground := Ground.guard }], guard := some (3, true) }) (v := ?_) rfl (by kernel_rfl) (by kernel_rfl) (by kernel_rfl) (fun _ _ _ h => h) (Or.inl ⟨by rfl, ?_⟩) (by exact hHeld) ?_
                  rotate_left
                  · (intro w hSw; go_simp <;> with_reducible rfl)
                  try simp only [Act.put, List.setIfInBounds_toArray, List.set_cons_zero, List.set_cons_succ]
                  refine wpAnyH_take (i := 15) (oi := { dst := some 85, op := Op.pick (Operand.tmp 73) (Operand.tmp 84) (Operand.const (Value.bool false)), type := 4, pos := _, after := #[{ on := 3, ground := Ground.data }, { on := 14, ground := Ground.data }], guard := none }) (v := ?_) rfl (by kernel_rfl) (by kernel_rfl) (by kernel_rfl) (fun _ _ _ h => h) (Or.inl ⟨by rfl, ?_⟩) (by exact hHeld) ?_
                  rotate_left
                  · (intro w hSw; go_simp <;> with_reducible rfl)
                  try simp only [Act.put, List.setIfInBounds_toArray, List.set_cons_zero, List.set_cons_succ]
                  refine wpAnyH_take (i := 16) (oi := { dst := some 4, op := Op.assign (Operand.tmp 85), type := 4, pos := _, after := #[{ on := 15, ground := Ground.data }, { on := 13, ground := Ground.chain }, { on := 0, ground := Ground.phase }, { on := 1, ground := Ground.phase }, { on := 2, ground := Ground.phase }, { on := 3, ground := Ground.phase }, { on := 4, ground := Ground.phase }, { on := 5, ground := Ground.phase }, { on := 6, ground := Ground.phase }, { on := 7, ground := Ground.phase }, { on := 8, ground := Ground.phase }, { on := 9, ground := Ground.phase }, { on := 10, ground := Ground.phase }, { on := 11, ground := Ground.phase }, { on := 12, ground := Ground.phase }, { on := 13, ground := Ground.phase }, { on := 14, ground := Ground.phase }, { on := 15, ground := Ground.phase }], guard := none }) (v := ?_) rfl (by kernel_rfl) (by kernel_rfl) (by kernel_rfl) (fun _ _ _ h => h) (Or.inl ⟨by rfl, ?_⟩) (by exact hHeld) ?_
                  rotate_left
                  · (intro w hSw; go_simp <;> with_reducible rfl)
                  try simp only [Act.put, List.setIfInBounds_toArray, List.set_cons_zero, List.set_cons_succ]
                  refine wpAnyH_done (by kernel_rfl) ?_ _
                  go_wp2_with fail
                  go_ret
                  exact ⟨rfl, HBU.out.trans (hB4.mono HBU.out.size)⟩
              · go_simp
                refine (HP2.out _ hB2).mono ?_
                rintro e u3 ⟨a3, q3, c3, rfl, hcv3, hB3, hb3⟩
                have HV3 := Lib.hid hcv3; have hD := hcv3 u3 (Below.refl _ _); have hA3 := HV2.out u3 hb3; clear hcv3
                go_wp2_with fail
                refine hK.out _ _ hB3 (fun hHeld => ?_)
                clear hK K
                try simp only [Act.put, List.setIfInBounds_toArray, List.set_cons_zero, List.set_cons_succ]
                refine wpAnyH_ready (rs := [6, 9, 13]) (by kernel_rfl) (by simp) ?_
                refine AllReadyH.cons (o := { dst := some 76, op := Op.convert 48 9 (Operand.tmp 75), type := 9, pos := _, after := #[{ on := 5, ground := Ground.data }, { on := 3, ground := Ground.guard }], guard := some (3, true) }) rfl (fun K hK => ?_) (AllReadyH.cons (o := { dst := some 79, op := Op.convert 48 9 (Operand.tmp 78), type := 9, pos := _, after := #[{ on := 8, ground := Ground.data }, { on := 3, ground := Ground.guard }], guard := some (3, true) }) rfl (fun K hK => ?_) (AllReadyH.cons (o := { dst := some 83, op := Op.call { callee := Callee.value (Operand.func 23), args := #[Operand.tmp 81, Operand.tmp 82], argTypes := #[27, 27] }, type := 4, pos := _, after := #[{ on := 11, ground := Ground.data }, { on := 12, ground := Ground.data }, { on := 8, ground := Ground.chain }, { on := 3, ground := Ground.guard }], guard := some (3, true) }) rfl (fun K hK => ?_) AllReadyH.nil))
                · go_simp
                  refine hK.out _ _ hB3 (fun hHeld => ?_)
                  clear hK K
                  try simp only [Act.put, List.setIfInBounds_toArray, List.set_cons_zero, List.set_cons_succ]
                  refine wpAnyH_ready (rs := [9, 13]) (by kernel_rfl) (by simp) ?_
                  refine AllReadyH.cons (o := { dst := some 79, op := Op.convert 48 9 (Operand.tmp 78), type := 9, pos := _, after := #[{ on := 8, ground := Ground.data }, { on := 3, ground := Ground.guard }], guard := some (3, true) }) rfl (fun K hK => ?_) (AllReadyH.cons (o := { dst := some 83, op := Op.call { callee := Callee.value (Operand.func 23), args := #[Operand.tmp 81, Operand.tmp 82], argTypes := #[27, 27] }, type := 4, pos := _, after := #[{ on := 11, ground := Ground.data }, { on := 12, ground := Ground.data }, { on := 8, ground := Ground.chain }, { on := 3, ground := Ground.guard }], guard := some (3, true) }) rfl (fun K hK => ?_) AllReadyH.nil)
                  · go_simp
                    refine hK.out _ _ hB3 (fun hHeld => ?_)
                    clear hK K
                    try simp only [Act.put, List.setIfInBounds_toArray, List.set_cons_zero, List.set_cons_succ]
                    refine wpAnyH_take (i := 10) (oi := { dst := some 80, op := Op.binOp BinOp.eql 9 (Operand.tmp 76) (Operand.tmp 79) 9, type := 4, pos := _, after := #[{ on := 6, ground := Ground.data }, { on := 9, ground := Ground.data }, { on := 3, ground := Ground.guard }], guard := some (3, true) }) (v := ?_) rfl (by kernel_rfl) (by kernel_rfl) (by kernel_rfl) (fun _ _ _ h => h) (Or.inl ⟨by rfl, ?_⟩) (by exact hHeld) ?_
                    rotate_left
                    · (intro w hSw; go_simp <;> with_reducible rfl)
                    try simp only [Act.put, List.setIfInBounds_toArray, List.set_cons_zero, List.set_cons_succ]
                    refine wpAnyH_ready (rs := [13]) (by kernel_rfl) (by simp) ?_
                    refine AllReadyH.cons (o := { dst := some 83, op := Op.call { callee := Callee.value (Operand.func 23), args := #[Operand.tmp 81, Operand.tmp 82], argTypes := #[27, 27] }, type := 4, pos := _, after := #[{ on := 11, ground := Ground.data }, { on := 12, ground := Ground.data }, { on := 8, ground := Ground.chain }, { on := 3, ground := Ground.guard }], guard := some (3, true) }) rfl (fun K hK => ?_) AllReadyH.nil
                    go_simp
                    refine (HS12.out _ hB3).mono ?_
                    rintro e u4 ⟨rfl, hB4, hb4⟩
                    have hD4 := HV3.out u4 hb4; have hA4 := HV2.out u4 (hb3.trans (hb4.mono hb3.size))
                    go_wp2_with fail
                    refine hK.out _ _ hB4 (fun hHeld => ?_)
                    clear hK K
                    try simp only [Act.put, List.setIfInBounds_toArray, List.set_cons_zero, List.set_cons_succ]
                    refine wpAnyH_take (i := 14) (oi := { dst := some 84, op := Op.binOp BinOp.eql 4 (Operand.tmp 80) (Operand.tmp 83) 4, type := 4, pos := _, after := #[{ on := 10, ground := Ground.data }, { on := 13, ground := Ground.data }, { on := 3, ground := Ground.guard }], guard := some (3, true) }) (v := ?_) rfl (by kernel_rfl) (by kernel_rfl) (by kernel_rfl) (fun _ _ _ h => h) (Or.inl ⟨by rfl, ?_⟩) (by exact hHeld) ?_
                    rotate_left
                    · (intro w hSw; go_simp <;> with_reducible rfl)
                    try simp only [Act.put, List.setIfInBounds_toArray, List.set_cons_zero, List.set_cons_succ]
                    refine wpAnyH_take (i := 15) (oi := { dst := some 85, op := Op.pick (Operand.tmp 73) (Operand.tmp 84) (Operand.const (Value.bool false)), type := 4, pos := _, after := #[{ on := 3, ground := Ground.data }, { on := 14, ground := Ground.data }], guard := none }) (v := ?_) rfl (by kernel_rfl) (by kernel_rfl) (by kernel_rfl) (fun _ _ _ h => h) (Or.inl ⟨by rfl, ?_⟩) (by exact hHeld) ?_
                    rotate_left
                    · (intro w hSw; go_simp <;> with_reducible rfl)
                    try simp only [Act.put, List.setIfInBounds_toArray, List.set_cons_zero, List.set_cons_succ]
                    refine wpAnyH_take (i := 16) (oi := { dst := some 4, op := Op.assign (Operand.tmp 85), type := 4, pos := _, after := #[{ on := 15, ground := Ground.data }, { on := 13, ground := Ground.chain }, { on := 0, ground := Ground.phase }, { on := 1, ground := Ground.phase }, { on := 2, ground := Ground.phase }, { on := 3, ground := Ground.phase }, { on := 4, ground := Ground.phase }, { on := 5, ground := Ground.phase }, { on := 6, ground := Ground.phase }, { on := 7, ground := Ground.phase }, { on := 8, ground := Ground.phase }, { on := 9, ground := Ground.phase }, { on := 10, ground := Ground.phase }, { on := 11, ground := Ground.phase }, { on := 12, ground := Ground.phase }, { on := 13, ground := Ground.phase }, { on := 14, ground := Ground.phase }, { on := 15, ground := Ground.phase }], guard := none }) (v := ?_) rfl (by kernel_rfl) (by kernel_rfl) (by kernel_rfl) (fun _ _ _ h => h) (Or.inl ⟨by rfl, ?_⟩) (by exact hHeld) ?_
                    rotate_left
                    · (intro w hSw; go_simp <;> with_reducible rfl)
                    try simp only [Act.put, List.setIfInBounds_toArray, List.set_cons_zero, List.set_cons_succ]
                    refine wpAnyH_done (by kernel_rfl) ?_ _
                    go_wp2_with fail
                    go_ret
                    exact ⟨rfl, HBU.out.trans (hB4.mono HBU.out.size)⟩
                  · go_simp
                    refine (HS12.out _ hB3).mono ?_
                    rintro e u4 ⟨rfl, hB4, hb4⟩
                    have hD4 := HV3.out u4 hb4; have hA4 := HV2.out u4 (hb3.trans (hb4.mono hb3.size))
                    go_wp2_with fail
                    refine hK.out _ _ hB4 (fun hHeld => ?_)
                    clear hK K
                    try simp only [Act.put, List.setIfInBounds_toArray, List.set_cons_zero, List.set_cons_succ]
                    refine wpAnyH_ready (rs := [9]) (by kernel_rfl) (by simp) ?_
                    refine AllReadyH.cons (o := { dst := some 79, op := Op.convert 48 9 (Operand.tmp 78), type := 9, pos := _, after := #[{ on := 8, ground := Ground.data }, { on := 3, ground := Ground.guard }], guard := some (3, true) }) rfl (fun K hK => ?_) AllReadyH.nil
                    go_simp
                    refine hK.out _ _ hB4 (fun hHeld => ?_)
                    clear hK K
                    try simp only [Act.put, List.setIfInBounds_toArray, List.set_cons_zero, List.set_cons_succ]
                    refine wpAnyH_take (i := 10) (oi := { dst := some 80, op := Op.binOp BinOp.eql 9 (Operand.tmp 76) (Operand.tmp 79) 9, type := 4, pos := _, after := #[{ on := 6, ground := Ground.data }, { on := 9, ground := Ground.data }, { on := 3, ground := Ground.guard }], guard := some (3, true) }) (v := ?_) rfl (by kernel_rfl) (by kernel_rfl) (by kernel_rfl) (fun _ _ _ h => h) (Or.inl ⟨by rfl, ?_⟩) (by exact hHeld) ?_
                    rotate_left
                    · (intro w hSw; go_simp <;> with_reducible rfl)
                    try simp only [Act.put, List.setIfInBounds_toArray, List.set_cons_zero, List.set_cons_succ]
                    refine wpAnyH_take (i := 14) (oi := { dst := some 84, op := Op.binOp BinOp.eql 4 (Operand.tmp 80) (Operand.tmp 83) 4, type := 4, pos := _, after := #[{ on := 10, ground := Ground.data }, { on := 13, ground := Ground.data }, { on := 3, ground := Ground.guard }], guard := some (3, true) }) (v := ?_) rfl (by kernel_rfl) (by kernel_rfl) (by kernel_rfl) (fun _ _ _ h => h) (Or.inl ⟨by rfl, ?_⟩) (by exact hHeld) ?_
                    rotate_left
                    · (intro w hSw; go_simp <;> with_reducible rfl)
                    try simp only [Act.put, List.setIfInBounds_toArray, List.set_cons_zero, List.set_cons_succ]
                    refine wpAnyH_take (i := 15) (oi := { dst := some 85, op := Op.pick (Operand.tmp 73) (Operand.tmp 84) (Operand.const (Value.bool false)), type := 4, pos := _, after := #[{ on := 3, ground := Ground.data }, { on := 14, ground := Ground.data }], guard := none }) (v := ?_) rfl (by kernel_rfl) (by kernel_rfl) (by kernel_rfl) (fun _ _ _ h => h) (Or.inl ⟨by rfl, ?_⟩) (by exact hHeld) ?_
                    rotate_left
                    · (intro w hSw; go_simp <;> with_reducible rfl)
                    try simp only [Act.put, List.setIfInBounds_toArray, List.set_cons_zero, List.set_cons_succ]
                    refine wpAnyH_take (i := 16) (oi := { dst := some 4, op := Op.assign (Operand.tmp 85), type := 4, pos := _, after := #[{ on := 15, ground := Ground.data }, { on := 13, ground := Ground.chain }, { on := 0, ground := Ground.phase }, { on := 1, ground := Ground.phase }, { on := 2, ground := Ground.phase }, { on := 3, ground := Ground.phase }, { on := 4, ground := Ground.phase }, { on := 5, ground := Ground.phase }, { on := 6, ground := Ground.phase }, { on := 7, ground := Ground.phase }, { on := 8, ground := Ground.phase }, { on := 9, ground := Ground.phase }, { on := 10, ground := Ground.phase }, { on := 11, ground := Ground.phase }, { on := 12, ground := Ground.phase }, { on := 13, ground := Ground.phase }, { on := 14, ground := Ground.phase }, { on := 15, ground := Ground.phase }], guard := none }) (v := ?_) rfl (by kernel_rfl) (by kernel_rfl) (by kernel_rfl) (fun _ _ _ h => h) (Or.inl ⟨by rfl, ?_⟩) (by exact hHeld) ?_
                    rotate_left
                    · (intro w hSw; go_simp <;> with_reducible rfl)
                    try simp only [Act.put, List.setIfInBounds_toArray, List.set_cons_zero, List.set_cons_succ]
                    refine wpAnyH_done (by kernel_rfl) ?_ _
                    go_wp2_with fail
                    go_ret
                    exact ⟨rfl, HBU.out.trans (hB4.mono HBU.out.size)⟩
                · go_simp
                  refine hK.out _ _ hB3 (fun hHeld => ?_)
                  clear hK K
                  try simp only [Act.put, List.setIfInBounds_toArray, List.set_cons_zero, List.set_cons_succ]
                  refine wpAnyH_ready (rs := [6, 13]) (by kernel_rfl) (by simp) ?_
                  refine AllReadyH.cons (o := { dst := some 76, op := Op.convert 48 9 (Operand.tmp 75), type := 9, pos := _, after := #[{ on := 5, ground := Ground.data }, { on := 3, ground := Ground.guard }], guard := some (3, true) }) rfl (fun K hK => ?_) (AllReadyH.cons (o := { dst := some 83, op := Op.call { callee := Callee.value (Operand.func 23), args := #[Operand.tmp 81, Operand.tmp 82], argTypes := #[27, 27] }, type := 4, pos := _, after := #[{ on := 11, ground := Ground.data }, { on := 12, ground := Ground.data }, { on := 8, ground := Ground.chain }, { on := 3, ground := Ground.guard }], guard := some (3, true) }) rfl (fun K hK => ?_) AllReadyH.nil)
                  · go_simp
                    refine hK.out _ _ hB3 (fun hHeld => ?_)
                    clear hK K
                    try simp only [Act.put, List.setIfInBounds_toArray, List.set_cons_zero, List.set_cons_succ]
                    refine wpAnyH_take (i := 10) (oi := { dst := some 80, op := Op.binOp BinOp.eql 9 (Operand.tmp 76) (Operand.tmp 79) 9, type := 4, pos := _, after := #[{ on := 6, ground := Ground.data }, { on := 9, ground := Ground.data }, { on := 3, ground := Ground.guard }], guard := some (3, true) }) (v := ?_) rfl (by kernel_rfl) (by kernel_rfl) (by kernel_rfl) (fun _ _ _ h => h) (Or.inl ⟨by rfl, ?_⟩) (by exact hHeld) ?_
                    rotate_left
                    · (intro w hSw; go_simp <;> with_reducible rfl)
                    try simp only [Act.put, List.setIfInBounds_toArray, List.set_cons_zero, List.set_cons_succ]
                    refine wpAnyH_ready (rs := [13]) (by kernel_rfl) (by simp) ?_
                    refine AllReadyH.cons (o := { dst := some 83, op := Op.call { callee := Callee.value (Operand.func 23), args := #[Operand.tmp 81, Operand.tmp 82], argTypes := #[27, 27] }, type := 4, pos := _, after := #[{ on := 11, ground := Ground.data }, { on := 12, ground := Ground.data }, { on := 8, ground := Ground.chain }, { on := 3, ground := Ground.guard }], guard := some (3, true) }) rfl (fun K hK => ?_) AllReadyH.nil
                    go_simp
                    refine (HS12.out _ hB3).mono ?_
                    rintro e u4 ⟨rfl, hB4, hb4⟩
                    have hD4 := HV3.out u4 hb4; have hA4 := HV2.out u4 (hb3.trans (hb4.mono hb3.size))
                    go_wp2_with fail
                    refine hK.out _ _ hB4 (fun hHeld => ?_)
                    clear hK K
                    try simp only [Act.put, List.setIfInBounds_toArray, List.set_cons_zero, List.set_cons_succ]
                    refine wpAnyH_take (i := 14) (oi := { dst := some 84, op := Op.binOp BinOp.eql 4 (Operand.tmp 80) (Operand.tmp 83) 4, type := 4, pos := _, after := #[{ on := 10, ground := Ground.data }, { on := 13, ground := Ground.data }, { on := 3, ground := Ground.guard }], guard := some (3, true) }) (v := ?_) rfl (by kernel_rfl) (by kernel_rfl) (by kernel_rfl) (fun _ _ _ h => h) (Or.inl ⟨by rfl, ?_⟩) (by exact hHeld) ?_
                    rotate_left
                    · (intro w hSw; go_simp <;> with_reducible rfl)
                    try simp only [Act.put, List.setIfInBounds_toArray, List.set_cons_zero, List.set_cons_succ]
                    refine wpAnyH_take (i := 15) (oi := { dst := some 85, op := Op.pick (Operand.tmp 73) (Operand.tmp 84) (Operand.const (Value.bool false)), type := 4, pos := _, after := #[{ on := 3, ground := Ground.data }, { on := 14, ground := Ground.data }], guard := none }) (v := ?_) rfl (by kernel_rfl) (by kernel_rfl) (by kernel_rfl) (fun _ _ _ h => h) (Or.inl ⟨by rfl, ?_⟩) (by exact hHeld) ?_
                    rotate_left
                    · (intro w hSw; go_simp <;> with_reducible rfl)
                    try simp only [Act.put, List.setIfInBounds_toArray, List.set_cons_zero, List.set_cons_succ]
                    refine wpAnyH_take (i := 16) (oi := { dst := some 4, op := Op.assign (Operand.tmp 85), type := 4, pos := _, after := #[{ on := 15, ground := Ground.data }, { on := 13, ground := Ground.chain }, { on := 0, ground := Ground.phase }, { on := 1, ground := Ground.phase }, { on := 2, ground := Ground.phase }, { on := 3, ground := Ground.phase }, { on := 4, ground := Ground.phase }, { on := 5, ground := Ground.phase }, { on := 6, ground := Ground.phase }, { on := 7, ground := Ground.phase }, { on := 8, ground := Ground.phase }, { on := 9, ground := Ground.phase }, { on := 10, ground := Ground.phase }, { on := 11, ground := Ground.phase }, { on := 12, ground := Ground.phase }, { on := 13, ground := Ground.phase }, { on := 14, ground := Ground.phase }, { on := 15, ground := Ground.phase }], guard := none }) (v := ?_) rfl (by kernel_rfl) (by kernel_rfl) (by kernel_rfl) (fun _ _ _ h => h) (Or.inl ⟨by rfl, ?_⟩) (by exact hHeld) ?_
                    rotate_left
                    · (intro w hSw; go_simp <;> with_reducible rfl)
                    try simp only [Act.put, List.setIfInBounds_toArray, List.set_cons_zero, List.set_cons_succ]
                    refine wpAnyH_done (by kernel_rfl) ?_ _
                    go_wp2_with fail
                    go_ret
                    exact ⟨rfl, HBU.out.trans (hB4.mono HBU.out.size)⟩
                  · go_simp
                    refine (HS12.out _ hB3).mono ?_
                    rintro e u4 ⟨rfl, hB4, hb4⟩
                    have hD4 := HV3.out u4 hb4; have hA4 := HV2.out u4 (hb3.trans (hb4.mono hb3.size))
                    go_wp2_with fail
                    refine hK.out _ _ hB4 (fun hHeld => ?_)
                    clear hK K
                    try simp only [Act.put, List.setIfInBounds_toArray, List.set_cons_zero, List.set_cons_succ]
                    refine wpAnyH_ready (rs := [6]) (by kernel_rfl) (by simp) ?_
                    refine AllReadyH.cons (o := { dst := some 76, op := Op.convert 48 9 (Operand.tmp 75), type := 9, pos := _, after := #[{ on := 5, ground := Ground.data }, { on := 3, ground := Ground.guard }], guard := some (3, true) }) rfl (fun K hK => ?_) AllReadyH.nil
                    go_simp
                    refine hK.out _ _ hB4 (fun hHeld => ?_)
                    clear hK K
                    try simp only [Act.put, List.setIfInBounds_toArray, List.set_cons_zero, List.set_cons_succ]
                    refine wpAnyH_take (i := 10) (oi := { dst := some 80, op := Op.binOp BinOp.eql 9 (Operand.tmp 76) (Operand.tmp 79) 9, type := 4, pos := _, after := #[{ on := 6, ground := Ground.data }, { on := 9, ground := Ground.data }, { on := 3, ground := Ground.guard }], guard := some (3, true) }) (v := ?_) rfl (by kernel_rfl) (by kernel_rfl) (by kernel_rfl) (fun _ _ _ h => h) (Or.inl ⟨by rfl, ?_⟩) (by exact hHeld) ?_
                    rotate_left
                    · (intro w hSw; go_simp <;> with_reducible rfl)
                    try simp only [Act.put, List.setIfInBounds_toArray, List.set_cons_zero, List.set_cons_succ]
                    refine wpAnyH_take (i := 14) (oi := { dst := some 84, op := Op.binOp BinOp.eql 4 (Operand.tmp 80) (Operand.tmp 83) 4, type := 4, pos := _, after := #[{ on := 10, ground := Ground.data }, { on := 13, ground := Ground.data }, { on := 3, ground := Ground.guard }], guard := some (3, true) }) (v := ?_) rfl (by kernel_rfl) (by kernel_rfl) (by kernel_rfl) (fun _ _ _ h => h) (Or.inl ⟨by rfl, ?_⟩) (by exact hHeld) ?_
                    rotate_left
                    · (intro w hSw; go_simp <;> with_reducible rfl)
                    try simp only [Act.put, List.setIfInBounds_toArray, List.set_cons_zero, List.set_cons_succ]
                    refine wpAnyH_take (i := 15) (oi := { dst := some 85, op := Op.pick (Operand.tmp 73) (Operand.tmp 84) (Operand.const (Value.bool false)), type := 4, pos := _, after := #[{ on := 3, ground := Ground.data }, { on := 14, ground := Ground.data }], guard := none }) (v := ?_) rfl (by kernel_rfl) (by kernel_rfl) (by kernel_rfl) (fun _ _ _ h => h) (Or.inl ⟨by rfl, ?_⟩) (by exact hHeld) ?_
                    rotate_left
                    · (intro w hSw; go_simp <;> with_reducible rfl)
                    try simp only [Act.put, List.setIfInBounds_toArray, List.set_cons_zero, List.set_cons_succ]
                    refine wpAnyH_take (i := 16) (oi := { dst := some 4, op := Op.assign (Operand.tmp 85), type := 4, pos := _, after := #[{ on := 15, ground := Ground.data }, { on := 13, ground := Ground.chain }, { on := 0, ground := Ground.phase }, { on := 1, ground := Ground.phase }, { on := 2, ground := Ground.phase }, { on := 3, ground := Ground.phase }, { on := 4, ground := Ground.phase }, { on := 5, ground := Ground.phase }, { on := 6, ground := Ground.phase }, { on := 7, ground := Ground.phase }, { on := 8, ground := Ground.phase }, { on := 9, ground := Ground.phase }, { on := 10, ground := Ground.phase }, { on := 11, ground := Ground.phase }, { on := 12, ground := Ground.phase }, { on := 13, ground := Ground.phase }, { on := 14, ground := Ground.phase }, { on := 15, ground := Ground.phase }], guard := none }) (v := ?_) rfl (by kernel_rfl) (by kernel_rfl) (by kernel_rfl) (fun _ _ _ h => h) (Or.inl ⟨by rfl, ?_⟩) (by exact hHeld) ?_
                    rotate_left
                    · (intro w hSw; go_simp <;> with_reducible rfl)
                    try simp only [Act.put, List.setIfInBounds_toArray, List.set_cons_zero, List.set_cons_succ]
                    refine wpAnyH_done (by kernel_rfl) ?_ _
                    go_wp2_with fail
                    go_ret
                    exact ⟨rfl, HBU.out.trans (hB4.mono HBU.out.size)⟩
                · go_simp
                  refine (HS12.out _ hB3).mono ?_
                  rintro e u4 ⟨rfl, hB4, hb4⟩
                  have hD4 := HV3.out u4 hb4; have hA4 := HV2.out u4 (hb3.trans (hb4.mono hb3.size))
                  go_wp2_with fail
                  refine hK.out _ _ hB4 (fun hHeld => ?_)
                  clear hK K
                  try simp only [Act.put, List.setIfInBounds_toArray, List.set_cons_zero, List.set_cons_succ]
                  refine wpAnyH_ready (rs := [6, 9]) (by kernel_rfl) (by simp) ?_
                  refine AllReadyH.cons (o := { dst := some 76, op := Op.convert 48 9 (Operand.tmp 75), type := 9, pos := _, after := #[{ on := 5, ground := Ground.data }, { on := 3, ground := Ground.guard }], guard := some (3, true) }) rfl (fun K hK => ?_) (AllReadyH.cons (o := { dst := some 79, op := Op.convert 48 9 (Operand.tmp 78), type := 9, pos := _, after := #[{ on := 8, ground := Ground.data }, { on := 3, ground := Ground.guard }], guard := some (3, true) }) rfl (fun K hK => ?_) AllReadyH.nil)
                  · go_simp
                    refine hK.out _ _ hB4 (fun hHeld => ?_)
                    clear hK K
                    try simp only [Act.put, List.setIfInBounds_toArray, List.set_cons_zero, List.set_cons_succ]
                    refine wpAnyH_ready (rs := [9]) (by kernel_rfl) (by simp) ?_
                    refine AllReadyH.cons (o := { dst := some 79, op := Op.convert 48 9 (Operand.tmp 78), type := 9, pos := _, after := #[{ on := 8, ground := Ground.data }, { on := 3, ground := Ground.guard }], guard := some (3, true) }) rfl (fun K hK => ?_) AllReadyH.nil
                    go_simp
                    refine hK.out _ _ hB4 (fun hHeld => ?_)
                    clear hK K
                    try simp only [Act.put, List.setIfInBounds_toArray, List.set_cons_zero, List.set_cons_succ]
                    refine wpAnyH_take (i := 10) (oi := { dst := some 80, op := Op.binOp BinOp.eql 9 (Operand.tmp 76) (Operand.tmp 79) 9, type := 4, pos := _, after := #[{ on := 6, ground := Ground.data }, { on := 9, ground := Ground.data }, { on := 3, ground := Ground.guard }], guard := some (3, true) }) (v := ?_) rfl (by kernel_rfl) (by kernel_rfl) (by kernel_rfl) (fun _ _ _ h => h) (Or.inl ⟨by rfl, ?_⟩) (by exact hHeld) ?_
                    rotate_left
                    · (intro w hSw; go_simp <;> with_reducible rfl)
                    try simp only [Act.put, List.setIfInBounds_toArray, List.set_cons_zero, List.set_cons_succ]
                    refine wpAnyH_take (i := 14) (oi := { dst := some 84, op := Op.binOp BinOp.eql 4 (Operand.tmp 80) (Operand.tmp 83) 4, type := 4, pos := _, after := #[{ on := 10, ground := Ground.data }, { on := 13, ground := Ground.data }, { on := 3, ground := Ground.guard }], guard := some (3, true) }) (v := ?_) rfl (by kernel_rfl) (by kernel_rfl) (by kernel_rfl) (fun _ _ _ h => h) (Or.inl ⟨by rfl, ?_⟩) (by exact hHeld) ?_
                    rotate_left
                    · (intro w hSw; go_simp <;> with_reducible rfl)
                    try simp only [Act.put, List.setIfInBounds_toArray, List.set_cons_zero, List.set_cons_succ]
                    refine wpAnyH_take (i := 15) (oi := { dst := some 85, op := Op.pick (Operand.tmp 73) (Operand.tmp 84) (Operand.const (Value.bool false)), type := 4, pos := _, after := #[{ on := 3, ground := Ground.data }, { on := 14, ground := Ground.data }], guard := none }) (v := ?_) rfl (by kernel_rfl) (by kernel_rfl) (by kernel_rfl) (fun _ _ _ h => h) (Or.inl ⟨by rfl, ?_⟩) (by exact hHeld) ?_
                    rotate_left
                    · (intro w hSw; go_simp <;> with_reducible rfl)
                    try simp only [Act.put, List.setIfInBounds_toArray, List.set_cons_zero, List.set_cons_succ]
                    refine wpAnyH_take (i := 16) (oi := { dst := some 4, op := Op.assign (Operand.tmp 85), type := 4, pos := _, after := #[{ on := 15, ground := Ground.data }, { on := 13, ground := Ground.chain }, { on := 0, ground := Ground.phase }, { on := 1, ground := Ground.phase }, { on := 2, ground := Ground.phase }, { on := 3, ground := Ground.phase }, { on := 4, ground := Ground.phase }, { on := 5, ground := Ground.phase }, { on := 6, ground := Ground.phase }, { on := 7, ground := Ground.phase }, { on := 8, ground := Ground.phase }, { on := 9, ground := Ground.phase }, { on := 10, ground := Ground.phase }, { on := 11, ground := Ground.phase }, { on := 12, ground := Ground.phase }, { on := 13, ground := Ground.phase }, { on := 14, ground := Ground.phase }, { on := 15, ground := Ground.phase }], guard := none }) (v := ?_) rfl (by kernel_rfl) (by kernel_rfl) (by kernel_rfl) (fun _ _ _ h => h) (Or.inl ⟨by rfl, ?_⟩) (by exact hHeld) ?_
                    rotate_left
                    · (intro w hSw; go_simp <;> with_reducible rfl)
                    try simp only [Act.put, List.setIfInBounds_toArray, List.set_cons_zero, List.set_cons_succ]
                    refine wpAnyH_done (by kernel_rfl) ?_ _
                    go_wp2_with fail
                    go_ret
                    exact ⟨rfl, HBU.out.trans (hB4.mono HBU.out.size)⟩
                  · go_simp
                    refine hK.out _ _ hB4 (fun hHeld => ?_)
                    clear hK K
                    try simp only [Act.put, List.setIfInBounds_toArray, List.set_cons_zero, List.set_cons_succ]
                    refine wpAnyH_ready (rs := [6]) (by kernel_rfl) (by simp) ?_
                    refine AllReadyH.cons (o := { dst := some 76, op := Op.convert 48 9 (Operand.tmp 75), type := 9, pos := _, after := #[{ on := 5, ground := Ground.data }, { on := 3, ground := Ground.guard }], guard := some (3, true) }) rfl (fun K hK => ?_) AllReadyH.nil
                    go_simp
                    refine hK.out _ _ hB4 (fun hHeld => ?_)
                    clear hK K
                    try simp only [Act.put, List.setIfInBounds_toArray, List.set_cons_zero, List.set_cons_succ]
                    refine wpAnyH_take (i := 10) (oi := { dst := some 80, op := Op.binOp BinOp.eql 9 (Operand.tmp 76) (Operand.tmp 79) 9, type := 4, pos := _, after := #[{ on := 6, ground := Ground.data }, { on := 9, ground := Ground.data }, { on := 3, ground := Ground.guard }], guard := some (3, true) }) (v := ?_) rfl (by kernel_rfl) (by kernel_rfl) (by kernel_rfl) (fun _ _ _ h => h) (Or.inl ⟨by rfl, ?_⟩) (by exact hHeld) ?_
                    rotate_left
                    · (intro w hSw; go_simp <;> with_reducible rfl)
                    try simp only [Act.put, List.setIfInBounds_toArray, List.set_cons_zero, List.set_cons_succ]
                    refine wpAnyH_take (i := 14) (oi := { dst := some 84, op := Op.binOp BinOp.eql 4 (Operand.tmp 80) (Operand.tmp 83) 4, type := 4, pos := _, after := #[{ on := 10, ground := Ground.data }, { on := 13, ground := Ground.data }, { on := 3, ground := Ground.guard }], guard := some (3, true) }) (v := ?_) rfl (by kernel_rfl) (by kernel_rfl) (by kernel_rfl) (fun _ _ _ h => h) (Or.inl ⟨by rfl, ?_⟩) (by exact hHeld) ?_
                    rotate_left
                    · (intro w hSw; go_simp <;> with_reducible rfl)
                    try simp only [Act.put, List.setIfInBounds_toArray, List.set_cons_zero, List.set_cons_succ]
                    refine wpAnyH_take (i := 15) (oi := { dst := some 85, op := Op.pick (Operand.tmp 73) (Operand.tmp 84) (Operand.const (Value.bool false)), type := 4, pos := _, after := #[{ on := 3, ground := Ground.data }, { on := 14, ground := Ground.data }], guard := none }) (v := ?_) rfl (by kernel_rfl) (by kernel_rfl) (by kernel_rfl) (fun _ _ _ h => h) (Or.inl ⟨by rfl, ?_⟩) (by exact hHeld) ?_
                    rotate_left
                    · (intro w hSw; go_simp <;> with_reducible rfl)
                    try simp only [Act.put, List.setIfInBounds_toArray, List.set_cons_zero, List.set_cons_succ]
                    refine wpAnyH_take (i := 16) (oi := { dst := some 4, op := Op.assign (Operand.tmp 85), type := 4, pos := _, after := #[{ on := 15, ground := Ground.data }, { on := 13, ground := Ground.chain }, { on := 0, ground := Ground.phase }, { on := 1, ground := Ground.phase }, { on := 2, ground := Ground.phase }, { on := 3, ground := Ground.phase }, { on := 4, ground := Ground.phase }, { on := 5, ground := Ground.phase }, { on := 6, ground := Ground.phase }, { on := 7, ground := Ground.phase }, { on := 8, ground := Ground.phase }, { on := 9, ground := Ground.phase }, { on := 10, ground := Ground.phase }, { on := 11, ground := Ground.phase }, { on := 12, ground := Ground.phase }, { on := 13, ground := Ground.phase }, { on := 14, ground := Ground.phase }, { on := 15, ground := Ground.phase }], guard := none }) (v := ?_) rfl (by kernel_rfl) (by kernel_rfl) (by kernel_rfl) (fun _ _ _ h => h) (Or.inl ⟨by rfl, ?_⟩) (by exact hHeld) ?_
                    rotate_left
                    · (intro w hSw; go_simp <;> with_reducible rfl)
                    try simp only [Act.put, List.setIfInBounds_toArray, List.set_cons_zero, List.set_cons_succ]
                    refine wpAnyH_done (by kernel_rfl) ?_ _
                    go_wp2_with fail
                    go_ret
                    exact ⟨rfl, HBU.out.trans (hB4.mono HBU.out.size)⟩
theorem apart_said (ao : Option Addr) (n c : Nat) (l : List Ac) (bo : Option Addr) (q c2 : Nat) (m : List Ac) (W : World) (h : IsActs W ao n l) (_ : n ≤ c) (h2 : IsActs W bo q m) (_ : q ≤ c2) :
    Calls Try.prog 6 #[.slice ao n c, .slice bo q c2] W fun e w' => e = .returned (.bool true) ∧ Below W.heap.size W w' :=
  apart_walk ao n c l bo q c2 m W h h2
end Go.Proofs.Ytaoligpckpabfaa
