/-
  A failure's reply. No condition.
-/
import Derived.Test.YtpikdeikcmdcmaaGet
namespace Go.Proofs.Ytpikdeikcmdcmaa
open Go.RowKit
def bareR (e : Int) : Re := ⟨e, ⟨#[]⟩, ⟨#[]⟩, [], 0, 0, 0, 0, 0, 0, 0⟩
/-- a failure's results, the first k -/
def failL (e place : Int) : Nat → List Re
  | 0 => []
  | k + 1 => failL e place k ++ [bareR (if (k : Int) = place then e else 14)]
theorem failL_len (e place : Int) (k : Nat) : (failL e place k).length = k := by
  induction k with
  | zero => rfl
  | succ k ih => simp [failL, ih]
def failN (n : Int) : Nat := if n < 0 ∨ 16 < n then 0 else n.toNat
def failR (num e place n : Int) : Rp := ⟨num, 0, e, place, failL e place (failN n)⟩
/-- where the making of it stands -/
structure FdS (w W : World) (t : TypeId) (R X B : Nat) (cs : Array Value) (v : Value) (rs : List (Re × Value)) : Prop where
  below : Below w.heap.size w W
  at_ : W.heap[X]? = some (.cells cs t (0, 0))
  res : W.heap[R]? = some (.cells #[.int .i64 0, .int .i64 0, .int .i64 0, .int .i64 0, .slice none 0 0] t (0, 0))
  own : ResOwn W B v rs
  h1 : w.heap.size ≤ R
  h2 : R < X
  h3 : X < B
  h4 : B ≤ W.heap.size
section
variable {w W u : World} {t : TypeId} {R X B : Nat} {cs : Array Value} {v v' : Value} {rs rs' : List (Re × Value)}
theorem FdS.set (h : FdS w W t R X B cs v rs) (j : Nat) (x : Value) : FdS w (W.setCell ⟨X, j, none⟩ x) t R X B (cs.setIfInBounds j x) v rs := by
  have o : Only [X] W (W.setCell ⟨X, j, none⟩ x) := (Only.refl _ _).setCell (by simp) _
  have a1 := h.h1; have a2 := h.h2; have a3 := h.h3; have a4 := h.h4
  exact ⟨h.below.trans (o.below h.below.size (by simp; omega)), heap_set h.at_ j x, o.keeps h.res (by simp; omega), h.own.only o (by simp; omega), a1, a2, a3, Nat.le_trans a4 o.size⟩
theorem FdS.app (h : FdS w W t R X B cs v rs) (hb : Below B W u) (ho : ResOwn u B v' rs') : FdS w u t R X B cs v' rs' := by
  have a1 := h.h1; have a2 := h.h2; have a3 := h.h3; have a4 := h.h4
  exact ⟨h.below.trans (hb.mono (by omega)), by rw [hb.block X a3]; exact h.at_, by rw [hb.block R (by omega)]; exact h.res, ho, a1, a2, a3, Nat.le_trans a4 hb.size⟩
theorem FdS.alloc (h : FdS w W t R X B cs v rs) (o : Obj) : FdS w (W.alloc o) t R X B cs v rs :=
  h.app ((Below.refl _ _).alloc h.h4 o) (h.own.below ((Below.refl _ _).alloc (Nat.le_refl _) o))
theorem FdS.cell (h : FdS w W t R X B cs v rs) (j : Nat) : W.cell? ⟨X, j, none⟩ = cs[j]? := cell_heap h.at_ j
theorem FdS.free (h : FdS w W t R X B cs v rs) (j : Nat) : W.frozen? ⟨X, j, none⟩ = false := free_heap h.at_ j
end
theorem results_rep {fn : Func} {p : Tmp} {t : TypeId} {fs : Array Field} (h : fn.results = #[.cell p t]) (tmps : Array Value) (w : World) (g : Nat) (cs : Array Value)
    (hp : tmps.getD p undef = .pointer (some ⟨g, 0, none⟩)) (hg : w.heap[g]? = some (.cells cs t (0, 0))) (hu : Try.prog.underlying t = some (.struct fs)) (hi : (Try.prog.info? t).map (·.size) = some cs.size) :
    (results fn tmps).run Try.prog w = .ok (.agg cs) w :=
  results_cell_row h tmps w g t cs (0, 0) _ hp hg hu rfl hi

set_option maxHeartbeats 8000000 in
set_option maxRecDepth 100000 in
theorem fail_any (num e place n : Int) (w : World) (hn1 : -9223372036854775808 ≤ n) (hn2 : n ≤ 9223372036854775807) :
    Calls Try.prog 13 #[.int .i64 num, .int .i64 e, .int .i64 place, .int .i64 n] w fun x w' => ∃ a c rs, x = .returned (aggP num 0 e place (.slice a (failN n) c)) ∧ ResOwn w' w.heap.size (.slice a (failN n) c) rs ∧ resL rs = failL e place (failN n) ∧ Below w.heap.size w w' := by
  by_cases hbad : n < 0 ∨ 16 < n
  · have hk : failN n = 0 := if_pos hbad
    rw [hk]
    go_enter Try.func13, Try.ntmps13
    go_wp2_with fail
    all_goals first
      | (exfalso; omega)
      | (refine bodyPost_ret (results_rep (fn := Try.f13) rfl _ _ w.heap.size _ rfl (heap_old (heap_new _ _) _) Try.underlying26 size26) rfl ?_
         first | exact ⟨none, 0, [], rfl, ResOwn.nil _ _, rfl, below_two _ _ _⟩ | exact ⟨none, 0, rfl, [], ResOwn.nil _ _, rfl, below_two _ _ _⟩)
  · have hk : ((failN n : Nat) : Int) = n := by unfold failN; rw [if_neg hbad]; omega
    have hk2 : failN n ≤ 16 := by omega
    generalize failN n = m at *
    subst hk
    clear hbad
    have g1 : decide ((m : Int) < 0) = false := by simp
    have g2 : decide ((m : Int) > 16) = false := by simp; omega
    go_enter Try.func13, Try.ntmps13
    go_wp2_with fail
    have hs1 : FdS w ((w.alloc (.cells #[.int .i64 0, .int .i64 0, .int .i64 0, .int .i64 0, .slice none 0 0] 26)).alloc (.cells #[.int .i64 num, .int .i64 0, .int .i64 e, .int .i64 place, .slice none 0 0] 26)) 26 w.heap.size (w.heap.size + 1) (w.heap.size + 2) #[.int .i64 num, .int .i64 0, .int .i64 e, .int .i64 place, .slice none 0 0] (.slice none 0 0) [] :=
      ⟨below_two _ _ _, by have := heap_new (w.alloc (.cells #[.int .i64 0, .int .i64 0, .int .i64 0, .int .i64 0, .slice none 0 0] 26)) (.cells #[.int .i64 num, .int .i64 0, .int .i64 e, .int .i64 place, .slice none 0 0] 26); simpa using this, heap_old (heap_new _ _) _, ResOwn.nil _ _, Nat.le_refl _, Nat.lt_succ_self _, Nat.lt_succ_self _, by simp⟩
    have HS1 := Lib.hid hs1; clear hs1
    generalize ((w.alloc (.cells #[.int .i64 0, .int .i64 0, .int .i64 0, .int .i64 0, .slice none 0 0] 26)).alloc (.cells #[.int .i64 num, .int .i64 0, .int .i64 e, .int .i64 place, .slice none 0 0] 26)) = w0 at *
    have hXB : w.heap.size < w.heap.size + 1 := Nat.lt_succ_self _
    generalize w.heap.size + 2 = B at *
    generalize w.heap.size + 1 = X at *
    go_wp2_with fail
    go_loopw [24] (fun i wr => ∃ k : Nat, k ≤ m ∧ i = .int .i64 (k : Int) ∧ ∃ a c rs, resL rs = failL e place k ∧ FdS w wr 26 w.heap.size X B #[.int .i64 num, .int .i64 0, .int .i64 e, .int .i64 place, .slice a k c] (.slice a k c) rs) (fun i _ => m - (intOf i).toNat)
    case atStart => exact ⟨0, by omega, rfl, none, 0, [], rfl, HS1.out⟩
    case round =>
      obtain ⟨k, hk, rfl, ga, gc, rs, hrs, hst⟩ := hrel
      have HST := Lib.hid hst; clear hst
      have HRS := Lib.hid hrs
      have HRL := Lib.hid (show rs.length = k by have := congrArg List.length hrs; rw [failL_len] at this; simpa [resL] using this)
      clear hrs
      by_cases hlt : k < m
      · by_cases hp : (k : Int) = place
        · have g3 : ((k : Int) == place) = true := by simpa using hp
          have HP := Lib.hid hp; clear hp
          have hc4 := HST.out.cell 4
          have hc4a : ∀ o : Obj, (wr.alloc o).cell? ⟨X, 4, none⟩ = some (.slice ga k gc) := fun o => (HST.out.alloc o).cell 4
          have hX : X < wr.heap.size := by have := HST.out.h3; have := HST.out.h4; omega
          have hne : wr.heap.size ≠ X := by omega

          go_wp2_with (first
            | (at_builtin; go_must (refine wpList_plain rfl fun _ hK => wp_append_res (.tmp 34) (.tmp 36) rfl B (.slice ga k gc) rs (by rfl) (by exact ((HST.out.alloc _).alloc _).own) (bareR e) none 0 0 (wr.heap.size + 1) (by rfl) (by exact heap_alloc2_new _ _ _) (by exact OwnS.nil _ _ _) (by simp [bareR]) (by rw [HRL.out]; omega) (by exact ((HST.out.alloc _).alloc _).h4) (fun a7 c7 u7 ho7 hb7 => hK _ _ ?_)); have hs7 := ((HST.out.alloc _).alloc _).app hb7 ho7; have HS7 := Lib.hid hs7; have hc74 : u7.cell? ⟨X, 4, none⟩ = some (.slice ga k gc) := hs7.cell 4; have hf7 := hs7.free 4; clear ho7 hb7 hs7))
          have hS8 := HS7.out.set 4 (.slice a7 (rs.length + 1) c7)
          rw [HRL.out] at hS8
          have HS8 := Lib.hid hS8
          clear hS8 hc74 hf7 hc4 hc4a
          go_roundw
          case rel => exact ⟨k + 1, by omega, by go_num, a7, c7, rs ++ [(bareR e, .slice none 0 0)], by rw [resL, List.map_append, failL, if_pos HP.out, ← HRS.out]; rfl, by rw [HRL.out]; exact HS8.out⟩
          case measure => simp [intOf]; omega
        · have g3 : ((k : Int) == place) = false := by simpa using hp
          have HP := Lib.hid hp; clear hp
          have hc4 := HST.out.cell 4
          have hc4a : ∀ o : Obj, (wr.alloc o).cell? ⟨X, 4, none⟩ = some (.slice ga k gc) := fun o => (HST.out.alloc o).cell 4
          have hX : X < wr.heap.size := by have := HST.out.h3; have := HST.out.h4; omega
          have hne : wr.heap.size ≠ X := by omega

          go_wp2_with (first
            | (at_builtin; go_must (refine wpList_plain rfl fun _ hK => wp_append_res (.tmp 34) (.tmp 36) rfl B (.slice ga k gc) rs (by rfl) (by exact ((HST.out.alloc _).alloc _).own) (bareR 14) none 0 0 (wr.heap.size + 1) (by rfl) (by exact heap_alloc2_new _ _ _) (by exact OwnS.nil _ _ _) (by simp [bareR]) (by rw [HRL.out]; omega) (by exact ((HST.out.alloc _).alloc _).h4) (fun a7 c7 u7 ho7 hb7 => hK _ _ ?_)); have hs7 := ((HST.out.alloc _).alloc _).app hb7 ho7; have HS7 := Lib.hid hs7; have hc74 : u7.cell? ⟨X, 4, none⟩ = some (.slice ga k gc) := hs7.cell 4; have hf7 := hs7.free 4; clear ho7 hb7 hs7))
          have hS8 := HS7.out.set 4 (.slice a7 (rs.length + 1) c7)
          rw [HRL.out] at hS8
          have HS8 := Lib.hid hS8
          clear hS8 hc74 hf7 hc4 hc4a
          go_roundw
          case rel => exact ⟨k + 1, by omega, by go_num, a7, c7, rs ++ [(bareR 14, .slice none 0 0)], by rw [resL, List.map_append, failL, if_neg HP.out, ← HRS.out]; rfl, by rw [HRL.out]; exact HS8.out⟩
          case measure => simp [intOf]; omega
      · obtain rfl : k = m := by omega
        go_wp2_with (first
          | (refine wpList_load_row rfl 26 (.tmp 9) rfl X rfl 26 #[.int .i64 num, .int .i64 0, .int .i64 e, .int .i64 place, .slice ga k gc] (0, 0) _ HST.out.at_ Try.underlying26 rfl size26 ?_)
          | (refine wpList_store_row rfl 26 (.tmp 8) (.tmp 40) rfl w.heap.size #[.int .i64 num, .int .i64 0, .int .i64 e, .int .i64 place, .slice ga k gc] rfl rfl 26 _ HST.out.res size26 rfl (rep_ones _ _ _ _ _ _ _) ?_))
        have HON := Lib.hid (show Only [w.heap.size] wr (wr.setRow w.heap.size #[.int .i64 num, .int .i64 0, .int .i64 e, .int .i64 place, .slice ga k gc]) from ⟨rfl, rfl, rfl, by simp, fun k _ hk => setRow_other _ _ _ _ (by simpa using hk)⟩)
        have HHP := Lib.hid (setRow_heap wr w.heap.size _ #[.int .i64 num, .int .i64 0, .int .i64 e, .int .i64 place, .slice ga k gc] 26 (0, 0) HST.out.res)
        (try simp only [Exit.inBlock, Exit.then])
        refine bodyPost_ret (results_rep (fn := Try.f13) rfl _ _ w.heap.size _ rfl HHP.out Try.underlying26 size26) rfl ?_
        exact ⟨ga, gc, rs, rfl, (HST.out.own.only HON.out (by simp; have := HST.out.h3; omega)).mono (by have := HST.out.h3; omega), HRS.out, HST.out.below.trans (HON.out.below HST.out.below.size (by simp))⟩

set_option maxHeartbeats 8000000 in
set_option maxRecDepth 100000 in
theorem rfail_any (num e place n : Int) (w : World) (hn1 : -9223372036854775808 ≤ n) (hn2 : n ≤ 9223372036854775807) :
    Calls Try.prog 21 #[.int .i64 num, .int .i64 e, .int .i64 place, .int .i64 n] w fun x w' => ∃ a c rs, x = .returned (aggP num 0 e place (.slice a (failN n) c)) ∧ ResOwn w' w.heap.size (.slice a (failN n) c) rs ∧ resL rs = failL e place (failN n) ∧ Below w.heap.size w w' := by
  by_cases hbad : n < 0 ∨ 16 < n
  · have hk : failN n = 0 := if_pos hbad
    rw [hk]
    go_enter Try.func21, Try.ntmps21
    go_wp2_with fail
    all_goals first
      | (exfalso; omega)
      | (refine bodyPost_ret (results_rep (fn := Try.f21) rfl _ _ w.heap.size _ rfl (heap_old (heap_new _ _) _) Try.underlying40 size40) rfl ?_
         first | exact ⟨none, 0, [], rfl, ResOwn.nil _ _, rfl, below_two _ _ _⟩ | exact ⟨none, 0, rfl, [], ResOwn.nil _ _, rfl, below_two _ _ _⟩)
  · have hk : ((failN n : Nat) : Int) = n := by unfold failN; rw [if_neg hbad]; omega
    have hk2 : failN n ≤ 16 := by omega
    generalize failN n = m at *
    subst hk
    clear hbad
    have g1 : decide ((m : Int) < 0) = false := by simp
    have g2 : decide ((m : Int) > 16) = false := by simp; omega
    go_enter Try.func21, Try.ntmps21
    go_wp2_with fail
    have hs1 : FdS w ((w.alloc (.cells #[.int .i64 0, .int .i64 0, .int .i64 0, .int .i64 0, .slice none 0 0] 40)).alloc (.cells #[.int .i64 num, .int .i64 0, .int .i64 e, .int .i64 place, .slice none 0 0] 40)) 40 w.heap.size (w.heap.size + 1) (w.heap.size + 2) #[.int .i64 num, .int .i64 0, .int .i64 e, .int .i64 place, .slice none 0 0] (.slice none 0 0) [] :=
      ⟨below_two _ _ _, by have := heap_new (w.alloc (.cells #[.int .i64 0, .int .i64 0, .int .i64 0, .int .i64 0, .slice none 0 0] 40)) (.cells #[.int .i64 num, .int .i64 0, .int .i64 e, .int .i64 place, .slice none 0 0] 40); simpa using this, heap_old (heap_new _ _) _, ResOwn.nil _ _, Nat.le_refl _, Nat.lt_succ_self _, Nat.lt_succ_self _, by simp⟩
    have HS1 := Lib.hid hs1; clear hs1
    generalize ((w.alloc (.cells #[.int .i64 0, .int .i64 0, .int .i64 0, .int .i64 0, .slice none 0 0] 40)).alloc (.cells #[.int .i64 num, .int .i64 0, .int .i64 e, .int .i64 place, .slice none 0 0] 40)) = w0 at *
    have hXB : w.heap.size < w.heap.size + 1 := Nat.lt_succ_self _
    generalize w.heap.size + 2 = B at *
    generalize w.heap.size + 1 = X at *
    go_wp2_with fail
    go_loopw [10] (fun i wr => ∃ k : Nat, k ≤ m ∧ i = .int .i64 (k : Int) ∧ ∃ a c rs, resL rs = failL e place k ∧ FdS w wr 40 w.heap.size X B #[.int .i64 num, .int .i64 0, .int .i64 e, .int .i64 place, .slice a k c] (.slice a k c) rs) (fun i _ => m - (intOf i).toNat)
    case atStart => exact ⟨0, by omega, rfl, none, 0, [], rfl, HS1.out⟩
    case round =>
      obtain ⟨k, hk, rfl, ga, gc, rs, hrs, hst⟩ := hrel
      have HST := Lib.hid hst; clear hst
      have HRS := Lib.hid hrs
      have HRL := Lib.hid (show rs.length = k by have := congrArg List.length hrs; rw [failL_len] at this; simpa [resL] using this)
      clear hrs
      by_cases hlt : k < m
      · by_cases hp : (k : Int) = place
        · have g3 : ((k : Int) == place) = true := by simpa using hp
          have HP := Lib.hid hp; clear hp
          have hc4 := HST.out.cell 4
          have hc4a : ∀ o : Obj, (wr.alloc o).cell? ⟨X, 4, none⟩ = some (.slice ga k gc) := fun o => (HST.out.alloc o).cell 4
          have hX : X < wr.heap.size := by have := HST.out.h3; have := HST.out.h4; omega
          have hne : wr.heap.size ≠ X := by omega

          go_wp2_with (first
            | (at_builtin; go_must (refine wpList_plain rfl fun _ hK => wp_append_res (.tmp 35) (.tmp 37) rfl B (.slice ga k gc) rs (by rfl) (by exact ((HST.out.alloc _).alloc _).own) (bareR e) none 0 0 (wr.heap.size + 1) (by rfl) (by exact heap_alloc2_new _ _ _) (by exact OwnS.nil _ _ _) (by simp [bareR]) (by rw [HRL.out]; omega) (by exact ((HST.out.alloc _).alloc _).h4) (fun a7 c7 u7 ho7 hb7 => hK _ _ ?_)); have hs7 := ((HST.out.alloc _).alloc _).app hb7 ho7; have HS7 := Lib.hid hs7; have hc74 : u7.cell? ⟨X, 4, none⟩ = some (.slice ga k gc) := hs7.cell 4; have hf7 := hs7.free 4; clear ho7 hb7 hs7))
          have hS8 := HS7.out.set 4 (.slice a7 (rs.length + 1) c7)
          rw [HRL.out] at hS8
          have HS8 := Lib.hid hS8
          clear hS8 hc74 hf7 hc4 hc4a
          go_roundw
          case rel => exact ⟨k + 1, by omega, by go_num, a7, c7, rs ++ [(bareR e, .slice none 0 0)], by rw [resL, List.map_append, failL, if_pos HP.out, ← HRS.out]; rfl, by rw [HRL.out]; exact HS8.out⟩
          case measure => simp [intOf]; omega
        · have g3 : ((k : Int) == place) = false := by simpa using hp
          have HP := Lib.hid hp; clear hp
          have hc4 := HST.out.cell 4
          have hc4a : ∀ o : Obj, (wr.alloc o).cell? ⟨X, 4, none⟩ = some (.slice ga k gc) := fun o => (HST.out.alloc o).cell 4
          have hX : X < wr.heap.size := by have := HST.out.h3; have := HST.out.h4; omega
          have hne : wr.heap.size ≠ X := by omega

          go_wp2_with (first
            | (at_builtin; go_must (refine wpList_plain rfl fun _ hK => wp_append_res (.tmp 35) (.tmp 37) rfl B (.slice ga k gc) rs (by rfl) (by exact ((HST.out.alloc _).alloc _).own) (bareR 14) none 0 0 (wr.heap.size + 1) (by rfl) (by exact heap_alloc2_new _ _ _) (by exact OwnS.nil _ _ _) (by simp [bareR]) (by rw [HRL.out]; omega) (by exact ((HST.out.alloc _).alloc _).h4) (fun a7 c7 u7 ho7 hb7 => hK _ _ ?_)); have hs7 := ((HST.out.alloc _).alloc _).app hb7 ho7; have HS7 := Lib.hid hs7; have hc74 : u7.cell? ⟨X, 4, none⟩ = some (.slice ga k gc) := hs7.cell 4; have hf7 := hs7.free 4; clear ho7 hb7 hs7))
          have hS8 := HS7.out.set 4 (.slice a7 (rs.length + 1) c7)
          rw [HRL.out] at hS8
          have HS8 := Lib.hid hS8
          clear hS8 hc74 hf7 hc4 hc4a
          go_roundw
          case rel => exact ⟨k + 1, by omega, by go_num, a7, c7, rs ++ [(bareR 14, .slice none 0 0)], by rw [resL, List.map_append, failL, if_neg HP.out, ← HRS.out]; rfl, by rw [HRL.out]; exact HS8.out⟩
          case measure => simp [intOf]; omega
      · obtain rfl : k = m := by omega
        go_wp2_with (first
          | (refine wpList_load_row rfl 40 (.tmp 9) rfl X rfl 40 #[.int .i64 num, .int .i64 0, .int .i64 e, .int .i64 place, .slice ga k gc] (0, 0) _ HST.out.at_ Try.underlying40 rfl size40 ?_)
          | (refine wpList_store_row rfl 40 (.tmp 8) (.tmp 40) rfl w.heap.size #[.int .i64 num, .int .i64 0, .int .i64 e, .int .i64 place, .slice ga k gc] rfl rfl 40 _ HST.out.res size40 rfl (rep_ones _ _ _ _ _ _ _) ?_))
        have HON := Lib.hid (show Only [w.heap.size] wr (wr.setRow w.heap.size #[.int .i64 num, .int .i64 0, .int .i64 e, .int .i64 place, .slice ga k gc]) from ⟨rfl, rfl, rfl, by simp, fun k _ hk => setRow_other _ _ _ _ (by simpa using hk)⟩)
        have HHP := Lib.hid (setRow_heap wr w.heap.size _ #[.int .i64 num, .int .i64 0, .int .i64 e, .int .i64 place, .slice ga k gc] 40 (0, 0) HST.out.res)
        (try simp only [Exit.inBlock, Exit.then])
        refine bodyPost_ret (results_rep (fn := Try.f21) rfl _ _ w.heap.size _ rfl HHP.out Try.underlying40 size40) rfl ?_
        exact ⟨ga, gc, rs, rfl, (HST.out.own.only HON.out (by simp; have := HST.out.h3; omega)).mono (by have := HST.out.h3; omega), HRS.out, HST.out.below.trans (HON.out.below HST.out.below.size (by simp))⟩
end Go.Proofs.Ytpikdeikcmdcmaa
