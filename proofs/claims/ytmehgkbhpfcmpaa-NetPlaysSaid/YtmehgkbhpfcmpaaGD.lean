/-
  One message is deleted from its row.
-/
import Derived.Test.YtmehgkbhpfcmpaaGS
import Derived.Test.YtmehgkbhpfcmpaaDel
namespace Go.Proofs.Ytmehgkbhpfcmpaa.G
open Go.RowKit Go.Proofs.Ytmehgkbhpfcmpaa

theorem row5_one (l : List Mv) (h : ∀ x ∈ l, x.v.oneCell' = true ∧ x.u.oneCell' = true) : ∀ u ∈ row5 l, u.oneCell' = true := by
  intro u hu
  simp only [row5, List.mem_flatMap] at hu
  obtain ⟨s, hs, hu⟩ := hu
  simp only [cells5, List.mem_cons, List.not_mem_nil, or_false] at hu
  rcases hu with rfl | rfl | rfl | rfl | rfl
  · rfl
  · rfl
  · rfl
  · exact (h s hs).1
  · exact (h s hs).2
/-- clear behind the i-th message of one's own row -/
theorem clear_mv {w : World} {base g cap n i : Nat} {m : List Mv} (h : w.ownsRow base 32 5 (.slice (some ⟨g, 0, none⟩) n cap) n (row5 m)) (hm : m.length = n) (hi : i < n) (ty : TypeId) (c : Nat) :
    (Builtin.clear_ #[45] ty #[.slice (some ⟨g, i * 5, none⟩) (n - i) c]).run Try.prog w = .ok (.tuple #[]) (w.setCells g (i * 5) (zeros5s (n - i))) ∧
    (w.setCells g (i * 5) (zeros5s (n - i))).ownsRow base 32 5 (.slice (some ⟨g, 0, none⟩) i cap) i (row5 (m.take i)) := by
  constructor
  · refine run_clear_any w 45 32 ty _ Try.underlying45 zero32 g (i * 5) (n - i) c (by omega) (zeros5s (n - i)) rfl (zeros5s_one _) (fun j hj => ?_) (fun j hj => World.ownsRow.frozenAt h _)
    rw [zeros5s_len] at hj
    rw [World.ownsRow.cellAt h (i * 5 + j) (by omega)]
    rw [List.getElem?_eq_getElem (by rw [row5_len, hm]; omega)]; rfl
  · obtain ⟨ys, h1, h2, h3⟩ := row_cells (zeros5s (n - i)) (i * 5) w _ h
    have := row_short h3 (Nat.le_of_lt hi)
    rwa [h2, row5_take] at this

/-- the row as it lies behind the append -/
def shifted (l : List Mv) (i : Nat) : List Mv := l.take i ++ l.drop (i + 1) ++ l.drop (l.length - 1)
theorem shifted_len (l : List Mv) (i : Nat) (hi : i < l.length) : (shifted l i).length = l.length := by
  simp [shifted]; omega
theorem shifted_take (l : List Mv) (i : Nat) (hi : i < l.length) : (shifted l i).take (l.length - 1) = l.eraseIdx i := by
  rw [List.eraseIdx_eq_take_drop_succ]
  unfold shifted
  rw [List.take_left' (by simp; omega)]

set_option maxHeartbeats 2000000 in
set_option maxRecDepth 1000000 in
theorem delete_one (base g : Nat) (l : List Mv) (i cap : Nat) (w : World) (h : w.ownsRow base 32 5 (.slice (some ⟨g, 0, none⟩) l.length cap) l.length (row5 l)) (hone : ∀ x ∈ l, x.v.oneCell' = true ∧ x.u.oneCell' = true) (hi : i < l.length) (hl : l.length ≤ 1000000) :
    Calls Try.prog 29 #[.slice (some ⟨g, 0, none⟩) l.length cap, .int .i64 (i : Int), .int .i64 ((i : Int) + 1)] w fun e w' => e = .returned (.slice (some ⟨g, 0, none⟩) (l.length - 1) cap) ∧ w'.ownsRow base 32 5 (.slice (some ⟨g, 0, none⟩) (l.length - 1) cap) (l.length - 1) (row5 (l.eraseIdx i)) ∧ Only [g] w w' := by
  obtain ⟨i0, hi0, hz0, hz1, hz2⟩ := info_parts info32
  obtain ⟨g2, cap2, he, hbg, hgs, hc1, hc2, _, hcell⟩ := row_cell h (by omega)
  simp only [Value.slice.injEq, Option.some.injEq, Addr.mk.injEq, and_true, true_and] at he
  obtain ⟨rfl, rfl⟩ := he
  obtain ⟨news, hnews⟩ : ∃ news, news = row5 (l.drop (i + 1)) := ⟨_, rfl⟩
  have hnl : news.length = (l.length - (i + 1)) * 5 := by rw [hnews, row5_len]; simp
  have hrl := row5_len l
  obtain ⟨A, hA, hsrc⟩ : ∃ A : Addr, (if cap = i + 1 then some (⟨g, 0, none⟩ : Addr) else some ⟨g, (i + 1) * 5, none⟩) = some A ∧ Hid (∀ t u, news[t]? = some u → w.drew.cell? (A.add t) = some u) := by
    by_cases hce : cap = i + 1
    · refine ⟨⟨g, 0, none⟩, by simp [hce], fun t u hu => ?_⟩
      have := (List.getElem?_eq_some_iff.1 hu).1
      omega
    · refine ⟨⟨g, (i + 1) * 5, none⟩, by simp [hce], fun t u hu => ?_⟩
      have ht := (List.getElem?_eq_some_iff.1 hu).1
      rw [Addr.add_lit]
      have h4 : w.cell? ⟨g, (i + 1) * 5 + t, none⟩ = (row5 l)[(i + 1) * 5 + t]? := World.ownsRow.cellAt h _ (by omega)
      rw [hnews, ← row5_drop, List.getElem?_drop] at hu
      exact h4.trans hu
  have s2 : Hid (∀ u ∈ news, u.oneCell' = true) := by rw [hnews]; exact row5_one _ (fun x hx => hone x (List.mem_of_mem_drop hx))
  have s3 : Hid (∀ t, t < news.length → (w.drew.cell? ⟨g, 0 + i * 5 + t, none⟩).isSome = true ∧ w.drew.frozen? ⟨g, 0 + i * 5 + t, none⟩ = false) := by
    intro t ht
    refine ⟨?_, World.ownsRow.frozenAt h _⟩
    rw [Nat.zero_add]
    show (w.cell? _).isSome = true
    rw [World.ownsRow.cellAt h (i * 5 + t) (by omega), List.getElem?_eq_getElem (by omega)]; rfl
  obtain ⟨W1, hW1⟩ : ∃ W1, W1 = w.drew.setCells g (0 + i * 5) news := ⟨_, rfl⟩
  have hrow : W1.ownsRow base 32 5 (.slice (some ⟨g, 0, none⟩) l.length cap) l.length (row5 (shifted l i)) := by
    have := row_put news (0 + i * 5) w.drew (row5 l) h (by omega)
    rw [hW1]
    have e : row5 (shifted l i) = (row5 l).take (0 + i * 5) ++ news ++ (row5 l).drop (0 + i * 5 + news.length) := by
      rw [show 0 + i * 5 + news.length = (l.length - 1) * 5 by omega, row5_drop, Nat.zero_add, row5_take, hnews, shifted, row5_append, row5_append]
    rw [e]; exact this
  have ho1 : Only [g] w W1 := by
    rw [hW1]
    exact only_cells g (by simp) _ _ _ (only_heap (Only.refl [g] w) rfl rfl rfl rfl)
  have hcl := fun ty => (clear_mv hrow (shifted_len l i hi) (show l.length - 1 < l.length by omega) ty (cap - (l.length - 1))).1
  have hfin := (clear_mv hrow (shifted_len l i hi) (show l.length - 1 < l.length by omega) 0 0).2
  rw [shifted_take l i hi] at hfin
  have ho2 : Only [g] w (W1.setCells g ((l.length - 1) * 5) (zeros5s (l.length - (l.length - 1)))) := only_cells g (by simp) _ _ _ ho1
  have HF := Lib.hid hfin
  have HO := Lib.hid ho2
  have hW : Hid (W1 = w.drew.setCells g (0 + i * 5) news) := hW1
  have HNL := Lib.hid hnl
  clear hfin ho2 ho1 hrow hW1 hnews hnl hrl hcell h
  generalize hn : l.length = n at *
  have k1 : ¬ cap = n - 1 := by omega
  have k2 : (i : Int) + 1 = ((i + 1 : Nat) : Int) := by omega
  have k3 : n - (n - 1) = 1 := by omega
  rw [k2]
  rw [k3] at hcl
  have hxx : ((i : Int) == ((i + 1 : Nat) : Int)) = false := by simp; omega
  have HN := Lib.hid hn
  clear hn k2
  have k5 : i ≤ cap := by omega
  have k6 : i + 1 ≤ cap := by omega
  have k7 : (0 : Int) ≤ (i : Int) + 1 ∧ (i : Int) + 1 ≤ (n : Int) := by omega
  have mixed : Try.prog.follows Departure.mixedOrders = true := by kernel_rfl
  go_enter Try.func29, Try.ntmps29
  go_wp2_with fail
  go_region_law_o (refine step_append_room rfl (.tmp 22) (.tmp 25) 45 rfl 32 i0 5 Try.underlying45 hi0 hz1 g 0 i cap (by simp [Act.eval, Act.put]) A (n - (i + 1)) (cap - (i + 1)) news (by simp [Act.eval, Act.put]) HNL.out hsrc.out s2.out (by omega) s3.out ?_; rw [← hW.out])
  have k4 : i + (n - (i + 1)) = n - 1 := by omega
  rw [k4]
  go_wp2_with fail
  go_ret
  refine ⟨rfl, ?_, ?_⟩
  · have := HF.out
    rwa [k3] at this
  · have := HO.out
    rwa [k3] at this
end Go.Proofs.Ytmehgkbhpfcmpaa.G
