/-
  One session is deleted from its row.
-/
import Derived.Test.YtmlgggcdjknlfaaTickT
import Derived.Deep.RegionLaw
import Derived.Shelf.RegionOpenPlain
namespace Go.Proofs.Ytmlgggcdjknlfaa
open Go.RowKit

theorem row3_drop (m : List Se) (i : Nat) : (row3 m).drop (i * 3) = row3 (m.drop i) := by
  have h1 : row3 m = row3 (m.take i) ++ row3 (m.drop i) := by rw [← row3_append, List.take_append_drop]
  have h2 := row3_take m i
  have h3 : row3 m = (row3 m).take (i * 3) ++ (row3 m).drop (i * 3) := (List.take_append_drop _ _).symm
  rw [h2] at h3
  exact List.append_cancel_left (h3.symm.trans h1)
/-- several cells of one's own row are stored -/
theorem row_put {base g cap n k : Nat} {e : TypeId} (vs : List Value) : ∀ (o : Nat) (w : World) (xs : List Value), w.ownsRow base e k (.slice (some ⟨g, 0, none⟩) n cap) n xs → o + vs.length ≤ xs.length →
    (w.setCells g o vs).ownsRow base e k (.slice (some ⟨g, 0, none⟩) n cap) n (xs.take o ++ vs ++ xs.drop (o + vs.length)) := by
  induction vs with
  | nil => intro o w xs h _; simpa [World.setCells] using h
  | cons v vs ih =>
    intro o w xs h hl
    simp only [List.length_cons] at hl
    have := ih (o + 1) _ _ (World.ownsRow.stored h o v).1 (by rw [List.length_set]; omega)
    have e1 : (xs.set o v).take (o + 1) = xs.take o ++ [v] := by
      rw [List.take_succ_eq_append_getElem (by rw [List.length_set]; omega)]
      simp [List.take_set_of_le]
    have e2 : (xs.set o v).drop (o + 1 + vs.length) = xs.drop (o + (v :: vs).length) := by
      rw [List.drop_set_of_lt (by omega), List.length_cons]; congr 1; omega
    rw [e1, e2, List.append_assoc (xs.take o), List.singleton_append] at this
    exact this
theorem row3_one (l : List Se) : ∀ u ∈ row3 l, u.oneCell' = true := by
  intro u hu
  simp only [row3, List.mem_flatMap] at hu
  obtain ⟨s, _, hu⟩ := hu
  simp only [cells3, List.mem_cons, List.not_mem_nil, or_false] at hu
  rcases hu with rfl | rfl | rfl <;> rfl

/-- the row as it lies behind the append -/
def shifted (l : List Se) (i : Nat) : List Se := l.take i ++ l.drop (i + 1) ++ l.drop (l.length - 1)
theorem shifted_len (l : List Se) (i : Nat) (hi : i < l.length) : (shifted l i).length = l.length := by
  simp [shifted]; omega
theorem shifted_take (l : List Se) (i : Nat) (hi : i < l.length) : (shifted l i).take (l.length - 1) = l.eraseIdx i := by
  rw [List.eraseIdx_eq_take_drop_succ]
  unfold shifted
  rw [List.take_left' (by simp; omega)]

set_option maxHeartbeats 2000000 in
set_option maxRecDepth 1000000 in
theorem delete_one (base g : Nat) (l : List Se) (i cap : Nat) (w : World) (h : w.ownsRow base 54 3 (.slice (some ⟨g, 0, none⟩) l.length cap) l.length (row3 l)) (hi : i < l.length) (hl : l.length ≤ 1000000) :
    Calls Try.prog 31 #[.slice (some ⟨g, 0, none⟩) l.length cap, .int .i64 (i : Int), .int .i64 ((i : Int) + 1)] w fun e w' => e = .returned (.slice (some ⟨g, 0, none⟩) (l.length - 1) cap) ∧ w'.ownsRow base 54 3 (.slice (some ⟨g, 0, none⟩) (l.length - 1) cap) (l.length - 1) (row3 (l.eraseIdx i)) ∧ Only [g] w w' := by
  obtain ⟨i0, hi0, hz0, hz1, hz2⟩ := info_parts info54
  obtain ⟨g2, cap2, he, hbg, hgs, hc1, hc2, hcell⟩ := row_cell h (by omega)
  simp only [Value.slice.injEq, Option.some.injEq, Addr.mk.injEq, and_true, true_and] at he
  obtain ⟨rfl, rfl⟩ := he
  obtain ⟨news, hnews⟩ : ∃ news, news = row3 (l.drop (i + 1)) := ⟨_, rfl⟩
  have hnl : news.length = (l.length - (i + 1)) * 3 := by rw [hnews, row3_len]; simp
  have hrl := row3_len l
  obtain ⟨A, hA, hsrc⟩ : ∃ A : Addr, (if cap = i + 1 then some (⟨g, 0, none⟩ : Addr) else some ⟨g, (i + 1) * 3, none⟩) = some A ∧ Hid (∀ t u, news[t]? = some u → w.drew.cell? (A.add t) = some u) := by
    by_cases hce : cap = i + 1
    · refine ⟨⟨g, 0, none⟩, by simp [hce], fun t u hu => ?_⟩
      have := (List.getElem?_eq_some_iff.1 hu).1
      omega
    · refine ⟨⟨g, (i + 1) * 3, none⟩, by simp [hce], fun t u hu => ?_⟩
      have ht := (List.getElem?_eq_some_iff.1 hu).1
      rw [Addr.add_lit]
      have h4 : w.cell? ⟨g, (i + 1) * 3 + t, none⟩ = (row3 l)[(i + 1) * 3 + t]? := World.ownsRow.cellAt h _ (by omega)
      rw [hnews, ← row3_drop, List.getElem?_drop] at hu
      exact h4.trans hu
  have s2 : Hid (∀ u ∈ news, u.oneCell' = true) := by rw [hnews]; exact row3_one _
  have s3 : Hid (∀ t, t < news.length → (w.drew.cell? ⟨g, 0 + i * 3 + t, none⟩).isSome = true ∧ w.drew.frozen? ⟨g, 0 + i * 3 + t, none⟩ = false) := by
    intro t ht
    refine ⟨?_, World.ownsRow.frozenAt h _⟩
    rw [Nat.zero_add]
    show (w.cell? _).isSome = true
    rw [World.ownsRow.cellAt h (i * 3 + t) (by omega), List.getElem?_eq_getElem (by omega)]; rfl
  obtain ⟨W1, hW1⟩ : ∃ W1, W1 = w.drew.setCells g (0 + i * 3) news := ⟨_, rfl⟩
  have hrow : W1.ownsRow base 54 3 (.slice (some ⟨g, 0, none⟩) l.length cap) l.length (row3 (shifted l i)) := by
    have := row_put news (0 + i * 3) w.drew (row3 l) h (by omega)
    rw [hW1]
    have e : row3 (shifted l i) = (row3 l).take (0 + i * 3) ++ news ++ (row3 l).drop (0 + i * 3 + news.length) := by
      rw [show 0 + i * 3 + news.length = (l.length - 1) * 3 by omega, row3_drop, Nat.zero_add, row3_take, hnews, shifted, row3_append, row3_append]
    rw [e]; exact this
  have ho1 : Only [g] w W1 := by
    rw [hW1]
    exact only_cells g (by simp) _ _ _ (only_heap (Only.refl [g] w) rfl rfl rfl rfl)
  have hcl := fun ty => (clear_se hrow (shifted_len l i hi) (show l.length - 1 < l.length by omega) ty (cap - (l.length - 1))).1
  have hfin := (clear_se hrow (shifted_len l i hi) (show l.length - 1 < l.length by omega) 0 0).2
  rw [shifted_take l i hi] at hfin
  have ho2 : Only [g] w (W1.setCells g ((l.length - 1) * 3) (zeros3 (l.length - (l.length - 1)))) := only_cells g (by simp) _ _ _ ho1
  have HF := Lib.hid hfin
  have HO := Lib.hid ho2
  have hW : Hid (W1 = w.drew.setCells g (0 + i * 3) news) := hW1
  have HNL := Lib.hid hnl
  clear hfin ho2 ho1 hrow hW1 hnews hnl hrl hcell h
  generalize hn : l.length = n at *
  have k1 : ¬ cap = n - 1 := by omega
  have k2 : (i : Int) + 1 = ((i + 1 : Nat) : Int) := by omega
  have k3 : n - (n - 1) = 1 := by omega
  rw [k2]
  rw [k3] at hcl
  have hxx : ((i : Int) == ((i + 1 : Nat) : Int)) = false := by simp; omega
  have HN := Lib.hid hn
  clear hn k2
  have k5 : i ≤ cap := by omega
  have k6 : i + 1 ≤ cap := by omega
  have k7 : (0 : Int) ≤ (i : Int) + 1 ∧ (i : Int) + 1 ≤ (n : Int) := by omega
  have mixed : Try.prog.follows Departure.mixedOrders = true := by kernel_rfl
  go_enter Try.func31, Try.ntmps31
  go_wp2_with fail
  go_region_law_o (refine step_append_room rfl (.tmp 22) (.tmp 25) 50 rfl 54 i0 3 Try.underlying50 hi0 hz1 g 0 i cap (by simp [Act.eval, Act.put]) A (n - (i + 1)) (cap - (i + 1)) news (by simp [Act.eval, Act.put]) HNL.out hsrc.out s2.out (by omega) s3.out ?_; rw [← hW.out])
  have k4 : i + (n - (i + 1)) = n - 1 := by omega
  rw [k4]
  go_wp2_with fail
  go_ret
  refine ⟨rfl, ?_, ?_⟩
  · have := HF.out
    rwa [k3] at this
  · have := HO.out
    rwa [k3] at this
end Go.Proofs.Ytmlgggcdjknlfaa
