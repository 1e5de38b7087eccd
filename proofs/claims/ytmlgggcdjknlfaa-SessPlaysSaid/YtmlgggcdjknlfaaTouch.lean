/-
  Sessions are touched.
-/
import Derived.Test.YtmlgggcdjknlfaaOpen
import Derived.StillTailTactics
namespace Go.Proofs.Ytmlgggcdjknlfaa
open Go.RowKit

theorem findS_lt (l : List Se) (q : Int) : findS l q < l.length := by
  unfold findS; split <;> omega
theorem findS_ge (l : List Se) (q : Int) : -1 ≤ findS l q := by
  unfold findS; split <;> omega
/-- a session lives on -/
def liveOn (now : Int) (x : Se) : Se := { x with till := now + x.span }
def touchS (s : Ss) (q : Int) : Ss := if findS s.l q < 0 then s else { s with l := s.l.modify (findS s.l q).toNat (liveOn s.now) }
theorem row3_touch (l : List Se) (k : Nat) (hk : k < l.length) (now : Int) : row3 (l.modify k (liveOn now)) = (row3 l).set (k * 3 + 2) (.int .i64 (now + (l.getD k ⟨0, 0, 0⟩).span)) := by
  induction l generalizing k with
  | nil => simp at hk
  | cons s l ih =>
    cases k with
    | zero => simp [row3, cells3, liveOn]
    | succ k =>
      rw [List.modify_succ_cons, show row3 (s :: l.modify k (liveOn now)) = cells3 s ++ row3 (l.modify k (liveOn now)) from rfl, ih k (by simpa using hk), show row3 (s :: l) = cells3 s ++ row3 l from rfl,
        List.set_append_right _ _ (by simp [cells3]; omega)]
      congr 2
      · simp [cells3]; omega

set_option maxHeartbeats 1000000 in
theorem touch_any (base a : Nat) (g : Option Nat) (s : Ss) (q : Int) (w : World) (h : IsSess w base a g s) (hl : s.l.length ≤ 1000000) (hn0 : 0 ≤ s.now) (hn : s.now ≤ 2199023255552) (hsp : ∀ x ∈ s.l, 0 ≤ x.span ∧ x.span ≤ 10000) :
    Calls Try.prog 13 #[.pointer (some ⟨a, 0, none⟩), .int .i64 q] w fun e w' => e = .returned (.int .i64 (if findS s.l q < 0 then 11 else 0)) ∧ IsSess w' base a g (touchS s q) ∧ Only (a :: g.toList) w w' := by
  have hflt := findS_lt s.l q
  have hfge := findS_ge s.l q
  by_cases hf : findS s.l q < 0
  · unfold touchS
    rw [if_pos hf, if_pos hf]
    have HH := Lib.hid h
    go_enter Try.func13, Try.ntmps13
    go_wp2_with fail
    refine (find_any base a g s q w HH.out hl).mono ?_
    rintro e w1 ⟨rfl, hb⟩
    generalize findS s.l q = z at *
    go_wp2_with fail
    go_ret
    exact ⟨rfl, HH.out.below hb, Only.ofBelow hb _⟩
  · unfold touchS
    rw [if_neg hf, if_neg hf]
    have HH := Lib.hid h; clear h
    have HFI := Lib.hid (find_any base a g s q w HH.out hl)
    generalize findS s.l q = z at *
    obtain ⟨k, rfl⟩ := Int.eq_ofNat_of_zero_le (show 0 ≤ z by omega)
    have hkl : k < s.l.length := by omega
    obtain ⟨⟨v, k1, k2, k3⟩, hge, hne⟩ := HH.out
    obtain ⟨g2, cap, rfl, hg1, hg2, hg3, hg4, hcell⟩ := row_cell k2 (by omega)
    have hgg : g = some g2 := k3.symm
    subst hgg
    have hs1 := hsp (s.l.getD k ⟨0, 0, 0⟩) (by rw [List.getD_eq_getElem?_getD, List.getElem?_eq_getElem hkl]; exact List.getElem_mem hkl)
    have hrt := row3_touch s.l k hkl s.now
    have hc1 : w.cell? ⟨a, 1, none⟩ = some (.int .i64 s.now) := by rw [cell_heap k1]; rfl
    have hc3 : w.cell? ⟨a, 3, none⟩ = some (.slice (some ⟨g2, 0, none⟩) s.l.length cap) := by rw [cell_heap k1]; rfl
    have c1 : w.cell? ⟨g2, k * 3 + 1, none⟩ = some (.int .i64 (s.l.getD k ⟨0, 0, 0⟩).span) := hcell k 1 hkl (by decide)
    have c2 : w.cell? ⟨g2, k * 3 + 2, none⟩ = some (.int .i64 (s.l.getD k ⟨0, 0, 0⟩).till) := hcell k 2 hkl (by decide)
    have HRT := Lib.hid hrt; clear hrt hsp hcell hflt hfge hf k1 k2 k3
    have hml : (s.l.modify k (liveOn s.now)).length = s.l.length := List.length_modify ..
    have HML := Lib.hid hml; clear hml
    generalize hx : s.l.getD k ⟨0, 0, 0⟩ = x at *
    have HX := Lib.hid hx; clear hx
    go_enter Try.func13, Try.ntmps13
    go_wp2_with fail
    refine HFI.out.mono ?_
    rintro e w1 ⟨rfl, hb⟩
    have h1 := HH.out.below hb
    have HB0 := Lib.hid hb
    replace hc1 := cell_later hb hc1
    replace hc3 := cell_later hb hc3
    replace c1 := cell_later hb c1
    replace c2 := cell_later hb c2
    have hfr : w1.frozen? ⟨g2, k * 3 + 2, none⟩ = false := by
      obtain ⟨⟨v, k1, k2, k3⟩, _, _⟩ := h1
      obtain ⟨ao, cap2, rfl, _, _⟩ := row_shape k2
      rw [cell_heap k1] at hc3
      simp at hc3
      rw [hc3.1, hc3.2] at k2
      exact World.ownsRow.frozenAt k2 (k * 3 + 2)
    have HP : Hid (IsSess (w1.drew.setCell ⟨g2, k * 3 + 2, none⟩ (.int .i64 (s.now + x.span))) base a (some g2) { s with l := s.l.modify k (liveOn s.now) } ∧ Only [a, g2] w (w1.drew.setCell ⟨g2, k * 3 + 2, none⟩ (.int .i64 (s.now + x.span)))) := Lib.hid (by
      obtain ⟨⟨v, k1, k2, k3⟩, hge, hne⟩ := h1.heap (show w1.drew.heap = w1.heap from rfl)
      have hsto : Only [g2] w1.drew (w1.drew.setCell ⟨g2, k * 3 + 2, none⟩ (.int .i64 (s.now + x.span))) := (Only.refl _ _).setCell (by simp) _
      obtain ⟨ao, cap2, rfl, _, _⟩ := row_shape k2
      have hc3' : w1.drew.cell? ⟨a, 3, none⟩ = some (.slice (some ⟨g2, 0, none⟩) s.l.length cap) := hc3
      rw [cell_heap k1] at hc3'
      simp at hc3'
      obtain ⟨rfl, rfl⟩ := hc3'
      refine ⟨⟨⟨_, hsto.keeps k1 (by simpa using fun e => hne (by rw [e])), ?_, rfl⟩, hge, hne⟩, ?_⟩
      · show World.ownsRow _ base 54 3 _ (s.l.modify k (liveOn s.now)).length (row3 (s.l.modify k (liveOn s.now)))
        rw [HRT.out, HML.out]
        exact (World.ownsRow.stored k2 _ _).1
      · exact (only_heap (Only.ofBelow HB0.out [a, g2]) (show w1.drew.heap = w1.heap from rfl) rfl rfl rfl).setCell (by simp) _)
    clear h1 HML HRT HX HFI HH
    generalize hll : s.l.length = n at *
    have b1 : (k : Int) < (n : Int) := by omega
    go_wp2_with fail
    go_still_tail 20, (by kernel_rfl)
    have w4 : IntKind.i64.wrap (s.now + x.span) = s.now + x.span := IntWalk.i64_in _ (by omega)
    rw [w4]
    clear w4
    change wpList _ _ _ _ _ w1.drew
    replace c2 : w1.drew.cell? ⟨g2, k * 3 + 2, none⟩ = some (.int .i64 x.till) := c2
    replace hfr : w1.drew.frozen? ⟨g2, k * 3 + 2, none⟩ = false := hfr
    go_wp2_with fail
    go_ret
    exact ⟨rfl, HP.out.1, HP.out.2⟩
end Go.Proofs.Ytmlgggcdjknlfaa
