/-
  The document's sessions are touched, opened, closed.
-/
import Derived.Test.YtmlgggcdjknlfaaRefP
import Derived.StillTailTactics
namespace Go.Proofs.Ytmlgggcdjknlfaa
open Go.RowKit

set_option maxHeartbeats 1000000 in
theorem rtouch_any (base a : Nat) (g : Option Nat) (s : Ss) (q : Int) (w : World) (h : IsRef w base a g s) (hl : s.l.length ≤ 1000000) (hn0 : 0 ≤ s.now) (hn : s.now ≤ 2199023255552) (hsp : ∀ x ∈ s.l, 0 ≤ x.span ∧ x.span ≤ 10000) :
    Calls Try.prog 21 #[.pointer (some ⟨a, 0, none⟩), .int .i64 q] w fun e w' => e = .returned (.int .i64 (if findS s.l q < 0 then 11 else 0)) ∧ IsRef w' base a g (touchS s q) ∧ Only (a :: g.toList) w w' := by
  have hflt := findS_lt s.l q
  have hfge := findS_ge s.l q
  by_cases hf : findS s.l q < 0
  · unfold touchS
    rw [if_pos hf, if_pos hf]
    have HH := Lib.hid h
    go_enter Try.func21, Try.ntmps21
    go_wp2_with fail
    refine (at_any base a g s q w HH.out hl).mono ?_
    rintro e w1 ⟨rfl, rfl⟩
    have hb : Below w.heap.size w w := Below.refl _ _
    generalize findS s.l q = z at *
    go_wp2_with fail
    go_ret
    exact ⟨rfl, HH.out.below hb, Only.ofBelow hb _⟩
  · unfold touchS
    rw [if_neg hf, if_neg hf]
    have HH := Lib.hid h; clear h
    have HFI := Lib.hid (at_any base a g s q w HH.out hl)
    generalize findS s.l q = z at *
    obtain ⟨k, rfl⟩ := Int.eq_ofNat_of_zero_le (show 0 ≤ z by omega)
    have hkl : k < s.l.length := by omega
    obtain ⟨⟨v, k1, k2, k3⟩, hge, hne⟩ := HH.out
    obtain ⟨g2, cap, rfl, hg1, hg2, hg3, hg4, hcell⟩ := rrow_cell k2 (by omega)
    have hgg : g = some g2 := k3.symm
    subst hgg
    have hs1 := hsp (s.l.getD k ⟨0, 0, 0⟩) (by rw [List.getD_eq_getElem?_getD, List.getElem?_eq_getElem hkl]; exact List.getElem_mem hkl)
    have hrt := row3_touch s.l k hkl s.now
    have hc1 : w.cell? ⟨a, 1, none⟩ = some (.int .i64 s.now) := by rw [cell_heap k1]; rfl
    have hc3 : w.cell? ⟨a, 3, none⟩ = some (.slice (some ⟨g2, 0, none⟩) s.l.length cap) := by rw [cell_heap k1]; rfl
    have c1 : w.cell? ⟨g2, k * 3 + 1, none⟩ = some (.int .i64 (s.l.getD k ⟨0, 0, 0⟩).span) := hcell k 1 hkl (by decide)
    have c2 : w.cell? ⟨g2, k * 3 + 2, none⟩ = some (.int .i64 (s.l.getD k ⟨0, 0, 0⟩).till) := hcell k 2 hkl (by decide)
    have HRT := Lib.hid hrt; clear hrt hsp hcell hflt hfge hf k1 k2 k3
    have hml : (s.l.modify k (liveOn s.now)).length = s.l.length := List.length_modify ..
    have HML := Lib.hid hml; clear hml
    generalize hx : s.l.getD k ⟨0, 0, 0⟩ = x at *
    have HX := Lib.hid hx; clear hx
    go_enter Try.func21, Try.ntmps21
    go_wp2_with fail
    refine HFI.out.mono ?_
    rintro e w1 ⟨rfl, rfl⟩
    have hb : Below w.heap.size w w := Below.refl _ _
    have h1 := HH.out.below hb
    have HB0 := Lib.hid hb
    replace hc1 := cell_later hb hc1
    replace hc3 := cell_later hb hc3
    replace c1 := cell_later hb c1
    replace c2 := cell_later hb c2
    have hfr : w.frozen? ⟨g2, k * 3 + 2, none⟩ = false := by
      obtain ⟨⟨v, k1, k2, k3⟩, _, _⟩ := h1
      obtain ⟨ao, cap2, rfl, _, _⟩ := rrow_shape k2
      rw [cell_heap k1] at hc3
      simp at hc3
      rw [hc3.1, hc3.2] at k2
      exact World.ownsRow.frozenAt k2 (k * 3 + 2)
    have HP : Hid (IsRef (w.drew.setCell ⟨g2, k * 3 + 2, none⟩ (.int .i64 (s.now + x.span))) base a (some g2) { s with l := s.l.modify k (liveOn s.now) } ∧ Only [a, g2] w (w.drew.setCell ⟨g2, k * 3 + 2, none⟩ (.int .i64 (s.now + x.span)))) := Lib.hid (by
      obtain ⟨⟨v, k1, k2, k3⟩, hge, hne⟩ := h1.heap (show w.drew.heap = w.heap from rfl)
      have hsto : Only [g2] w.drew (w.drew.setCell ⟨g2, k * 3 + 2, none⟩ (.int .i64 (s.now + x.span))) := (Only.refl _ _).setCell (by simp) _
      obtain ⟨ao, cap2, rfl, _, _⟩ := rrow_shape k2
      have hc3' : w.drew.cell? ⟨a, 3, none⟩ = some (.slice (some ⟨g2, 0, none⟩) s.l.length cap) := hc3
      rw [cell_heap k1] at hc3'
      simp at hc3'
      obtain ⟨rfl, rfl⟩ := hc3'
      refine ⟨⟨⟨_, hsto.keeps k1 (by simpa using fun e => hne (by rw [e])), ?_, rfl⟩, hge, hne⟩, ?_⟩
      · show World.ownsRow _ base 64 3 _ (s.l.modify k (liveOn s.now)).length (row3 (s.l.modify k (liveOn s.now)))
        rw [HRT.out, HML.out]
        exact (World.ownsRow.stored k2 _ _).1
      · exact (only_heap (Only.ofBelow HB0.out [a, g2]) (show w.drew.heap = w.heap from rfl) rfl rfl rfl).setCell (by simp) _)
    clear h1 HML HRT HX HFI HH
    generalize hll : s.l.length = n at *
    have b1 : (k : Int) < (n : Int) := by omega
    go_wp2_with fail
    go_still_tail 20, (by kernel_rfl)
    have w4 : IntKind.i64.wrap (s.now + x.span) = s.now + x.span := IntWalk.i64_in _ (by omega)
    rw [w4]
    clear w4
    change wpList _ _ _ _ _ w.drew
    replace c2 : w.drew.cell? ⟨g2, k * 3 + 2, none⟩ = some (.int .i64 x.till) := c2
    replace hfr : w.drew.frozen? ⟨g2, k * 3 + 2, none⟩ = false := hfr
    go_wp2_with fail
    go_ret
    exact ⟨rfl, HP.out.1, HP.out.2⟩
end Go.Proofs.Ytmlgggcdjknlfaa
