/-
  A message is doubled, or not.
-/
import Derived.Test.YtmehgkbhpfcmpaaGL
import Derived.Test.YtmehgkbhpfcmpaaAw
namespace Go.Proofs.Ytmehgkbhpfcmpaa.G
open Go.RowKit Go.Proofs.Ytmehgkbhpfcmpaa

section
variable {w0 w : World} {base a : Nat} {s : Nt} {es : List ((Int × Int) × Bool)}
theorem OursN.drew (h : OursN w0 w base a s es) (d : Nat) : OursN w0 (w.drewN d) base a s es := h.later (below_drew (Below.refl _ _) d)
set_option maxHeartbeats 1000000 in
theorem copy_no (h : OursN w0 w base a s es) (x : Int) (hx : hasN s x = false ∨ s.room ≤ (s.l.length : Int)) :
    Calls Try.prog 13 #[.pointer (some ⟨a, 0, none⟩), .int .i64 x] w fun e w' => e = .returned (.bool false) ∧ OursN w0 w' base a s es := by
  obtain ⟨g, mb, hN⟩ := h.is
  have HH : Hid (∀ d, Calls Try.prog 28 #[.pointer (some ⟨a, 0, none⟩), .int .i64 x] (w.drewN d) fun e w' => e = .returned (.bool (hasN s x)) ∧ w.drewN d = w') := Lib.hid fun d => has_any (hN.below (below_drew (Below.refl _ _) d)) x
  have HU : Hid (∀ d, OursN w0 (w.drewN d) base a s es) := Lib.hid fun d => h.drew d
  obtain ⟨⟨v, ps, k1, k2, k3, k4⟩, _, _, _⟩ := hN
  obtain ⟨ao, cap, rfl, _, _⟩ := row_shape k2
  have hc1 : w.cell? ⟨a, 1, none⟩ = some (.int .i64 s.room) := by rw [cell_heap k1]; rfl
  have hc2 : w.cell? ⟨a, 2, none⟩ = some (.slice ao s.l.length cap) := by rw [cell_heap k1]; rfl
  clear k1 k2 k3 k4 h
  generalize hb : hasN s x = b at *
  generalize s.l.length = n at *
  generalize s.room = r at *
  clear hb
  cases b
  · clear hx
    go_enter Try.func13, Try.ntmps13
    go_wp2_with fail
    go_quiet ((go_at_call 28; exact quiet_left (HH.out _)))
    go_wp2_with fail
    go_ret
    exact ⟨rfl, HU.out _⟩
  · have hr : r ≤ (n : Int) := by rcases hx with hx | hx; cases hx; exact hx
    have d0 : decide (r ≤ (n : Int)) = true := decide_eq_true hr
    clear hx hr
    go_enter Try.func13, Try.ntmps13
    go_wp2_with fail
    go_quiet ((go_at_call 28; exact quiet_left (HH.out _)))
    go_wp2_with fail
    go_ret
    exact ⟨rfl, HU.out _⟩
def copyN (s : Nt) (k : Nat) : Nt := { s with l := s.l ++ [getN s k] }
set_option maxHeartbeats 8000000 in
theorem copy_ok (h : OursN w0 w base a s es) (k : Nat) (hk : k < s.l.length) (hr : (s.l.length : Int) < s.room) (hrm : s.room ≤ 65536) (hfew : LightM (getN s k)) :
    Calls Try.prog 13 #[.pointer (some ⟨a, 0, none⟩), .int .i64 (k : Int)] w fun e w' => e = .returned (.bool true) ∧ OursN w0 w' base a (copyN s k) es := by
  obtain ⟨g, mb, hN⟩ := h.is
  have HH : Hid (∀ d, Calls Try.prog 28 #[.pointer (some ⟨a, 0, none⟩), .int .i64 (k : Int)] (w.drewN d) fun e w' => e = .returned (.bool true) ∧ w.drewN d = w') := Lib.hid fun d => by
    have := has_any (hN.below (below_drew (Below.refl _ w) d)) (k : Int)
    rwa [show hasN s (k : Int) = true by unfold hasN; rw [decide_eq_true (by omega), decide_eq_true (by omega)]; rfl] at this
  have HNC := Lib.hid hN
  have HUN := Lib.hid h
  obtain ⟨b, cap, x, xv, xu, c2, hg, hcp1, hcp2, hb1, hb2, hx, e0, e1, e2, e3, e4, hi, _, _⟩ := hN.at_ hk
  have hx' : getN s k = x := hx.symm
  unfold copyN
  rw [hx'] at hfew ⊢
  clear hx hx'
  obtain ⟨⟨vv, ps, k1, k2, k3, k4⟩, _, k6, k7⟩ := hN
  have hc1 : w.cell? ⟨a, 1, none⟩ = some (.int .i64 s.room) := by rw [cell_heap k1]; rfl
  have hvv : vv = .slice (some ⟨b, 0, none⟩) s.l.length cap := by
    have : w.cell? ⟨a, 2, none⟩ = some vv := by rw [cell_heap k1]; rfl
    rw [c2] at this
    simpa using this.symm
  subst hvv
  have hf2 := free_heap k1 2
  have HK1 : Hid (w.heap[a]? = some (netObj s (.slice (some ⟨b, 0, none⟩) s.l.length cap) mb)) := Lib.hid k1
  have HK2 := Lib.hid k2; have HK3 := Lib.hid k3; have HK4 := Lib.hid k4
  have HAP := Lib.hid HNC.out.apart
  have hi' := hi.is hfew
  have HIC := Lib.hid hi'
  obtain ⟨⟨ao, cN, rfl, _⟩, ⟨bo, cB, rfl, _⟩⟩ := hi'
  obtain ⟨mf, mt, mk, ns, bs⟩ := x
  simp only at e0 e1 e2 e3 e4
  have HFEW := Lib.hid hfew; clear hfew
  have HCP : Hid (∀ w', Below w.heap.size w w' → Calls Try.prog 27 #[.agg #[.int .i64 mf, .int .i64 mt, .int .i64 mk, .slice ao ns.length cN, .slice bo bs.length cB]] w' fun e w'' => ∃ v u, e = .returned (.agg #[.int .i64 mf, .int .i64 mt, .int .i64 mk, v, u]) ∧ OwnM w'' w'.heap.size ⟨mf, mt, mk, ns, bs⟩ v u ∧ Below w'.heap.size w' w'') := Lib.hid fun w' hb => copiedM_any ⟨mf, mt, mk, ns, bs⟩ _ _ w' (HIC.out.below hb) HFEW.out
  have d0 : decide (s.room ≤ (s.l.length : Int)) = false := decide_eq_false (by omega)
  have hbytes : s.l.length + 1 ≤ 1000000000 := by omega
  have HSC : Hid (base ≤ w.heap.size) := Lib.hid h.size
  have hkn : (k : Int) < (s.l.length : Int) := by omega
  clear k1 k2 k3 k4 hi h
  generalize htn : s.l.length = tn at *
  have HTN := Lib.hid htn; clear htn
  go_enter Try.func13, Try.ntmps13
  go_wp2_with fail
  go_quiet ((go_at_call 28; exact quiet_left (HH.out _)))
  go_wp2_with fail
  go_region_law (first
    | (refine step_append_mv (by rfl) (.tmp 25) (.tmp 34) (by rfl) base _ ps tn (by rfl) (by exact (HW.out _ rfl).1) w5.heap.size ⟨⟨mf, mt, mk, ns, bs⟩, .slice av ns.length cv, .slice bv bs.length cw⟩ (by exact ⟨rfl, rfl⟩) (by rfl) (by exact (HW.out _ rfl).2.2.1) hbytes (by exact Nat.le_trans HB5.out (Nat.le_of_eq (HW.out _ rfl).2.2.2.symm)) ?_; intro g2 cap3 w9 hown9 hgr9 hat9; have hA9 : w9.heap[a]? = some (netObj s (.slice (some ⟨b, 0, none⟩) tn cap) mb) := (hgr9.block a (lt_of_heap (HW.out _ rfl).2.1) (fun e => HAP.out.2.1 (by rw [← HK3.out]; exact e.symm))).trans (HW.out _ rfl).2.1; have hcb9 : w9.cell? ⟨a, 2, none⟩ = some (.slice (some ⟨b, 0, none⟩) tn cap) := (cell_heap hA9 2).trans rfl; have hfb9 := free_heap hA9 2)
    | (go_simp; go_at_call 27; refine (HCP.out _ (by exact below_drew (Below.refl w.heap.size w) _)).mono ?_; rintro e w5 ⟨v5, u5, rfl, hv5, hb5⟩; obtain ⟨⟨av, cv, rfl, _⟩, ⟨bv, cw, rfl, _⟩⟩ := hv5.is HFEW.out; try dsimp only; have hb5' : Below w.heap.size w w5 := ⟨hb5.os, hb5.tape, hb5.output, hb5.size, hb5.block⟩; have ha25 := cell_later hb5' c2; have ha25a := cell_later ((Below.refl w5.heap.size w5).alloc (Nat.le_refl _) (.cells #[.int .i64 mf, .int .i64 mt, .int .i64 mk, .slice av ns.length cv, .slice bv bs.length cw] 32)) ha25; have HW := Lib.hid (send_prep HK1.out (by rw [HTN.out]; exact HK2.out) hb5' ⟨mf, mt, mk, ns, bs⟩ (.slice av ns.length cv) (.slice bv bs.length cw)); rw [HTN.out] at HW; have HV5 := Lib.hid hv5; have HB5' := Lib.hid hb5'; have HB5 : Hid (base ≤ w5.heap.size + 1) := Lib.hid (by have := hb5'.size; have := HSC.out; omega); clear hb5 hv5 hb5'))
  all_goals
    have htn := HTN.out
    subst htn
    have hfin := send_fin HNC.out HK1.out HK3.out HK4.out HB5'.out ⟨mf, mt, mk, ns, bs⟩ (.slice av ns.length cv) (.slice bv bs.length cw) HV5.out ⟨rfl, rfl⟩ HSC.out (by rfl) (by rfl) (by rfl) (by rfl) hown9 hgr9 (by exact hat9) hA9
    have HF := Lib.hid hfin
    clear hfin hown9 hgr9 hat9 hA9 hcb9 hfb9 HW ha25 ha25a
    go_wp2_with fail
    go_ret
    exact ⟨rfl, HUN.out.step HNC.out HF.out.1 HF.out.2.2⟩
theorem at_no (h : OursN w0 w base a s es) (x : Int) (hx : hasN s x = false) :
    Calls Try.prog 14 #[.pointer (some ⟨a, 0, none⟩), .int .i64 x] w fun e w' => e = .returned (.tuple #[aggM m0 (.slice none 0 0) (.slice none 0 0), .bool false]) ∧ OursN w0 w' base a s es := by
  obtain ⟨g, mb, hN⟩ := h.is
  refine (at_none hN x hx).mono ?_
  rintro e w' ⟨rfl, hb⟩
  exact ⟨rfl, h.later hb⟩
theorem at_yes (h : OursN w0 w base a s es) (k : Nat) (hk : k < s.l.length) (hl : s.l.length ≤ 1000000) (hn : LightM (getN s k)) :
    Calls Try.prog 14 #[.pointer (some ⟨a, 0, none⟩), .int .i64 (k : Int)] w fun e w' => ∃ v u, e = .returned (.tuple #[aggM (getN s k) v u, .bool true]) ∧ OwnM w' w.heap.size (getN s k) v u ∧ OursN w0 w' base a s es ∧ Below w.heap.size w w' := by
  obtain ⟨g, mb, hN⟩ := h.is
  refine (at_some hN k hk hl hn).mono ?_
  rintro e w' ⟨v, u, rfl, hv, hb⟩
  exact ⟨v, u, rfl, hv, h.later hb, hb⟩
set_option maxHeartbeats 1000000 in
theorem send_none (h : OursN w0 w base a s es) :
    Calls Try.prog 11 #[.pointer (some ⟨a, 0, none⟩), .slice none 0 0] w fun e w' => e = .returned (.int .i64 0) ∧ OursN w0 w' base a s es := by
  go_enter Try.func11, Try.ntmps11
  go_wp2_with fail
  go_loopw [5, 10] (fun v i wr => v = .int .i64 0 ∧ i = .int .i64 0 ∧ wr = w) (fun _ i _ => 0)
  case atStart => exact ⟨rfl, rfl, rfl⟩
  case round =>
    obtain ⟨rfl, rfl, rfl⟩ := hrel
    go_wp2_with fail
    go_ret
    exact ⟨rfl, h⟩
end
end Go.Proofs.Ytmehgkbhpfcmpaa.G
