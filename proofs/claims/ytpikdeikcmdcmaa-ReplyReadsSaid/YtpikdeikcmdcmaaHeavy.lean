/-
  Whether results are more than is asked of. No condition.
-/
import Derived.Test.YtpikdeikcmdcmaaRMath
namespace Go.Proofs.Ytpikdeikcmdcmaa
open Go.RowKit
structure LightR (x : Re) : Prop where
  path : x.path.size ≤ 300
  data : x.data.size ≤ 300
  names : x.names.length ≤ 40
  each : ∀ s ∈ x.names, s.size ≤ 100
theorem LightR.fit {x : Re} (h : LightR x) : FitR x := ⟨by have := h.path; omega, by have := h.data; omega, by have := h.names; omega, fun s hs => by have := h.each s hs; omega⟩
theorem getD_each {l : List ByteArray} {n : Nat} (hn : l.length = n) (h : ∀ j, j < n → (l.getD j ByteArray.empty).size ≤ 100) : ∀ s ∈ l, s.size ≤ 100 := by
  intro s hs
  obtain ⟨j, hj, rfl⟩ := List.getElem_of_mem hs
  have := h j (by omega)
  rwa [List.getD_eq_getElem?_getD, List.getElem?_eq_getElem hj] at this
theorem resL_each {l : List (Re × Value)} {n : Nat} (hn : l.length = n) (h : ∀ j, j < n → ∀ x, (resL l)[j]? = some x → LightR x) : ∀ x ∈ resL l, LightR x := by
  intro x hx
  obtain ⟨j, hj, rfl⟩ := List.getElem_of_mem hx
  exact h j (by simpa [resL, hn] using hj) _ (List.getElem?_eq_getElem hj)
def HeavyP (w : World) (n : Nat) (l : List (Re × Value)) (e : Ending) (w' : World) : Prop := ∃ b, e = .returned (.bool b) ∧ (b = false → n ≤ 20 ∧ ∀ x ∈ resL l, LightR x) ∧ Below w.heap.size w w'
theorem HeavyP.yes {w w' : World} {n : Nat} {l : List (Re × Value)} (h : Below w.heap.size w w') : HeavyP w n l (.returned (.bool true)) w' := ⟨true, rfl, by simp, h⟩
theorem HeavyP.no {w w' : World} {n : Nat} {l : List (Re × Value)} (h : Below w.heap.size w w') (h1 : n ≤ 20) (h2 : ∀ x ∈ resL l, LightR x) : HeavyP w n l (.returned (.bool false)) w' := ⟨false, rfl, fun _ => ⟨h1, h2⟩, h⟩
set_option maxHeartbeats 4000000 in
theorem heavy_any (ao : Option Addr) (n c : Nat) (l : List (Re × Value)) (w : World) (h : IsRes w ao n l) (hn : n ≤ 140737488355328) :
    Calls Try.prog 15 #[.slice ao n c] w (HeavyP w n l) := by
  have HH := Lib.hid h; clear h
  by_cases hb : 20 < n
  · have g1 : decide ((20 : Int) < (n : Int)) = true := by simp; omega
    go_enter Try.func15, Try.ntmps15
    go_wp2_with fail
    go_ret
    exact HeavyP.yes (Below.refl _ _)
  · have g1 : decide ((20 : Int) < (n : Int)) = false := by simp; omega
    go_enter Try.func15, Try.ntmps15
    go_wp2_with fail
    go_loopw [3] (fun i wr => ∃ k : Nat, k ≤ n ∧ i = .int .i64 k ∧ (∀ j, j < k → ∀ x, (resL l)[j]? = some x → LightR x) ∧ Below w.heap.size w wr) (fun i _ => n - (intOf i).toNat)
    case atStart => exact ⟨0, Nat.zero_le _, rfl, fun j hj => by omega, Below.refl _ _⟩
    case round =>
      obtain ⟨k, hk, rfl, hup, hbl⟩ := hrel
      have HUP := Lib.hid hup; clear hup
      have HBL := Lib.hid hbl; clear hbl
      by_cases hlt : k < n
      · obtain ⟨b, off, rfl, x, v, hx, hv, c0, c1, c2, c3, c4, c5, c6, c7, c8, c9, c10⟩ := (HH.out.below HBL.out).get hlt
        have HX := Lib.hid (resL_at l k (by rw [HH.out.len]; exact hlt) hx)
        have HV := Lib.hid hv
        obtain ⟨va, vn, vc, rfl, hvs, _⟩ := hv
        have HVS := Lib.hid hvs; clear hvs hx c0 c4 c5 c6 c7 c8 c9 c10
        obtain ⟨xe, xp, xd, xn, xa, xb, xc, xg, xh, xi, xj⟩ := x
        simp only at c1 c2 c3 HVS
        by_cases h1 : 300 < xp.size
        · have g1 : decide ((300 : Int) < (xp.size : Int)) = true := by simp; omega
          go_wp2_with fail
          go_ret
          exact HeavyP.yes (HBL.out)
        · have g1 : decide ((300 : Int) < (xp.size : Int)) = false := by simp; omega
          by_cases h2 : 300 < xd.size
          · have g2 : decide ((300 : Int) < (xd.size : Int)) = true := by simp; omega
            go_wp2_with fail
            go_ret
            exact HeavyP.yes (HBL.out)
          · have g2 : decide ((300 : Int) < (xd.size : Int)) = false := by simp; omega
            by_cases h3 : 40 < vn
            · have g3 : decide ((40 : Int) < (vn : Int)) = true := by simp; omega
              go_wp2_with fail
              go_ret
              exact HeavyP.yes (HBL.out)
            · have g3 : decide ((40 : Int) < (vn : Int)) = false := by simp; omega
              go_wp2_with fail
              go_loopw [4] (fun i wq => ∃ q : Nat, q ≤ vn ∧ i = .int .i64 q ∧ (∀ j, j < q → (xn.getD j ByteArray.empty).size ≤ 100) ∧ wq = wr) (fun i _ => vn - (intOf i).toNat)
              case atStart => exact ⟨0, Nat.zero_le _, rfl, fun j hj => by omega, rfl⟩
              case round =>
                obtain ⟨q, hq, rfl, hup2, rfl⟩ := hrel
                have HUP2 := Lib.hid hup2; clear hup2
                by_cases hlt2 : q < vn
                · obtain ⟨vb, voff, rfl, hxx⟩ := (HVS.out.at_).resolve_left (by omega)
                  have hcn := hxx q hlt2
                  generalize hS : xn.getD q ByteArray.empty = s at *
                  have HSS := Lib.hid hS
                  clear hxx hS
                  by_cases h4 : 100 < s.size
                  · have g4 : decide ((100 : Int) < (s.size : Int)) = true := by simp; omega
                    go_wp2_with fail
                    go_ret
                    exact HeavyP.yes (HBL.out)
                  · have g4 : decide ((100 : Int) < (s.size : Int)) = false := by simp; omega
                    go_wp2_with fail
                    go_roundw
                    case rel =>
                      refine ⟨q + 1, by omega, by go_num, fun j hj => ?_, by trivial⟩
                      by_cases hjq : j = q
                      · subst hjq; rw [HSS.out]; omega
                      · exact HUP2.out j (by omega)
                    case measure => simp [intOf]; omega
                · obtain rfl : q = vn := by omega
                  go_wp2_with fail
                  go_roundw
                  case rel =>
                    refine ⟨k + 1, by omega, by go_num, fun j hj y hy => ?_, HBL.out⟩
                    by_cases hjk : j = k
                    · subst hjk
                      rw [HX.out] at hy
                      cases hy
                      exact ⟨by show xp.size ≤ 300; omega, by show xd.size ≤ 300; omega, by show xn.length ≤ 40; rw [HVS.out.len]; omega, getD_each HVS.out.len HUP2.out⟩
                    · exact HUP.out j (by omega) y hy
                  case measure => simp [intOf]; omega
      · obtain rfl : k = n := by omega
        go_wp2_with fail
        go_ret
        exact HeavyP.no HBL.out (by omega) (resL_each HH.out.len HUP.out)
end Go.Proofs.Ytpikdeikcmdcmaa
