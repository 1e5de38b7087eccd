/-
  Whether two lists of results are alike.
-/
import Derived.Test.YtpikdeikcmdcmaaLike
import Derived.BigRegion
namespace Go.Proofs.Ytpikdeikcmdcmaa
open Go.RowKit
def resL (l : List (Re × Value)) : List Re := l.map (·.1)
theorem resL_at (l : List (Re × Value)) (i : Nat) (h : i < l.length) {x : Re} {v : Value} (e : l.getD i default = (x, v)) : (resL l)[i]? = some x := by
  rw [resL, List.getElem?_map, List.getElem?_eq_getElem h]
  rw [List.getD_eq_getElem?_getD, List.getElem?_eq_getElem h] at e
  simp only [Option.getD_some] at e
  rw [e]; rfl
theorem resL_ne {l m : List (Re × Value)} {k : Nat} {x y : Re} (h1 : (resL l)[k]? = some x) (h2 : (resL m)[k]? = some y) (h : x ≠ y) : decide (resL l = resL m) = false := by
  refine decide_eq_false fun e => h ?_
  rw [e, h2] at h1
  simpa using h1.symm
theorem resL_eq {l m : List (Re × Value)} {n : Nat} (h1 : l.length = n) (h2 : m.length = n) (h : ∀ j, j < n → (resL l)[j]? = (resL m)[j]?) : decide (resL l = resL m) = true := by
  refine decide_eq_true (List.ext_getElem? fun j => ?_)
  by_cases hj : j < n
  · exact h j hj
  · rw [List.getElem?_eq_none (by simp [resL]; omega), List.getElem?_eq_none (by simp [resL]; omega)]

set_option maxHeartbeats 4000000 in
theorem equal_any (ao : Option Addr) (n c : Nat) (l : List (Re × Value)) (bo : Option Addr) (q c2 : Nat) (m : List (Re × Value)) (w : World) (h : IsRes w ao n l) (h2 : IsRes w bo q m) (hn : n ≤ 1000000) (hq : q ≤ 1000000) :
    Calls Try.prog 30 #[.slice ao n c, .slice bo q c2, .func (.func 31) #[] #[]] w fun e w' => e = .returned (.bool (decide (resL l = resL m))) ∧ Below w.heap.size w w' := by
  by_cases hnq : n = q
  · subst hnq
    have HA := Lib.hid h; have HB := Lib.hid h2
    clear h h2
    go_enter Try.func30, Try.ntmps30
    go_wp2_with fail
    go_loopw [17] (fun i wr => ∃ k : Nat, k ≤ n ∧ i = .int .i64 k ∧ (∀ j, j < k → (resL l)[j]? = (resL m)[j]?) ∧ Below w.heap.size w wr) (fun i _ => n - (intOf i).toNat)
    case atStart => exact ⟨0, Nat.zero_le _, rfl, fun j hj => by omega, Below.refl _ _⟩
    case round =>
      obtain ⟨k, hk, rfl, hup, hbl⟩ := hrel
      have HUP := Lib.hid hup; clear hup
      have HBL := Lib.hid hbl; clear hbl
      by_cases hlt : k < n
      · obtain ⟨b, off, rfl, x, v, hx, hv, c0, c1, c2, c3, c4, c5, c6, c7, c8, c9, c10⟩ := (HA.out.below HBL.out).get hlt
        obtain ⟨b2, off2, rfl, y, u, hy, hu, k0, k1, k2, k3, k4, k5, k6, k7, k8, k9, k10⟩ := (HB.out.below HBL.out).get hlt
        have HX := Lib.hid (resL_at l k (by rw [HA.out.len]; exact hlt) hx)
        have HY := Lib.hid (resL_at m k (by rw [HB.out.len]; exact hlt) hy)
        have HV := Lib.hid hv; have HU := Lib.hid hu
        clear hx hy
        obtain ⟨va, vn, vc, rfl, _, _⟩ := hv
        obtain ⟨ua, un, uc, rfl, _, _⟩ := hu
        cases x with
        | mk xe xp xd xn xa xb xc xg xh xi xj =>
        cases y with
        | mk ye yp yd yn ya yb yc yg yh yi yj =>
        simp only at c0 c1 c2 c3 c4 c5 c6 c7 c8 c9 c10 k0 k1 k2 k3 k4 k5 k6 k7 k8 k9 k10
        replace k0 := fun (o : Obj) => cell_later ((Below.refl wr.heap.size wr).alloc (Nat.le_refl _) o) k0
        replace k1 := fun (o : Obj) => cell_later ((Below.refl wr.heap.size wr).alloc (Nat.le_refl _) o) k1
        replace k2 := fun (o : Obj) => cell_later ((Below.refl wr.heap.size wr).alloc (Nat.le_refl _) o) k2
        replace k3 := fun (o : Obj) => cell_later ((Below.refl wr.heap.size wr).alloc (Nat.le_refl _) o) k3
        replace k4 := fun (o : Obj) => cell_later ((Below.refl wr.heap.size wr).alloc (Nat.le_refl _) o) k4
        replace k5 := fun (o : Obj) => cell_later ((Below.refl wr.heap.size wr).alloc (Nat.le_refl _) o) k5
        replace k6 := fun (o : Obj) => cell_later ((Below.refl wr.heap.size wr).alloc (Nat.le_refl _) o) k6
        replace k7 := fun (o : Obj) => cell_later ((Below.refl wr.heap.size wr).alloc (Nat.le_refl _) o) k7
        replace k8 := fun (o : Obj) => cell_later ((Below.refl wr.heap.size wr).alloc (Nat.le_refl _) o) k8
        replace k9 := fun (o : Obj) => cell_later ((Below.refl wr.heap.size wr).alloc (Nat.le_refl _) o) k9
        replace k10 := fun (o : Obj) => cell_later ((Below.refl wr.heap.size wr).alloc (Nat.le_refl _) o) k10
        have B1 := fun (a b : Obj) => HBL.out.trans ((below_two wr a b).mono HBL.out.size)
        have HB1 := Lib.hid B1; clear B1
        go_wp2_with fail
        refine (alike_any ⟨xe, xp, xd, xn, xa, xb, xc, xg, xh, xi, xj⟩ ⟨ye, yp, yd, yn, ya, yb, yc, yg, yh, yi, yj⟩ _ _ _ (HV.out.below (below_two _ _ _)) (HU.out.below (below_two _ _ _))).mono ?_
        rintro e w1 ⟨rfl, hb1⟩
        have hb2 := (HB1.out _ _).trans (hb1.mono (HB1.out _ _).size)
        have HB2 := Lib.hid hb2; clear hb2 hb1 HB1
        clear c0 c1 c2 c3 c4 c5 c6 c7 c8 c9 c10 k0 k1 k2 k3 k4 k5 k6 k7 k8 k9 k10
        generalize hxx : (⟨xe, xp, xd, xn, xa, xb, xc, xg, xh, xi, xj⟩ : Re) = x at *
        generalize hyy : (⟨ye, yp, yd, yn, ya, yb, yc, yg, yh, yi, yj⟩ : Re) = y at *
        by_cases hxy : x = y
        · have g1 : decide (x = y) = true := decide_eq_true hxy
          have HXY := Lib.hid hxy
          clear hxy hxx hyy
          go_wp2_with fail
          go_roundw
          case rel =>
            refine ⟨k + 1, by omega, by go_num, ?_, HB2.out⟩
            intro j hj
            by_cases hjk : j = k
            · subst hjk; rw [HX.out, HY.out, HXY.out]
            · exact HUP.out j (by omega)
          case measure => simp [intOf]; omega
        · have g1 : decide (x = y) = false := decide_eq_false hxy
          have g2 := resL_ne HX.out HY.out hxy
          go_wp2_with fail
          go_ret
          exact ⟨by rw [g2]; rfl, HB2.out⟩
      · go_wp2_with fail
        go_ret
        refine ⟨?_, HBL.out⟩
        rw [resL_eq HA.out.len HB.out.len (fun j hj => HUP.out j (by omega))]; rfl
  · have d0 : ((n : Int) != (q : Int)) = true := by simp; omega
    have g2 : decide (resL l = resL m) = false := by
      refine decide_eq_false fun e => hnq ?_
      have := congrArg List.length e
      simpa [resL, h.len, h2.len] using this
    clear h h2
    go_enter Try.func30, Try.ntmps30
    go_wp2_with fail
    go_ret
    exact ⟨by rw [g2]; rfl, Below.refl _ _⟩

theorem alikeL_any (ao : Option Addr) (n c : Nat) (l : List (Re × Value)) (bo : Option Addr) (q c2 : Nat) (m : List (Re × Value)) (w : World) (h : IsRes w ao n l) (h2 : IsRes w bo q m) (hn : n ≤ 1000000) (hq : q ≤ 1000000) :
    Calls Try.prog 14 #[.slice ao n c, .slice bo q c2] w fun e w' => e = .returned (.bool (decide (resL l = resL m))) ∧ Below w.heap.size w w' := by
  go_enter Try.func14, Try.ntmps14
  go_wp2_with fail
  refine (equal_any ao n c l bo q c2 m w h h2 hn hq).mono ?_
  rintro e w1 ⟨rfl, hb1⟩
  generalize hz : decide (resL l = resL m) = z
  have HZ := Lib.hid hz; clear hz
  go_wp2_with fail
  go_ret
  exact ⟨by rw [HZ.out]; rfl, hb1⟩

set_option maxHeartbeats 4000000 in
theorem rall_any (ao : Option Addr) (n c : Nat) (l : List (Re × Value)) (bo : Option Addr) (q c2 : Nat) (m : List (Re × Value)) (w : World) (h : IsRes w ao n l) (h2 : IsRes w bo q m) (hn : n ≤ 1000000) (hq : q ≤ 1000000) :
    Calls Try.prog 20 #[.slice ao n c, .slice bo q c2] w fun e w' => e = .returned (.bool (decide (resL l = resL m))) ∧ Below w.heap.size w w' := by
  by_cases hnq : n = q
  · subst hnq
    have HA := Lib.hid h; have HB := Lib.hid h2
    clear h h2
    go_enter Try.func20, Try.ntmps20
    go_wp2_with fail
    go_loopw [5] (fun i wr => ∃ k : Nat, k ≤ n ∧ i = .int .i64 k ∧ (∀ j, j < k → (resL l)[j]? = (resL m)[j]?) ∧ Below w.heap.size w wr) (fun i _ => n - (intOf i).toNat)
    case atStart => exact ⟨0, Nat.zero_le _, rfl, fun j hj => by omega, Below.refl _ _⟩
    case round =>
      obtain ⟨k, hk, rfl, hup, hbl⟩ := hrel
      have HUP := Lib.hid hup; clear hup
      have HBL := Lib.hid hbl; clear hbl
      by_cases hlt : k < n
      · obtain ⟨b, off, rfl, x, v, hx, hv, c0, c1, c2, c3, c4, c5, c6, c7, c8, c9, c10⟩ := (HA.out.below HBL.out).get hlt
        obtain ⟨b2, off2, rfl, y, u, hy, hu, k0, k1, k2, k3, k4, k5, k6, k7, k8, k9, k10⟩ := (HB.out.below HBL.out).get hlt
        have HX := Lib.hid (resL_at l k (by rw [HA.out.len]; exact hlt) hx)
        have HY := Lib.hid (resL_at m k (by rw [HB.out.len]; exact hlt) hy)
        have HV := Lib.hid hv; have HU := Lib.hid hu
        clear hx hy
        obtain ⟨va, vn, vc, rfl, _, _⟩ := hv
        obtain ⟨ua, un, uc, rfl, _, _⟩ := hu
        cases x with
        | mk xe xp xd xn xa xb xc xg xh xi xj =>
        cases y with
        | mk ye yp yd yn ya yb yc yg yh yi yj =>
        simp only at c0 c1 c2 c3 c4 c5 c6 c7 c8 c9 c10 k0 k1 k2 k3 k4 k5 k6 k7 k8 k9 k10
        have hCC := fun (W : World) (hb : Below wr.heap.size wr W) => one_any ⟨xe, xp, xd, xn, xa, xb, xc, xg, xh, xi, xj⟩ ⟨ye, yp, yd, yn, ya, yb, yc, yg, yh, yi, yj⟩ _ _ W (HV.out.below hb) (HU.out.below hb)
        generalize hzz : decide ((⟨xe, xp, xd, xn, xa, xb, xc, xg, xh, xi, xj⟩ : Re) = ⟨ye, yp, yd, yn, ya, yb, yc, yg, yh, yi, yj⟩) = z at hCC
        have HC := Lib.hid hCC; have HZZ := Lib.hid hzz
        clear hCC hzz
        have c0 := (show wr.drew.cell? _ = _ from c0)
        have c1 := (show wr.drew.cell? _ = _ from c1)
        have c2 := (show wr.drew.cell? _ = _ from c2)
        have c3 := (show wr.drew.cell? _ = _ from c3)
        have c4 := (show wr.drew.cell? _ = _ from c4)
        have c5 := (show wr.drew.cell? _ = _ from c5)
        have c6 := (show wr.drew.cell? _ = _ from c6)
        have c7 := (show wr.drew.cell? _ = _ from c7)
        have c8 := (show wr.drew.cell? _ = _ from c8)
        have c9 := (show wr.drew.cell? _ = _ from c9)
        have c10 := (show wr.drew.cell? _ = _ from c10)
        have k0 := (show wr.drew.cell? _ = _ from k0)
        have k1 := (show wr.drew.cell? _ = _ from k1)
        have k2 := (show wr.drew.cell? _ = _ from k2)
        have k3 := (show wr.drew.cell? _ = _ from k3)
        have k4 := (show wr.drew.cell? _ = _ from k4)
        have k5 := (show wr.drew.cell? _ = _ from k5)
        have k6 := (show wr.drew.cell? _ = _ from k6)
        have k7 := (show wr.drew.cell? _ = _ from k7)
        have k8 := (show wr.drew.cell? _ = _ from k8)
        have k9 := (show wr.drew.cell? _ = _ from k9)
        have k10 := (show wr.drew.cell? _ = _ from k10)
        cases z with
        | true =>
          have HXY := Lib.hid (of_decide_eq_true HZZ.out)
          go_wp2_with fail
          go_region_with (go_at_call 34; go_must (refine (HC.out _ (by exact below_drew (Below.refl _ _) 1)).mono ?_); rintro e w1 ⟨rfl, hb1⟩; go_must (have hb2 := HBL.out.trans (((below_drew (Below.refl wr.heap.size wr) 1).trans (hb1.mono (by exact Nat.le_refl _))).mono HBL.out.size)); have HB2 := Lib.hid hb2; clear hb2 hb1)
          clear c0 c1 c2 c3 c4 c5 c6 c7 c8 c9 c10 k0 k1 k2 k3 k4 k5 k6 k7 k8 k9 k10 HC
          all_goals
            go_wp2_with fail
            go_roundw
            case rel =>
              refine ⟨k + 1, by omega, by go_num, ?_, HB2.out⟩
              intro j hj
              by_cases hjk : j = k
              · subst hjk; rw [HX.out, HY.out, HXY.out]
              · exact HUP.out j (by omega)
            case measure => simp [intOf]; omega
        | false =>
          have g2 := resL_ne HX.out HY.out (of_decide_eq_false HZZ.out)
          go_wp2_with fail
          go_region_with (go_at_call 34; go_must (refine (HC.out _ (by exact below_drew (Below.refl _ _) 1)).mono ?_); rintro e w1 ⟨rfl, hb1⟩; go_must (have hb2 := HBL.out.trans (((below_drew (Below.refl wr.heap.size wr) 1).trans (hb1.mono (by exact Nat.le_refl _))).mono HBL.out.size)); have HB2 := Lib.hid hb2; clear hb2 hb1)
          clear c0 c1 c2 c3 c4 c5 c6 c7 c8 c9 c10 k0 k1 k2 k3 k4 k5 k6 k7 k8 k9 k10 HC
          all_goals
            go_wp2_with fail
            go_ret
            exact ⟨by rw [g2]; rfl, HB2.out⟩
      · go_wp2_with fail
        go_ret
        refine ⟨?_, HBL.out⟩
        rw [resL_eq HA.out.len HB.out.len (fun j hj => HUP.out j (by omega))]; rfl
  · have d0 : ((n : Int) != (q : Int)) = true := by simp; omega
    have g2 : decide (resL l = resL m) = false := by
      refine decide_eq_false fun e => hnq ?_
      have := congrArg List.length e
      simpa [resL, h.len, h2.len] using this
    clear h h2
    go_enter Try.func20, Try.ntmps20
    go_wp2_with fail
    go_ret
    exact ⟨by rw [g2]; rfl, Below.refl _ _⟩

end Go.Proofs.Ytpikdeikcmdcmaa
