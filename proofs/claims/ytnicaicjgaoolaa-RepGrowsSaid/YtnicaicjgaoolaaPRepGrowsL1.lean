/-
  What the proof of the law leans on: contracts of the program's functions, one behind another. No condition.
-/
import Derived.Test.YtnicaicjgaoolaaB36
set_option linter.unusedVariables false
set_option linter.unusedSimpArgs false
namespace Go.Proofs.Ytnicaicjgaoolaa
open Go.RowKit Go.ChangeMaps Go.WideMaps Go.Maps
set_option maxRecDepth 20000
theorem getD_set (l : List Nat) (i j x : Nat) (h : i < l.length) : (l.set i x).getD j 0 = if j = i then x else l.getD j 0 := by
 simp only [List.getD_eq_getElem?_getD, List.getElem?_set]
 by_cases e : j = i
 ·subst e
  rw [if_pos rfl, if_pos rfl, if_pos h]; rfl
 ·rw [if_neg e, if_neg (Ne.symm e)]
/-- the numbers that are kept: of each node no more than it tells now -/
structure ToldOk (k : Nat) (S : Mn) (tl : List Nat) : Prop where
 len : tl.length = k
 le : ∀ q, q < k → (S.at q).up = true → tl.getD q 0 ≤ toldOf (S.at q)
/-- some of them have been brought up to date -/
structure ToldTo (k q : Nat) (S : Mn) (tl0 tl : List Nat) : Prop where
 len : tl.length = k
 le : ∀ r, r < q → (S.at r).up = true → tl.getD r 0 ≤ toldOf (S.at r)
 rest : ∀ r, q ≤ r → tl.getD r 0 = tl0.getD r 0
theorem ToldTo.put {k q x : Nat} {S : Mn} {tl0 tl : List Nat} (h : ToldTo k q S tl0 tl) (hq : q < k) (hx : (S.at q).up = true → x ≤ toldOf (S.at q)) : ToldTo k (q + 1) S tl0 (tl.set q x) := by
 refine ⟨by simp [h.len], fun r hr hu => ?_, fun r hr => ?_⟩
 ·rw [getD_set _ _ _ _ (by rw [h.len]; exact hq)]
  by_cases e : r = q
  ·subst e
   rw [if_pos rfl]; exact hx hu
  ·rw [if_neg e]; exact h.le r (by omega) hu
 ·rw [getD_set _ _ _ _ (by rw [h.len]; exact hq), if_neg (by omega)]
  exact h.rest r (by omega)
set_option maxHeartbeats 16000000 in
theorem grows_said (n : Int) (ao : Option Addr) (m cp : Nat) (l : List Ac) (w : World) (hn0 : (Lit.int .i64 n).wf = true) (h : IsAx w ao m l) (hle : m ≤ cp) (hm : m ≤ 140737488355328) :
  Calls Try.prog 3 #[.int .i64 n, .slice ao m cp] w fun e w' => e = .returned (.bool true) ∧ Below w.heap.size w w' := by
 have hn := lit_sc hn0
 clear hn0
 have HX := Lib.hid h
 have HLEN := Lib.hid h.len
 go_enter Try.func3, Try.ntmps3
 go_wp2_with fail
 refine awake_any.mono ?_
 rintro e w1 ⟨rfl, hb1⟩
 have HB1 := Lib.hid hb1
 have HX1 := Lib.hid (h.below hb1)
 clear hb1 h
 by_cases hn1 : n < 1
 ·go_wp2_with fail
  go_ret
  exact ⟨rfl, HB1.out⟩
 by_cases hn5 : 5 < n
 ·go_wp2_with fail
  go_ret
  exact ⟨rfl, HB1.out⟩
 obtain ⟨k, rfl⟩ : ∃ k : Nat, n = (k : Int) := ⟨n.toNat, by omega⟩
 have hk1 : 1 ≤ k := by omega
 have hk5 : k ≤ 5 := by omega
 go_wp2_with fail
 refine (light_any ao m cp l HX1.out hm 120 (by omega)).mono ?_
 rintro e w2 ⟨rfl, hb2⟩
 have HB2 : Hid (Below w.heap.size w w2) := Lib.hid (HB1.out.trans (hb2.mono HB1.out.size))
 clear hb2
 cases hl : lightM l 120 with
 | false =>
  go_wp2_with fail
  go_ret
  exact ⟨rfl, HB2.out⟩
 | true =>
  have HLT := Lib.hid (light_of l 120 hl)
  have hm100 : m ≤ 120 := by have := HLT.out.1; have := HLEN.out; omega
  clear hl
  go_wp2_with fail
  refine (begun_any (A := []) k hk5 (fun b hb => by cases hb)).mono ?_
  rintro e w3 ⟨c, A3, Z3, rfl, hs3, hm3⟩
  have hl3 : LsA w w3 A3 Z3 c k (Mn.begun k) [] := LsA.begun (A2 := []) HB2.out hs3 hm3
  have HL4 : Hid (Ls w (w3.alloc (.cells (natsA (List.replicate k 0)) 3)) c k (Mn.begun k) [(w3.heap.size, .cells (natsA (List.replicate k 0)) 3 (0, 0))]) := Lib.hid (hl3.beside _).ls
  have HBI := Lib.hid (binv_begun k hk1 hk5)
  have HT0 : Hid (ToldOk k (Mn.begun k) (List.replicate k 0)) := Lib.hid ⟨by simp, fun q hq _ => by rw [show (List.replicate k 0).getD q 0 = 0 by simp [List.getD, hq]]; exact Nat.zero_le _⟩
  have hmk := make_nats k hk5
  clear hs3 hm3 hl3
  go_wp2_with fail
  generalize w3.alloc (.cells (natsA (List.replicate k 0)) 3) = w4 at *
  generalize w3.heap.size = T at *
  go_loopw [7] (fun i wr => ∃ (j : Nat) (tl : List Nat), j ≤ m ∧ i = .int .i64 (j : Int) ∧ Ls w wr c k ((Mn.begun k).acts k (l.take j)) [(T, .cells (natsA tl) 3 (0, 0))] ∧ ToldOk k ((Mn.begun k).acts k (l.take j)) tl) (fun i _ => m - (intOf i).toNat)
  case atStart => exact ⟨0, _, Nat.zero_le _, rfl, HL4.out, HT0.out⟩
  case round =>
   obtain ⟨j, tl, hj, rfl, ⟨A, Z, hls⟩, htl⟩ := hrel
   rename World => wr
   have HLS := Lib.hid hls
   have HTL := Lib.hid htl
   clear hls htl
   have q6 : IntKind.i64.wrap ((j : Int) + 1) = (j : Int) + 1 := IntWalk.i64_in _ (by omega)
   have HBJ : Hid (BInv k (0 + (l.take j).length) (1 + (l.take j).length) ((Mn.begun k).acts k (l.take j))) := Lib.hid (HBI.out.acts _)
   have HLJ : Hid ((l.take j).length ≤ 120) := Lib.hid (by rw [List.length_take]; omega)
   by_cases hjm : j < m
   ·have hjm2 : (j : Int) < (m : Int) := by omega
    obtain ⟨b, off, rfl, hat⟩ : ∃ b off, ao = some ⟨b, off, none⟩ ∧ ∀ i, i < m → AtAc w b (off + i * 5) (l.getD i ac0) := by
     rcases HX.out.at_ with h0 | h0
     ·omega
     ·exact h0
    have ha := hat j hjm
    obtain ⟨bo, bc, k4, hz⟩ := ha.z (A := A) HLS.out.age HLS.out.bel
    have hg : l.getD j ac0 = l[j]'(by have := HLEN.out; omega) := by simp [List.getD, show j < l.length by have := HLEN.out; omega]
    have HE : Hid ((Mn.begun k).acts k (l.take (j + 1)) = ((Mn.begun k).acts k (l.take j)).act k (l.getD j ac0)) := Lib.hid (by
     rw [hg, ← List.take_append_getElem (by have := HLEN.out; omega)]
     unfold Mn.acts
     rw [List.foldl_append]
     rfl)
    have HBX : Hid ((l.getD j ac0).B.length ≤ 300) := Lib.hid (by rw [hg]; exact HLT.out.2 _ (List.getElem_mem _))
    have ha2 := ha.below HLS.out.bel
    have k0 := ha2.c0
    have k1 := ha2.c1
    have k2 := ha2.c2
    have k3 := ha2.c3
    have HAC := Lib.hid ha
    have HZZ := Lib.hid hz
    clear ha ha2 hat hg hz
    generalize l.getD j ac0 = x at *
    have HDO := Lib.hid (do_any HLS.out.sy HBJ.out x bo bc HZZ.out HBX.out HAC.out.p1 (by have := HLJ.out; omega) (by have := HLJ.out; omega))
    have HBJ2 := Lib.hid (HBJ.out.act x)
    have HGR : Hid (x.op ≠ 5 → ∀ r, ((((Mn.begun k).acts k (l.take j)).act k x).at r).up = true → (((Mn.begun k).acts k (l.take j)).at r).up = true ∧ toldOf (((Mn.begun k).acts k (l.take j)).at r) ≤ toldOf ((((Mn.begun k).acts k (l.take j)).act k x).at r)) := Lib.hid (fun ho r hu => act_told HBJ.out x ho r hu)
    obtain ⟨o, N, K, P, B⟩ := x
    simp only at k0 k1 k2 k3 k4
    go_wp2_with fail
    refine HDO.out.mono ?_
    rintro e w5 ⟨rfl, hs5⟩
    have HF : Hid (Ls w w5 c k (((Mn.begun k).acts k (l.take j)).act k ⟨o, N, K, P, B⟩) [(T, .cells (natsA tl) 3 (0, 0))]) := Lib.hid (HLS.out.step hs5)
    have HS0 : Hid (∀ S, S = (Mn.begun k).acts k (l.take j) → True) := Lib.hid (fun _ _ => trivial)
    clear hs5 k0 k1 k2 k3 k4 HDO HLS
    generalize hS1 : (Mn.begun k).acts k (l.take j) = S1 at *
    generalize hS2 : S1.act k ⟨o, N, K, P, B⟩ = S2 at *
    clear hS1 HS0
    have HS2E := Lib.hid hS2
    clear hS2
    go_wp2_with fail
    go_loopw [8] (fun i wr => ∃ (q : Nat) (tl2 : List Nat), q ≤ k ∧ i = .int .i64 (q : Int) ∧ Ls w wr c k S2 [(T, .cells (natsA tl2) 3 (0, 0))] ∧ ToldTo k q S2 tl tl2) (fun i _ => k - (intOf i).toNat)
    case atStart => exact ⟨0, tl, Nat.zero_le _, rfl, HF.out, ⟨HTL.out.len, fun r hr => by omega, fun r _ => rfl⟩⟩
    case round =>
     obtain ⟨q, tl2, hq, rfl, ⟨A6, Z6, hls6⟩, htt⟩ := hrel
     rename World => w6
     have HL6 := Lib.hid hls6
     have HTT := Lib.hid htt
     have q7 : IntKind.i64.wrap ((q : Int) + 1) = (q : Int) + 1 := IntWalk.i64_in _ (by omega)
     by_cases hqk : q < k
     ·have hqk2 : (q : Int) < (k : Int) := by omega
      obtain ⟨Y, rs, ds, ls, Xs, vr, vd, gu, qv, gv, lv, hs, hzz⟩ := hls6.sy
      obtain ⟨gr, kr, evr, hkr, hrow⟩ := ptr_cell hs.rr (by omega)
      subst evr
      have hc0 : w6.cell? ⟨c, 0, none⟩ = some (.slice (some ⟨gr, 0, none⟩) k kr) := by rw [cell_heap hs.cell]; rfl
      have hc2 : w6.cell? ⟨c, 2, none⟩ = some (.slice (some ⟨gu, 0, none⟩) k k) := by rw [cell_heap hs.cell]; rfl
      have hup := hs.upAt q hqk
      have hrj := hrow q hqk
      have k0 := (HAC.out.below hls6.bel).c0
      simp only at k0
      have hT := (hls6.ts _ List.mem_cons_self).2.2
      have hTc : w6.cell? ⟨T, q, none⟩ = some (.int .i64 ((tl2.getD q 0 : Nat) : Int)) := by rw [cell_heap hT]; exact natsA_at _ _ (by rw [htt.len]; exact hqk)
      have hTf := free_heap hT q
      have HW0 : Hid (Ls w (w6.setCell ⟨T, q, none⟩ (.int .i64 ((0 : Nat) : Int))) c k S2 [(T, .cells (natsA (tl2.set q 0)) 3 (0, 0))]) := Lib.hid (by
       have := (hls6.write (i := q) (.int .i64 ((0 : Nat) : Int))).ls
       rw [natsA_set] at this
       exact this)
      have HP0 := Lib.hid (htt.put (x := 0) hqk (fun _ => Nat.zero_le _))
      cases hupq : (S2.at q).up with
      | false =>
       rw [hupq] at hup
       clear hs hzz hrow hls6 htt hT hc0 hrj
       go_wp2_with fail
       go_roundw
       case rel => exact ⟨q + 1, _, by omega, by simp, HW0.out, HP0.out⟩
       case measure => simp [intOf]; omega
      | true =>
       rw [hupq] at hup
       by_cases ho : o = 5
       ·subst ho
        clear hs hzz hrow hls6 htt hT hc0 hrj
        go_wp2_with fail
        go_roundw
        case rel => exact ⟨q + 1, _, by omega, by simp, HW0.out, HP0.out⟩
        case measure => simp [intOf]; omega
       ·have ho2 : (o == 5) = false := by simpa using ho
        have hwf := (HBJ2.out.up q hqk hupq).1.wf
        have HAG := Lib.hid (agreed_any ((hs.node q hqk).up hupq) hwf)
        have hge := HGR.out ho q hupq
        have HTLE : Hid (tl2.getD q 0 ≤ (agreedM (S2.at q).s).length) := Lib.hid (by
         have h1 := HTL.out.le q hqk hge.1
         have h2 := htt.rest q (Nat.le_refl _)
         have h3 := hge.2
         have h4 : toldOf (S2.at q) = (agreedM (S2.at q).s).length := rfl
         omega)
        have HUP := Lib.hid hupq
        clear hs hzz hrow hls6 hT hwf hge ho hTc hTf HW0 HP0
        go_wp2_with fail
        refine HAG.out.mono ?_
        rintro e w7 ⟨va, rfl, hva, hba⟩
        obtain ⟨aa, ca, e9, hca, hca2⟩ := hva.shape
        subst e9
        have h7 := HL6.out.below hba
        have hT := (h7.ts _ List.mem_cons_self).2.2
        have hTc : w7.cell? ⟨T, q, none⟩ = some (.int .i64 ((tl2.getD q 0 : Nat) : Int)) := by rw [cell_heap hT]; exact natsA_at _ _ (by rw [htt.len]; exact hqk)
        have hTf := free_heap hT q
        have HW1 : Hid (Ls w (w7.setCell ⟨T, q, none⟩ (.int .i64 (((agreedM (S2.at q).s).length : Nat) : Int))) c k S2 [(T, .cells (natsA (tl2.set q (agreedM (S2.at q).s).length)) 3 (0, 0))]) := Lib.hid (by
         have := (h7.write (i := q) (.int .i64 (((agreedM (S2.at q).s).length : Nat) : Int))).ls
         rw [natsA_set] at this
         exact this)
        have HP1 := Lib.hid (htt.put (x := (agreedM (S2.at q).s).length) hqk (fun _ => Nat.le_refl _))
        have hlt3 : ¬ (((agreedM (S2.at q).s).length : Nat) : Int) < ((tl2.getD q 0 : Nat) : Int) := by have := HTLE.out; omega
        clear hva hba h7 hT htt
        generalize (agreedM (S2.at q).s).length = al at *
        generalize tl2.getD q 0 = t0 at *
        go_wp2_with fail
        go_roundw
        case rel => exact ⟨q + 1, _, by omega, by simp, HW1.out, HP1.out⟩
        case measure => simp [intOf]; omega
     ·obtain rfl : q = k := by omega
      have hqk2 : ¬ (q : Int) < (q : Int) := by omega
      have HOK : Hid (ToldOk q ((Mn.begun q).acts q (l.take (j + 1))) tl2) := Lib.hid (by
       rw [HE.out]
       exact ⟨htt.len, fun r hr hu => htt.le r hr hu⟩)
      have HL9 : Hid (Ls w w6 c q ((Mn.begun q).acts q (l.take (j + 1))) [(T, .cells (natsA tl2) 3 (0, 0))]) := Lib.hid (by
       rw [HE.out]
       exact hls6.ls)
      clear hls6 htt
      go_wp2_with fail
      go_roundw
      case rel => exact ⟨j + 1, _, by omega, by simp, HL9.out, HOK.out⟩
      case measure => simp [intOf]; omega
   ·obtain rfl : j = m := by omega
    have hjm2 : ¬ (j : Int) < (j : Int) := by omega
    have HBF := Lib.hid HLS.out.bel
    go_wp2_with fail
    go_ret
    exact ⟨rfl, HBF.out⟩
end Go.Proofs.Ytnicaicjgaoolaa
