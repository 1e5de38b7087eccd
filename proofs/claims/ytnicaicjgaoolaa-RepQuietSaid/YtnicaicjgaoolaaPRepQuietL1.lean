/-
  What the proof of the law leans on: contracts of the program's functions, one behind another. No condition.
-/
import Derived.Test.YtnicaicjgaoolaaB36
set_option linter.unusedVariables false
set_option linter.unusedSimpArgs false
namespace Go.Proofs.Ytnicaicjgaoolaa
open Go.RowKit Go.ChangeMaps Go.WideMaps Go.Maps
set_option maxRecDepth 20000
def noGift (a : Ac) : Bool := !(a.op == 6)
set_option maxHeartbeats 8000000 in
theorem quiet_said (n : Int) (ao : Option Addr) (m cp : Nat) (l : List Ac) (w : World) (hn0 : (Lit.int .i64 n).wf = true) (h : IsAx w ao m l) (hle : m ≤ cp) (hm : m ≤ 140737488355328) :
  Calls Try.prog 7 #[.int .i64 n, .slice ao m cp] w fun e w' => e = .returned (.bool true) ∧ Below w.heap.size w w' := by
 have hn := lit_sc hn0
 clear hn0
 have HX := Lib.hid h
 have HLEN := Lib.hid h.len
 go_enter Try.func7, Try.ntmps7
 go_wp2_with fail
 refine awake_any.mono ?_
 rintro e w1 ⟨rfl, hb1⟩
 have HB1 := Lib.hid hb1
 have HX1 := Lib.hid (h.below hb1)
 clear hb1 h
 by_cases hn1 : n < 1
 ·go_wp2_with fail
  go_ret
  exact ⟨rfl, HB1.out⟩
 by_cases hn5 : 5 < n
 ·go_wp2_with fail
  go_ret
  exact ⟨rfl, HB1.out⟩
 obtain ⟨k, rfl⟩ : ∃ k : Nat, n = (k : Int) := ⟨n.toNat, by omega⟩
 have hk1 : 1 ≤ k := by omega
 have hk5 : k ≤ 5 := by omega
 go_wp2_with fail
 refine (light_any ao m cp l HX1.out hm 100 (by omega)).mono ?_
 rintro e w2 ⟨rfl, hb2⟩
 have HB2 : Hid (Below w.heap.size w w2) := Lib.hid (HB1.out.trans (hb2.mono HB1.out.size))
 clear hb2
 cases hl : lightM l 100 with
 | false =>
  go_wp2_with fail
  go_ret
  exact ⟨rfl, HB2.out⟩
 | true =>
  have HLT := Lib.hid (light_of l 100 hl)
  have hm100 : m ≤ 100 := by have := HLT.out.1; have := HLEN.out; omega
  clear hl
  go_wp2_with fail
  refine (begun_any (A := []) k hk5 (fun b hb => by cases hb)).mono ?_
  rintro e w3 ⟨c, A3, Z3, rfl, hs3, hm3⟩
  have HL3 : Hid (Ls w w3 c k (Mn.begun k) []) := Lib.hid (LsA.begun (A2 := []) HB2.out hs3 hm3).ls
  have HBI := Lib.hid (binv_begun k hk1 hk5)
  clear hs3 hm3
  go_wp2_with fail
  go_loopw [6] (fun i wr => ∃ j : Nat, j ≤ m ∧ i = .int .i64 (j : Int) ∧ Ls w wr c k ((Mn.begun k).acts k ((l.take j).filter noGift)) []) (fun i _ => m - (intOf i).toNat)
  case atStart => exact ⟨0, Nat.zero_le _, rfl, HL3.out⟩
  case round =>
   obtain ⟨j, hj, rfl, ⟨A, Z, hls⟩⟩ := hrel
   rename World => wr
   have HLS := Lib.hid hls
   clear hls
   have q6 : IntKind.i64.wrap ((j : Int) + 1) = (j : Int) + 1 := IntWalk.i64_in _ (by omega)
   have HBJ : Hid (BInv k (0 + ((l.take j).filter noGift).length) (1 + ((l.take j).filter noGift).length) ((Mn.begun k).acts k ((l.take j).filter noGift))) := Lib.hid (HBI.out.acts _)
   have HLJ : Hid (((l.take j).filter noGift).length ≤ 100) := Lib.hid (by
    have h1 := List.length_filter_le noGift (l.take j)
    rw [List.length_take] at h1
    omega)
   by_cases hjm : j < m
   ·have hjm2 : (j : Int) < (m : Int) := by omega
    obtain ⟨b, off, rfl, hat⟩ : ∃ b off, ao = some ⟨b, off, none⟩ ∧ ∀ i, i < m → AtAc w b (off + i * 5) (l.getD i ac0) := by
     rcases HX.out.at_ with h0 | h0
     ·omega
     ·exact h0
    have ha := hat j hjm
    obtain ⟨bo, bc, k4, hz⟩ := ha.z (A := A) HLS.out.age HLS.out.bel
    have hg : l.getD j ac0 = l[j]'(by have := HLEN.out; omega) := by simp [List.getD, show j < l.length by have := HLEN.out; omega]
    have HTK : Hid (l.take (j + 1) = l.take j ++ [l.getD j ac0]) := Lib.hid (by
     rw [hg, ← List.take_append_getElem (by have := HLEN.out; omega)])
    have HBX : Hid ((l.getD j ac0).B.length ≤ 300) := Lib.hid (by rw [hg]; exact HLT.out.2 _ (List.getElem_mem _))
    have ha2 := ha.below HLS.out.bel
    have k0 := ha2.c0
    have k1 := ha2.c1
    have k2 := ha2.c2
    have k3 := ha2.c3
    have HP := Lib.hid ha.p1
    have HZZ := Lib.hid hz
    clear ha ha2 hat hg hz
    generalize l.getD j ac0 = x at *
    obtain ⟨o, N, K, P, B⟩ := x
    simp only at k0 k1 k2 k3 k4
    by_cases ho : o = 6
    ·subst ho
     have HF : Hid (Ls w wr c k ((Mn.begun k).acts k ((l.take (j + 1)).filter noGift)) []) := Lib.hid (by
      rw [HTK.out, List.filter_append]
      simpa [noGift] using HLS.out.ls)
     clear k1 k2 k3 k4
     go_wp2_with fail
     go_roundw
     case rel => exact ⟨j + 1, by omega, by simp, HF.out⟩
     case measure => simp [intOf]; omega
    ·have ho2 : (o == 6) = false := by simpa using ho
     have HE : Hid ((Mn.begun k).acts k ((l.take (j + 1)).filter noGift) = ((Mn.begun k).acts k ((l.take j).filter noGift)).act k ⟨o, N, K, P, B⟩) := Lib.hid (by
      rw [HTK.out, List.filter_append]
      have e : [(⟨o, N, K, P, B⟩ : Ac)].filter noGift = [⟨o, N, K, P, B⟩] := by simp [noGift, ho2]
      rw [e]
      unfold Mn.acts
      rw [List.foldl_append]
      rfl)
     have HDO := Lib.hid (do_any HLS.out.sy HBJ.out ⟨o, N, K, P, B⟩ bo bc HZZ.out HBX.out HP.out (by have := HLJ.out; omega) (by have := HLJ.out; omega))
     clear ho
     go_wp2_with fail
     refine HDO.out.mono ?_
     rintro e w5 ⟨rfl, hs5⟩
     have HF : Hid (Ls w w5 c k ((Mn.begun k).acts k ((l.take (j + 1)).filter noGift)) []) := Lib.hid (by rw [HE.out]; exact HLS.out.step hs5)
     clear hs5
     go_wp2_with fail
     go_roundw
     case rel => exact ⟨j + 1, by omega, by simp, HF.out⟩
     case measure => simp [intOf]; omega
   ·obtain rfl : j = m := by omega
    have hjm2 : ¬ (j : Int) < (j : Int) := by omega
    have HEL : Hid (l.take j = l) := Lib.hid (List.take_of_length_le (by have := HLEN.out; omega))
    rw [HEL.out] at HLS HBJ HLJ
    have HQ := Lib.hid (quiet_law k hk1 hk5 (l.filter noGift) (fun a ha => by
     have := (List.mem_filter.1 ha).2
     simpa [noGift] using this) 70)
    generalize (Mn.begun k).acts k (l.filter noGift) = S at *
    go_wp2_with fail
    refine (calm_any HLS.out.sy HBJ.out.sv 70 (by have := HLJ.out; omega) (by omega) hk1).mono ?_
    rintro e w5 ⟨rfl, hs5⟩
    have HL5 := Lib.hid (HLS.out.step hs5)
    have HB5 := Lib.hid (HBJ.out.calm 70)
    clear hs5
    obtain ⟨A5, Z5, h5⟩ := HL5.out
    have H5 := Lib.hid h5
    clear h5
    go_wp2_with fail
    refine (look_any H5.out.sy (fun i hi hu => (HB5.out.up i hi hu).1.wf) hk1).mono ?_
    rintro e w6 ⟨he, hs6⟩
    rw [HQ.out.1] at he
    subst he
    have HL6 := Lib.hid (H5.out.step hs6)
    obtain ⟨A6, Z6, h6⟩ := HL6.out
    obtain ⟨Y6, rs6, ds6, ls6, Xs6, vr6, vd6, gu6, qv6, gv6, lgv6, hs6, hz6⟩ := h6.sy
    have hlg := hs6.long
    rw [HQ.out.2] at hlg
    obtain ⟨al, cal, e9, _⟩ := immL_at hlg
    subst e9
    have hc5 : w6.cell? ⟨c, 5, none⟩ = some (.slice al 0 cal) := by rw [cell_heap hs6.cell]; rfl
    have HBF := Lib.hid h6.bel
    clear h6 hs6 hz6 hlg
    go_wp2_with fail
    go_ret
    exact ⟨rfl, HBF.out⟩
end Go.Proofs.Ytnicaicjgaoolaa
