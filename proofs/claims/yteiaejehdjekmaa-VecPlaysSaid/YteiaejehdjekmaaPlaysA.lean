/-
  One round of VecPlays. Condition: each slice has at most 4 elements.
-/
import Derived.Test.YteiaejehdjekmaaRises
import Derived.Deep.RegionHeld3
import Derived.Deep.DeepCutAuto
import Derived.Deep.LoopGhost
namespace Go.Proofs.Yteiaejehdjekmaa
open Go.RowKit

structure Act' where
  op : Int
  sh : Int
  zx : Int
  L : List Int

/-- acts that came in -/
structure IsActs (w : World) (ao : Option Addr) (n : Nat) (l : List Act') : Prop where
  len : l.length = n
  at_ : n = 0 ∨ ∃ b off, ao = some ⟨b, off, none⟩ ∧ ∀ i (hi : i < l.length), ∃ a m c, w.cell? ⟨b, off + i * 4, none⟩ = some (.int .i64 l[i].op) ∧ w.cell? ⟨b, off + i * 4 + 1, none⟩ = some (.int .i64 l[i].sh) ∧
    w.cell? ⟨b, off + i * 4 + 2, none⟩ = some (.int .i64 l[i].zx) ∧ w.cell? ⟨b, off + i * 4 + 3, none⟩ = some (.slice a m c) ∧ IsI w a m c l[i].L ∧ m * 8 ≤ 140737488351232

set_option maxRecDepth 100000 in
set_option maxHeartbeats 400000 in
theorem plays_bad (s : Int) (ao : Option Addr) (n c : Nat) (w : World) (h : s < 1 ∨ 4 < s) :
    Calls Try.prog 5 #[.int .i64 s, .slice ao n c] w fun e w' => e = .returned (.bool true) ∧ Below w.heap.size w w' := by
  have hp : ∀ (w : World), (binOp .eql 24 (.pointer none) (.pointer none)).run Try.prog w = .ok (.bool true) w := fun w => by kernel_rfl
  rcases h with h | h
  · have d1 : decide (s < 1) = true := by simpa using h
    go_enter Try.func5, Try.ntmps5
    go_wp2_with fail
    refine (awake_any _).mono ?_
    rintro e w1 ⟨rfl, hb⟩
    go_wp2_with fail
    refine (new_bad s _ (by omega)).mono ?_
    rintro e w' ⟨rfl, rfl⟩
    go_wp2
    go_ret
    exact ⟨rfl, hb⟩
  · have d1 : decide (s < 1) = false := by simp; omega
    have d2 : decide (4 < s) = true := by simpa using h
    go_enter Try.func5, Try.ntmps5
    go_wp2_with fail
    refine (awake_any _).mono ?_
    rintro e w1 ⟨rfl, hb⟩
    go_wp2_with fail
    refine (new_bad s _ (by omega)).mono ?_
    rintro e w' ⟨rfl, rfl⟩
    go_wp2
    go_ret
    exact ⟨rfl, hb⟩

set_option maxRecDepth 100000 in
set_option maxHeartbeats 400000 in
theorem plays_long (s : Nat) (ao : Option Addr) (n c : Nat) (w : World) (h1 : 1 ≤ s) (h4 : s ≤ 4) (h60 : 60 < n) :
    Calls Try.prog 5 #[.int .i64 (s : Int), .slice ao n c] w fun e w' => e = .returned (.bool true) ∧ Below w.heap.size w w' := by
  have d1 : decide ((s : Int) < 1) = false := by simp; omega
  have d2 : decide (4 < (s : Int)) = false := by simp; omega
  have d3 : decide (60 < (n : Int)) = true := by simp; omega
  go_enter Try.func5, Try.ntmps5
  go_wp2_with fail
  refine (awake_any _).mono ?_
  rintro e w1 ⟨rfl, hb⟩
  go_wp2_with fail
  refine (new_ok s _ h1 h4).mono ?_
  rintro e w' ⟨rfl, hv, ho, hs⟩
  go_wp2
  go_ret
  exact ⟨rfl, hb.trans (ho.below hb.size (by intro q hq; cases hq))⟩

theorem IsV.heap {T : TypeId} {w w' : World} {a g : Nat} {l : List Int} (h : IsV T w a g l) (e : w'.heap = w.heap) : IsV T w' a g l := ⟨by rw [e]; exact h.ptr, by rw [e]; exact h.row, h.ne, h.len⟩

set_option maxRecDepth 100000 in
set_option maxHeartbeats 4000000 in
theorem plays_in (s : Nat) (b off n c : Nat) (l : List Act') (w : World) (hl : IsActs w (some ⟨b, off, none⟩) n l) (h1 : 1 ≤ s) (h4 : s ≤ 4) (h60 : n ≤ 60) :
    Calls Try.prog 5 #[.int .i64 (s : Int), .slice (some ⟨b, off, none⟩) n c] w fun e w' => e = .returned (.bool true) ∧ Below w.heap.size w w' := by
  have d1 : decide ((s : Int) < 1) = false := by simp; omega
  have d2 : decide (4 < (s : Int)) = false := by simp; omega
  have d3 : decide (60 < (n : Int)) = false := by simp; omega
  have HL := Lib.hid hl
  clear hl
  go_enter Try.func5, Try.ntmps5
  go_wp2_with fail
  refine (awake_any _).mono ?_
  rintro e w1 ⟨rfl, hb⟩
  go_wp2_with fail
  refine (new_ok s _ h1 h4).mono ?_
  rintro e w2 ⟨rfl, hv, ho, hs⟩
  have hb2 : Below w.heap.size w w2 := hb.trans (ho.below hb.size (by intro q hq; cases hq))
  have hB := hb.size
  generalize w1.heap.size = B at hv hs hB
  clear hb ho
  have hmk := run_make_row' (P := Try.prog) 22 2 (.int .i64 0) 8 Try.underlying22 (by kernel_rfl) rfl .i64 .i64 s (by omega) (by omega)
  have hr := new_row w2 s h4 38
  have hoa : Only [] w2 ((w2.alloc (.cells (madeCells #[.int .i64 0] s) 2)).alloc (.cells #[.slice (some ⟨w2.heap.size, 0, none⟩) s s] 38)) := ((Only.refl _ _).alloc _).alloc _
  have hv3 := hv.only hoa (by simp) (by simp)
  have hb3 : Below w.heap.size w _ := hb2.trans (hoa.below hb2.size (by intro q hq; cases hq))
  rw [hs] at hr hv3 hb3
  have hz0 : (List.replicate s (0 : Int)).length ≤ 4 := by simpa using h4
  have HR := Lib.hid hr
  have HV := Lib.hid hv3
  clear hv hb2 hoa hr hv3
  go_wp2_with fail
  generalize (w2.alloc (.cells (madeCells #[.int .i64 0] s) 2)).alloc (.cells #[.slice (some ⟨B + 2, 0, none⟩) s s] 38) = w3 at HR HV hb3
  clear hmk hs
  go_loopg [8] n (fun q i wr => ∃ k : Nat, k ≤ n ∧ q = n - k ∧ i = .int .i64 k ∧ ∃ cur : List Int, IsV 48 wr (B + 1) B cur ∧ IsV 38 wr (B + 2 + 1) (B + 2) cur ∧ Below w.heap.size w wr)
  case atStart => exact ⟨0, Nat.zero_le _, by omega, rfl, _, HV.out, HR.out, hb3⟩
  case round =>
    obtain ⟨k, hk, hgk, rfl, cur, hv, hr, hbr⟩ := hrel
    have HG := Lib.hid hgk
    clear hgk
    clear HV HR hb3
    by_cases hlt : k < n
    · rcases HL.out.at_ with h0 | ⟨b', off', he, hat⟩
      · omega
      obtain ⟨rfl, rfl⟩ : b = b' ∧ off = off' := by
        simp only [Option.some.injEq, Addr.mk.injEq, and_true] at he
        exact he
      obtain ⟨la, m, cm, q0, q1, q2, q3, hI, hm8⟩ := hat k (by rw [HL.out.len]; exact hlt)
      replace q0 := cell_later hbr q0
      replace q1 := cell_later hbr q1
      replace q2 := cell_later hbr q2
      replace q3 := cell_later hbr q3
      replace hI := hI.below hbr
      have HK : Hid True := Lib.hid trivial
      generalize (l[k]'(by rw [HL.out.len]; exact hlt)).op = op at q0
      generalize (l[k]'(by rw [HL.out.len]; exact hlt)).sh = sh at q1
      generalize (l[k]'(by rw [HL.out.len]; exact hlt)).zx = zx at q2
      generalize (l[k]'(by rw [HL.out.len]; exact hlt)).L = lx at hI
      clear hat he
      by_cases hm4 : 4 < m
      · go_wp2_with fail
        go_ret
        exact ⟨rfl, hbr.alloc hbr.size _⟩
      · have g4 : decide (4 < (m : Int)) = false := by simp; omega
        go_upto_if 62 with (fail)
        have hrlt := hr.lta
        have hoa : Only [] wr (wr.alloc (.cells #[.int .i64 op, .int .i64 sh, .int .i64 zx, .slice la m cm] 40)) := (Only.refl _ _).alloc _
        have hx : (wr.alloc (.cells #[.int .i64 op, .int .i64 sh, .int .i64 zx, .slice la m cm] 40)).heap[wr.heap.size]? = some (.cells #[.int .i64 op, .int .i64 sh, .int .i64 zx, .slice la m cm] 40 (0, 0)) := heap_new _ _
        replace hv := hv.only hoa (by simp) (by simp)
        replace hr := hr.only hoa (by simp) (by simp)
        replace hI := hI.alloc (.cells #[.int .i64 op, .int .i64 sh, .int .i64 zx, .slice la m cm] 40)
        replace hbr : Below w.heap.size w _ := hbr.trans (hoa.below hbr.size (by intro q hq; cases hq))
        have hCB : B + 2 + 1 < wr.heap.size := hrlt
        generalize wr.alloc (.cells #[.int .i64 op, .int .i64 sh, .int .i64 zx, .slice la m cm] 40) = w5 at hx hv hr hI hbr
        generalize wr.heap.size = C at hx hCB
        clear hoa q0 q1 q2 q3
        go_cut [] (fun wx => ∃ cur' : List Int, IsV 48 wx (B + 1) B cur' ∧ IsV 38 wx (B + 2 + 1) (B + 2) cur' ∧ Below w.heap.size w wx ∧ wx.heap[C]? = some (.cells #[.int .i64 op, .int .i64 sh, .int .i64 zx, .slice la m cm] 40 (0, 0)))
        case first =>
          have x0 : w5.cell? ⟨C, 0, none⟩ = some (.int .i64 op) := by rw [cell_heap hx]; rfl
          have x1 : w5.cell? ⟨C, 1, none⟩ = some (.int .i64 sh) := by rw [cell_heap hx]; rfl
          have x2 : w5.cell? ⟨C, 2, none⟩ = some (.int .i64 zx) := by rw [cell_heap hx]; rfl
          have x3 : w5.cell? ⟨C, 3, none⟩ = some (.slice la m cm) := by rw [cell_heap hx]; rfl
          have HC5 := Lib.hid (lt_of_heap hx)
          have nC1 : C ∉ [B] := far1 (by omega)
          have nC2 : C ∉ [B + 2] := far1 (by omega)
          have nr1 : B + 2 + 1 ∉ [B] := far1 (by omega)
          have nr2 : B + 2 ∉ [B] := far1 (by omega)
          have nv1 : B + 1 ∉ [B + 2] := far1 (by omega)
          have nv2 : B ∉ [B + 2] := far1 (by omega)
          by_cases hop : op = 0
          · have g0 : (op == 0) = true := by simp [hop]
            have HV := Lib.hid hv
            have HR := Lib.hid hr
            have HX := Lib.hid hx
            have HI := Lib.hid hI
            have HBR := Lib.hid hbr
            have HHL := HL
            clear hv hr hx hI hbr HL
            go_wp2_with fail
            go_region_held3 (fun w' => w'.cell? ⟨C, 1, none⟩ = some (.int .i64 sh) ∧ w'.cell? ⟨C, 2, none⟩ = some (.int .i64 zx)) (first | go_keep | exact kept1 | exact kept2)
              (first
                | (go_at_call 10; refine (see_any (B + 1) B cur sh zx _ (by exact HV.out.heap rfl)).mono ?_; rintro e wA ⟨rfl, hvA, hoA0⟩; have hoA := ((Only.refl [B] w5).drew).trans hoA0; have kept1 := And.intro (hoA.cell x1 nC1) (hoA.cell x2 nC1))
                | (go_at_call 17; refine (rsee_any (B + 2 + 1) (B + 2) cur sh zx _ (by exact (HR.out.only hoA nr1 nr2).heap rfl)).mono ?_; rintro e wB ⟨rfl, hrB, hoB⟩; have kept2 := And.intro (hoB.cell kept1.1 nC2) (hoB.cell kept1.2 nC2)))
            have hvB := hvA.only hoB nv1 nv2
            have hxB := hoB.keeps (hoA.keeps HX.out nC1) nC2
            have hbB : Below w.heap.size w wB := (HBR.out.trans (hoA.below HBR.out.size (by intro q hq; have := List.mem_singleton.1 hq; omega))).trans (hoB.below (Nat.le_trans HBR.out.size hoA.size) (by intro q hq; have := List.mem_singleton.1 hq; omega))
            clear kept1 kept2 hvA hoA hoA0 hoB HV HR HX HI HBR
            go_wp2_with fail
            go_meet
            exact ⟨_, hvB, hrB, hbB, hxB⟩
          · have g0 : (op == 0) = false := by simp [hop]
            clear hop
            by_cases hm0 : m = 0
            · subst hm0
              go_wp2_with fail
              go_meet
              exact ⟨_, hv, hr, hbr, hx⟩
            · have g1 : decide (0 < (m : Int)) = true := by simp; omega
              rcases hI.at_ with h0 | ⟨bl, ol, rfl, hcl⟩
              · exact absurd h0 hm0
              have HCL := Lib.hid (fun (wz : World) (hz : Below w5.heap.size w5 wz) (j : Nat) (hj : j < m) => cell_later hz (hcl j hj))
              clear hcl hI
              have HHL := HL
              clear HL
              go_wp2_with fail
              refine (new_ok m _ (by omega) (by omega)).mono ?_
              rintro e w6 ⟨rfl, ho1, ho, hs⟩
              replace hv := hv.only ho (by simp) (by simp)
              replace hr := hr.only ho (by simp) (by simp)
              replace hx := ho.keeps hx (by simp)
              replace x0 := ho.cell x0 (by simp)
              replace x3 := ho.cell x3 (by simp)
              have hb5 : Below w5.heap.size w5 w6 := ho.below (Nat.le_refl _) (by intro q hq; cases hq)
              have hbr5 := hbr.size
              replace hbr : Below w.heap.size w w6 := hbr.trans (ho.below hbr.size (by intro q hq; cases hq))
              obtain ⟨D, hDe⟩ : ∃ D, D = w5.heap.size := ⟨_, rfl⟩
              have HD5 := Lib.hid hDe
              have hCD : C < D := by rw [hDe]; exact HC5.out
              rw [← hDe] at ho1 hs hbr5 ⊢
              clear hDe
              have hmk := run_make_row' (P := Try.prog) 22 2 (.int .i64 0) 8 Try.underlying22 (by kernel_rfl) rfl .i64 .i64 m (by omega) (by omega)
              have hp := new_row w6 m (by omega) 38
              have hoa : Only [] w6 ((w6.alloc (.cells (madeCells #[.int .i64 0] m) 2)).alloc (.cells #[.slice (some ⟨w6.heap.size, 0, none⟩) m m] 38)) := ((Only.refl _ _).alloc _).alloc _
              replace hv := hv.only hoa (by simp) (by simp)
              replace hr := hr.only hoa (by simp) (by simp)
              replace ho1 := ho1.only hoa (by simp) (by simp)
              replace hx := hoa.keeps hx (by simp)
              have hb6 : Below w5.heap.size w5 _ := hb5.trans (hoa.below hb5.size (by intro q hq; cases hq))
              replace hbr : Below w.heap.size w _ := hbr.trans (hoa.below hbr.size (by intro q hq; cases hq))
              rw [hs] at hp hv hr ho1 hx hb6 hbr
              have HP := Lib.hid hp
              have HV := Lib.hid hv
              have HR := Lib.hid hr
              have HO := Lib.hid ho1
              have HX := Lib.hid hx
              have HB6 := Lib.hid hb6
              have HBR := Lib.hid hbr
              clear hp hv hr ho1 hx hb6 hbr hoa hb5 ho
              go_wp2_with fail
              generalize (w6.alloc (.cells (madeCells #[.int .i64 0] m) 2)).alloc (.cells #[.slice (some ⟨D + 2, 0, none⟩) m m] 38) = w7 at HP HV HR HO HX HB6 HBR
              clear hmk hs x0 x3 x1 x2
              go_loopg [13] m (fun q i wr => ∃ j : Nat, j ≤ m ∧ q = m - j ∧ i = .int .i64 j ∧ IsV 48 wr (B + 1) B cur ∧ IsV 38 wr (B + 2 + 1) (B + 2) cur ∧ IsV 48 wr (D + 1) D (rjoinTo (List.replicate m 0) lx j) ∧ IsV 38 wr (D + 2 + 1) (D + 2) (rjoinTo (List.replicate m 0) lx j) ∧
                wr.heap[C]? = some (.cells #[.int .i64 op, .int .i64 sh, .int .i64 zx, .slice (some ⟨bl, ol, none⟩) m cm] 40 (0, 0)) ∧ Below w5.heap.size w5 wr ∧ Below w.heap.size w wr)
              case atStart => exact ⟨0, Nat.zero_le _, by omega, rfl, HV.out, HR.out, HO.out, HP.out, HX.out, HB6.out, HBR.out⟩
              case round =>
                obtain ⟨j, hj, hgj, rfl, hv, hr, ho1, hp, hx, hb6, hbr⟩ := hrel
                have HGJ := Lib.hid hgj
                clear hgj HP HV HR HO HX HB6 HBR
                have x3 : wr.cell? ⟨C, 3, none⟩ = some (.slice (some ⟨bl, ol, none⟩) m cm) := by rw [cell_heap hx]; rfl
                by_cases hltj : j < m
                · have c0 := HCL.out wr hb6 j hltj
                  have HS1 := Lib.hid (show rjoinTo (List.replicate m 0) lx (j + 1) = seeL (rjoinTo (List.replicate m 0) lx j) (j : Int) (lx.getD j 0) from rfl)
                  generalize hz : lx.getD j 0 = z at c0 HS1
                  have HZ := Lib.hid hz
                  clear hz
                  go_wp2_with fail
                  refine (see_any _ _ _ _ _ _ ho1).mono ?_
                  rintro e w8 ⟨rfl, ho8, hoo⟩
                  rw [← HS1.out] at ho8
                  replace hv := hv.only hoo (far1 (by omega)) (far1 (by omega))
                  replace hr := hr.only hoo (far1 (by omega)) (far1 (by omega))
                  replace hp := hp.only hoo (far1 (by omega)) (far1 (by omega))
                  replace hx := hoo.keeps hx (far1 (by omega))
                  replace hb6 := hb6.trans (hoo.below hb6.size (by intro q hq; have := List.mem_singleton.1 hq; have := HD5.out; omega))
                  replace hbr : Below w.heap.size w w8 := hbr.trans (hoo.below hbr.size (by intro q hq; have := List.mem_singleton.1 hq; omega))
                  replace x3 : w8.cell? ⟨C, 3, none⟩ = some (.slice (some ⟨bl, ol, none⟩) m cm) := by rw [cell_heap hx]; rfl
                  have c1 := HCL.out w8 hb6 j hltj
                  rw [HZ.out] at c1
                  clear hoo ho1 c0
                  go_wp2_with fail
                  refine (rsee_any _ _ _ _ _ _ hp).mono ?_
                  rintro e w9 ⟨rfl, hp9, hoo⟩
                  rw [← HS1.out] at hp9
                  replace hv := hv.only hoo (far1 (by omega)) (far1 (by omega))
                  replace hr := hr.only hoo (far1 (by omega)) (far1 (by omega))
                  replace ho8 := ho8.only hoo (far1 (by omega)) (far1 (by omega))
                  replace hx := hoo.keeps hx (far1 (by omega))
                  replace hb6 := hb6.trans (hoo.below hb6.size (by intro q hq; have := List.mem_singleton.1 hq; have := HD5.out; omega))
                  replace hbr : Below w.heap.size w w9 := hbr.trans (hoo.below hbr.size (by intro q hq; have := List.mem_singleton.1 hq; omega))
                  clear hoo hp c1 x3 HS1 HZ
                  go_wp2_with fail
                  go_roundg (m - (j + 1))
                  case measure => have := HGJ.out; omega
                  case rel => exact ⟨j + 1, by omega, rfl, by go_num, hv, hr, ho8, hp9, hx, hb6, hbr⟩
                · obtain rfl : j = m := by omega
                  generalize rjoinTo (List.replicate j 0) lx j = X at ho1 hp
                  go_wp2_with fail
                  refine (within_any _ _ _ _ _ _ _ hv ho1).mono ?_
                  rintro e w' ⟨rfl, e1, rfl⟩
                  replace hv := hv.draws e1
                  replace hr := hr.draws e1
                  replace ho1 := ho1.draws e1
                  replace hp := hp.draws e1
                  replace hx := ((Only.refl [] wr).drewN e1).keeps hx (by simp)
                  replace hbr := below_drewN hbr e1
                  clear hb6
                  generalize wr.drewN e1 = w8 at hv hr ho1 hp hx hbr
                  go_wp2_with fail
                  refine (rwithin_any _ _ _ _ _ _ _ hr hp).mono ?_
                  rintro e w' ⟨rfl, e2, rfl⟩
                  replace hv := hv.draws e2
                  replace hr := hr.draws e2
                  replace ho1 := ho1.draws e2
                  replace hp := hp.draws e2
                  replace hx := ((Only.refl [] w8).drewN e2).keeps hx (by simp)
                  replace hbr := below_drewN hbr e2
                  generalize w8.drewN e2 = w9 at hv hr ho1 hp hx hbr
                  have HT := Lib.hid (them_new w9 B [(D + 1, D)] [X] rfl (fun i hi => by
                    obtain rfl : i = 0 := by simpa using hi
                    exact ⟨ho1, by show D ≠ B; omega, by show D + 1 ≠ B; omega⟩) hv.lt #[.pointer (some ⟨D + 1, 0, none⟩)] rfl w9.heap.size rfl 1 rfl 24)
                  have ha0 : Only [] w9 (w9.alloc (.cells #[.pointer (some ⟨D + 1, 0, none⟩)] 24)) := (Only.refl [] _).alloc _
                  replace hv := hv.only ha0 (by simp) (by simp)
                  replace hr := hr.only ha0 (by simp) (by simp)
                  replace hp := hp.only ha0 (by simp) (by simp)
                  replace hx := ha0.keeps hx (by simp)
                  replace hbr : Below w.heap.size w _ := hbr.trans (ha0.below hbr.size (by intro q hq; cases hq))
                  clear ha0 ho1
                  go_wp2_with fail
                  refine (join_any _ _ _ _ 1 1 _ _ hv HT.out (by omega)).mono ?_
                  rintro e w10 ⟨rfl, hv10, hoo⟩
                  replace hr := hr.only hoo (far1 (by omega)) (far1 (by omega))
                  replace hp := hp.only hoo (far1 (by omega)) (far1 (by omega))
                  replace hx := hoo.keeps hx (far1 (by omega))
                  replace hbr : Below w.heap.size w w10 := hbr.trans (hoo.below hbr.size (by intro q hq; have := List.mem_singleton.1 hq; omega))
                  rw [show joinAll cur [X] = joinL cur X from rfl] at hv10
                  clear hoo hv HT
                  go_wp2_with fail
                  refine (rjoin_any _ _ _ _ _ _ _ hr hp (by omega) (by omega)).mono ?_
                  rintro e w11 ⟨rfl, hr11, hoo⟩
                  replace hv10 := hv10.only hoo (far1 (by omega)) (far1 (by omega))
                  replace hx := hoo.keeps hx (far1 (by omega))
                  replace hbr : Below w.heap.size w w11 := hbr.trans (hoo.below hbr.size (by intro q hq; have := List.mem_singleton.1 hq; omega))
                  clear hoo hr hp
                  go_wp2_with fail
                  go_meet
                  exact ⟨_, hv10, hr11, hbr, hx⟩
        case rest =>
          obtain ⟨cur2, hv, hr, hbr, hx⟩ := hcut
          have x1 : wc.cell? ⟨C, 1, none⟩ = some (.int .i64 sh) := by rw [cell_heap hx]; rfl
          have x2 : wc.cell? ⟨C, 2, none⟩ = some (.int .i64 zx) := by rw [cell_heap hx]; rfl
          have hp := hr.head
          have hlc := hv.len
          have hrI := hr.isI
          generalize hcl : cur2.length = nc at hp hlc hrI
          have HCL := Lib.hid hcl
          have HV := Lib.hid hv
          have HR := Lib.hid hr
          have HRI := Lib.hid hrI
          have HBR := Lib.hid hbr
          have e1 : (atL cur2 sh != atL cur2 sh) = false := bne_self_eq_false _
          have e2 : (readyB cur2 sh zx != readyB cur2 sh zx) = false := bne_self_eq_false _
          have HSM : Hid (sameB cur2 cur2 = true) := by simp [Hid, sameB]
          generalize hat : atL cur2 sh = av at e1
          generalize hrd : readyB cur2 sh zx = rv at e2
          have HAT := Lib.hid hat
          have HRD := Lib.hid hrd
          clear hcl hv hr hrI hbr hx hat hrd
          have C11 := Lib.hid (fun (W : World) (hW : IsV 48 W (B + 1) B cur2) => (at_any (B + 1) B cur2 sh W hW))
          have C20 := Lib.hid (fun (W : World) (hW : IsV 38 W (B + 2 + 1) (B + 2) cur2) => (rat_any (B + 2 + 1) (B + 2) cur2 sh W hW))
          have C12 := Lib.hid (fun (W : World) (hW : IsV 48 W (B + 1) B cur2) => (ready_any (B + 1) B cur2 sh zx W hW))
          have C21 := Lib.hid (fun (W : World) (hW : IsV 38 W (B + 2 + 1) (B + 2) cur2) => (rready_any (B + 2 + 1) (B + 2) cur2 sh zx W hW))
          rw [HAT.out] at C11 C20
          rw [HRD.out] at C12 C21
          clear HAT HRD
          go_wp2_with fail
          go_region_held3 (fun w' => w'.cell? ⟨C, 1, none⟩ = some (.int .i64 sh) ∧ w'.cell? ⟨C, 2, none⟩ = some (.int .i64 zx) ∧ w'.cell? ⟨B + 2 + 1, 0, none⟩ = some (.slice (some ⟨B + 2, 0, none⟩) nc nc)) (first | go_keep | exact kept1)
            (first
              | (go_at_call 11; refine (C11.out _ (by exact HV.out.heap rfl)).mono ?_; rintro e wA ⟨rfl, rfl⟩)
              | (go_at_call 20; refine (C20.out _ (by exact HR.out.heap rfl)).mono ?_; rintro e wA ⟨rfl, rfl⟩)
              | (go_at_call 12; refine (C12.out _ (by exact HV.out.heap rfl)).mono ?_; rintro e wA ⟨rfl, rfl⟩)
              | (go_at_call 21; refine (C21.out _ (by exact HR.out.heap rfl)).mono ?_; rintro e wA ⟨rfl, rfl⟩)
              | (go_at_call 16; refine (all_any (B + 1) B cur2 _ (by exact HV.out.heap rfl)).mono ?_; rintro e wA ⟨v, rfl, hown, hbb0⟩; have hbb := ((Below.refl wc.heap.size wc).drew).trans hbb0; obtain ⟨ao, c', rfl, hI2⟩ := hown.isI; rw [HCL.out] at hI2 ⊢; have kept1 := And.intro (cell_later hbb x1) (And.intro (cell_later hbb x2) (cell_later hbb hp)))
              | (go_at_call 15; refine (same_any _ _ _ cur2 _ _ _ cur2 _ (by exact hI2) (by exact HRI.out.below hbb) (by omega) (by omega)).mono ?_; rintro e wB ⟨rfl, dd, rfl⟩; rw [HSM.out]))
          have f1 := (HV.out.below hbb).draws dd
          have f2 := (HR.out.below hbb).draws dd
          have f3 := below_drewN (HBR.out.trans (hbb.mono HBR.out.size)) dd
          clear HV HR HRI HBR HSM C11 C20 C12 C21 hbb0 hbb hown hI2 kept1 x1 x2 hp HCL
          go_wp2_with fail
          go_roundg (n - (k + 1))
          case measure => have := HG.out; omega
          case rel => exact ⟨k + 1, by omega, rfl, by go_num, cur2, f1, f2, f3⟩
    · obtain rfl : k = n := by omega
      go_wp2
      go_ret
      exact ⟨rfl, hbr⟩

end Go.Proofs.Yteiaejehdjekmaa
