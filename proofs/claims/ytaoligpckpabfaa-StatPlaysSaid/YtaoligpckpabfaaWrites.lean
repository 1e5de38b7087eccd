/-
  StatWrites' walk. No condition.
-/
import Derived.Test.YtaoligpckpabfaaRise
namespace Go.Proofs.Ytaoligpckpabfaa
open Go.RowKit
def addsZ (s : Nd) (xs : List ByteArray) : Nd := xs.foldl addZ s
def getS (l : List ByteArray) (k : Nat) : ByteArray := l.getD k ByteArray.empty
theorem take_oneS (l : List ByteArray) (k : Nat) (h : k < l.length) : l.take (k + 1) = l.take k ++ [getS l k] := by
  rw [List.take_succ_eq_append_getElem h]
  simp [getS, h]
theorem addsZ_take (s : Nd) (l : List ByteArray) (k : Nat) (h : k < l.length) : addsZ s (l.take (k + 1)) = addZ (addsZ s (l.take k)) (getS l k) := by
  rw [take_oneS l k h]; simp [addsZ]
/-- what Add leaves as it was -/
theorem addZ_keep (s : Nd) (x : ByteArray) : (addZ s x).version = s.version ∧ (addZ s x).data = s.data ∧ (addZ s x).changed = s.changed ∧ (addZ s x).made = s.made ∧ (addZ s x).length = s.length ∧ (addZ s x).owner = s.owner := by
  unfold addZ; split <;> exact ⟨rfl, rfl, rfl, rfl, rfl, rfl⟩
structure Adds (s : Nd) (k : Nat) : Prop where
  version : s.version = 0
  data : s.data = ⟨#[102, 105, 114, 115, 116]⟩
  changed : s.changed = 3
  made : s.made = 3
  ris : Ris s.names
  len : s.names.length ≤ k
  wf : WfN s
theorem adds_start : Adds (newZ 3 0 ⟨#[102, 105, 114, 115, 116]⟩) 0 := ⟨rfl, rfl, rfl, rfl, ris_nil, Nat.le_refl _, newZ_wf _ _ _⟩
theorem adds_step {s : Nd} {k : Nat} (h : Adds s k) (x : ByteArray) : Adds (addZ s x) (k + 1) := by
  obtain ⟨a, b, c, d, _⟩ := addZ_keep s x
  exact ⟨a.trans h.version, b.trans h.data, c.trans h.changed, d.trans h.made, addZ_ris h.ris x, Nat.le_trans (addZ_len s x) (by have := h.len; omega), addZ_wf h.wf x⟩
/-- what Writes leave -/
structure Writ (s0 s : Nd) (k : Nat) : Prop where
  version : s.version = k
  made : s.made = 3
  kids : s.kids = s0.kids
  count : s.count = s0.count
  names : s.names = s0.names
  wf : WfN s
theorem writ_step {s0 s : Nd} {k : Nat} (h : Writ s0 s k) (hk : k ≤ 1000) (z : Int) (x : ByteArray) : Writ s0 (writeZ s z x) (k + 1) := by
  refine ⟨?_, h.made, h.kids, h.count, h.names, writeZ_wf h.wf _ _⟩
  show moreZ s.version = _
  rw [h.version, moreZ, if_neg (by omega)]; rfl
theorem getS_cell {w : World} {b off n c : Nat} {l : List ByteArray} (h : IsS w (some ⟨b, off, none⟩) n c l) {k : Nat} (hk : k < n) : w.cell? ⟨b, off + k, none⟩ = some (.string (getS l k)) := by
  rcases h.at_ with h0 | ⟨b', off', h1, h2⟩
  · omega
  · cases h1; exact h2 k hk
theorem isS_some {w : World} {ao : Option Addr} {n c : Nat} {l : List ByteArray} (h : IsS w ao n c l) (hn : 0 < n) : ∃ b off, ao = some ⟨b, off, none⟩ := by
  rcases h.at_ with h0 | ⟨b, off, h1, _⟩
  · omega
  · exact ⟨b, off, h1⟩
set_option maxHeartbeats 4000000 in
set_option maxRecDepth 100000 in
theorem writes_walk (ao : Option Addr) (n c : Nat) (l : List ByteArray) (bo : Option Addr) (q c2 : Nat) (ns : List ByteArray) (W : World) (h : IsS W ao n c l) (h2 : IsS W bo q c2 ns) (hn9 : n ≤ 8796093022208) (hq9 : q ≤ 8796093022208) :
    Calls Try.prog 3 #[.slice ao n c, .slice bo q c2] W fun e w' => e = .returned (.bool true) ∧ Below W.heap.size W w' := by
  by_cases hn : 30 < n
  · go_enter Try.func3, Try.ntmps3
    go_wp2_with fail
    refine (awake_any _).mono ?_
    rintro e w1 ⟨rfl, hb1⟩
    go_wp2_with fail
    go_ret
    exact ⟨rfl, hb1⟩
  · have g1 : decide (30 < (n : Int)) = false := by simp; omega
    by_cases hq : 20 < q
    · clear hn
      go_enter Try.func3, Try.ntmps3
      go_wp2_with fail
      refine (awake_any _).mono ?_
      rintro e w1 ⟨rfl, hb1⟩
      go_wp2_with fail
      go_ret
      exact ⟨rfl, hb1⟩
    · have g2 : decide (20 < (q : Int)) = false := by simp; omega
      have H := Lib.hid h
      have H2 := Lib.hid h2
      have HN := Lib.hid hn
      have HQ := Lib.hid hq
      clear h h2 hn hq
      go_enter Try.func3, Try.ntmps3
      go_wp2_with fail
      refine (awake_any _).mono ?_
      rintro e w1 ⟨rfl, hb1⟩
      go_wp2_with fail
      refine (new_any _ _ _ _).mono ?_
      rintro e w2 ⟨rfl, hb2⟩
      have hb12 := hb1.trans (hb2.mono hb1.size)
      have hnd := isNd_new w2 3 0 ⟨#[102, 105, 114, 115, 116]⟩ [w2.heap.size] w2.heap.size rfl (by simp)
      have HND := Lib.hid hnd
      have HB := Lib.hid (hb12.alloc hb12.size (.cells (cellsN (newZ 3 0 ⟨#[102, 105, 114, 115, 116]⟩) (.slice none 0 0)) 27))
      have hsz := hb12.size
      clear hb1 hb2 hb12 hnd g1 g2
      rw [show aggN (newZ 3 0 ⟨#[102, 105, 114, 115, 116]⟩) (.slice none 0 0) = .agg #[.int .i64 3, .int .i64 3, .int .i64 0, .int .i64 0, .int .i64 0, .int .i64 5, .int .i64 0, .string ⟨#[102, 105, 114, 115, 116]⟩, .int .i64 0, .slice none 0 0] from rfl]
      go_wp2_with fail
      rw [show cellsN (newZ 3 0 ⟨#[102, 105, 114, 115, 116]⟩) (.slice none 0 0) = #[.int .i64 3, .int .i64 3, .int .i64 0, .int .i64 0, .int .i64 0, .int .i64 5, .int .i64 0, .string ⟨#[102, 105, 114, 115, 116]⟩, .int .i64 0, .slice none 0 0] from rfl] at HND HB
      generalize w2.heap.size = a at *
      generalize World.alloc w2 _ = w3 at *
      obtain ⟨s0, HND0, HA0⟩ : ∃ s0, Hid (IsNd w3 [a] a s0) ∧ Hid (Adds s0 0) := ⟨_, HND, Lib.hid adds_start⟩
      clear HND
      go_loopw [6] (fun i wr => ∃ k : Nat, k ≤ q ∧ i = .int .i64 (k : Int) ∧ ∃ s, IsNd wr [a] a s ∧ Adds s k ∧ Below W.heap.size W wr) (fun i _ => q - (intOf i).toNat)
      case atStart => exact ⟨0, by omega, rfl, s0, HND0.out, HA0.out, HB.out⟩
      case round =>
        obtain ⟨k, hk, rfl, s, hnd, had, hbl⟩ := hrel
        have HND := Lib.hid hnd
        have HAD := Lib.hid had
        have HBL := Lib.hid hbl
        have hql := HQ.out
        have hla : a < wr.heap.size := hnd.lt
        obtain ⟨ac, cc, hcell, _⟩ := hnd.cells
        have hc2 : wr.cell? ⟨a, 2, none⟩ = some (.int .i64 s.version) := hcell 2
        have hc7 : wr.cell? ⟨a, 7, none⟩ = some (.string s.data) := hcell 7
        have hc3 : wr.cell? ⟨a, 3, none⟩ = some (.int .i64 s.kids) := hcell 3
        have hc6 : wr.cell? ⟨a, 6, none⟩ = some (.int .i64 s.count) := hcell 6
        clear hcell hbl hnd
        by_cases hlt : k < q
        · obtain ⟨b, off, rfl⟩ := isS_some H2.out (by omega)
          have hcs := cell_later HBL.out (getS_cell H2.out hlt)
          have HADD := Lib.hid (fun d => add_any [a] a s (getS ns k) (wr.drewN d) (HND.out.below (below_drew (Below.refl _ _) d)) had.wf (by simpa using hla) (by have := had.len; omega))
          have hks := addZ_keep s (getS ns k)
          have hstep := adds_step had (getS ns k)
          have HST := Lib.hid hstep
          have hch := had.changed
          clear had hstep
          generalize getS ns k = x at *
          generalize hereS s.names x = hr at *
          by_cases hx : 100 < x.size
          · have g3 : decide (100 < (x.size : Int)) = true := by simp; omega
            clear hks hch
            go_wp2_with fail
            go_ret
            exact ⟨rfl, HBL.out⟩
          · have g3 : decide (100 < (x.size : Int)) = false := by simp; omega
            obtain ⟨k1, k2, k3, _, _, _⟩ := hks
            have K1 := Lib.hid k1
            have K2 := Lib.hid k2
            have K3 := Lib.hid (k3.trans hch)
            clear k1 k2 k3 hch
            go_wp2_with fail
            go_quiet (fail)
            go_wp2_with fail
            refine (HADD.out _).mono ?_
            rintro e w4 ⟨rfl, hi4, ho4⟩
            obtain ⟨ac4, cc4, hcell4, _⟩ := hi4.cells
            have hd2 : w4.cell? ⟨a, 2, none⟩ = some (.int .i64 s.version) := by rw [← K1.out]; exact hcell4 2
            have hd7 : w4.cell? ⟨a, 7, none⟩ = some (.string s.data) := by rw [← K2.out]; exact hcell4 7
            have hd1 : w4.cell? ⟨a, 1, none⟩ = some (.int .i64 3) := by rw [← K3.out]; exact hcell4 1
            have HI4 := Lib.hid hi4
            have HB4 := Lib.hid (below_of_only ((HBL.out).trans (below_drew (Below.refl _ _) _)) ho4 hsz (Nat.le_refl _))
            clear hcell4 hi4 ho4 hc2 hc7 hc3 hc6 hcs
            go_wp2_with fail
            go_roundw
            case rel => exact ⟨k + 1, by omega, by go_num, _, HI4.out, HST.out, HB4.out⟩
            case measure => simp [intOf]; omega
        · obtain rfl : k = q := by omega
          clear HB HND0 HA0
          have HKQ := Lib.hid HQ.out
          go_wp2_with fail
          go_quiet (fail)
          go_wp2_with fail
          obtain ⟨wo, hwo⟩ : ∃ wo : World, wo = wr := ⟨_, rfl⟩
          subst hwo
          have hal := HAD.out.len
          generalize hs0 : s = sz at *
          have hwr : Writ sz sz 0 := ⟨HAD.out.version, HAD.out.made, rfl, rfl, rfl, HAD.out.wf⟩
          have HWR := Lib.hid hwr
          have HRIS := Lib.hid HAD.out.ris
          have HDR := Lib.hid (fun d => HND.out.below (below_drew (Below.refl _ _) d))
          have HBD := Lib.hid (fun d => HBL.out.trans (below_drew (Below.refl _ _) d))
          have HAL := Lib.hid hal
          clear hwr hs0 hc2 hc7 hc3 hc6 had hal HAD HND HBL
          have hn30 := HN.out
          go_loopw [11] (fun i wr => ∃ j : Nat, j ≤ n ∧ i = .int .i64 (j : Int) ∧ ∃ s, IsNd wr [a] a s ∧ Writ sz s j ∧ Below W.heap.size W wr) (fun i _ => n - (intOf i).toNat)
          case atStart => exact ⟨0, by omega, rfl, sz, HDR.out _, HWR.out, HBD.out _⟩
          case round =>
            obtain ⟨j, hj, rfl, s, hnd, hwr, hbl⟩ := hrel
            have HND := Lib.hid hnd
            have HBL := Lib.hid hbl
            have hla2 : a < wr.heap.size := hnd.lt
            by_cases hlt2 : j < n
            · clear hnd hbl
              obtain ⟨b, off, rfl⟩ := isS_some H.out (by omega)
              have hcs := cell_later HBL.out (getS_cell H.out hlt2)
              have HW := Lib.hid (fun (z : Int) => write_any [a] a s z (getS l j) wr HND.out hwr.wf)
              have HST := Lib.hid (fun (z : Int) => writ_step hwr (by omega) z (getS l j))
              have HCB := Lib.hid (fun (w' : World) (hb : Below W.heap.size W w') => cell_later hb (getS_cell H.out hlt2))
              generalize getS l j = x at *
              clear hwr
              by_cases hx : 200 < x.size
              · have g3 : decide (200 < (x.size : Int)) = true := by simp; omega
                go_wp2_with fail
                go_ret
                exact ⟨rfl, HBL.out⟩
              · have g3 : decide (200 < (x.size : Int)) = false := by simp; omega
                have q1 : IntKind.i64.wrap ((j : Int) + 1) = (j : Int) + 1 := IntWalk.i64_in _ (by omega)
                have q2 : IntKind.i64.wrap (10 + (j : Int)) = 10 + (j : Int) := IntWalk.i64_in _ (by omega)
                go_wp2_with fail
                refine (HW.out _).mono ?_
                rintro e w5 ⟨rfl, hi5, ho5⟩
                obtain ⟨ac5, cc5, hcell5, _⟩ := hi5.cells
                have hv5 := (HST.out (10 + (j : Int))).version
                have hd2 : w5.cell? ⟨a, 2, none⟩ = some (.int .i64 ((j : Int) + 1)) := by rw [hcell5 2]; show some (Value.int .i64 (writeZ s (10 + (j : Int)) x).version) = _; rw [hv5]; rfl
                have hd1 : w5.cell? ⟨a, 1, none⟩ = some (.int .i64 (10 + (j : Int))) := hcell5 1
                have hd7 : w5.cell? ⟨a, 7, none⟩ = some (.string x) := hcell5 7
                have hd5 : w5.cell? ⟨a, 5, none⟩ = some (.int .i64 (x.size : Int)) := hcell5 5
                have HI5 := Lib.hid hi5
                have HB5 := Lib.hid (below_of_only HBL.out ho5 hsz (Nat.le_refl _))
                have hcs5 := HCB.out _ HB5.out
                clear hcell5 hi5 ho5 hcs hv5
                go_wp2_with fail
                go_quiet (fail)
                go_wp2_with fail
                go_roundw
                case rel => exact ⟨j + 1, by omega, by go_num, _, HI5.out.below (below_drew (Below.refl _ _) _), HST.out _, HB5.out.trans (below_drew (Below.refl _ _) _)⟩
                case measure => simp [intOf]; omega
            · obtain ⟨ac6, cc6, hcell6, his6⟩ := hnd.cells
              have hc3 : wr.cell? ⟨a, 3, none⟩ = some (.int .i64 sz.kids) := by rw [← hwr.kids]; exact hcell6 3
              have hc6 : wr.cell? ⟨a, 6, none⟩ = some (.int .i64 sz.count) := by rw [← hwr.count]; exact hcell6 6
              have hc0 : wr.cell? ⟨a, 0, none⟩ = some (.int .i64 3) := by rw [← hwr.made]; exact hcell6 0
              have hc9 : wr.cell? ⟨a, 9, none⟩ = some (.slice ac6 sz.names.length cc6) := by rw [← hwr.names]; exact hcell6 9
              rw [hwr.names] at his6
              have HR := Lib.hid (rising_any _ _ _ _ wr his6 (by have := HAL.out; omega))
              rw [(risS_iff sz.names).2 HRIS.out] at HR
              clear hcell6 his6 hwr hnd hbl
              go_wp2_with fail
              refine HR.out.mono ?_
              rintro e w7 ⟨rfl, d, rfl⟩
              go_wp2_with fail
              go_ret
              exact ⟨rfl, HBL.out.trans (below_drew (Below.refl _ _) _)⟩
theorem writes_said (ao : Option Addr) (n c : Nat) (l : List ByteArray) (bo : Option Addr) (q c2 : Nat) (ns : List ByteArray) (W : World) (h : IsS W ao n c l) (hnc : n ≤ c) (hc : c * 16 ≤ 140737488351232) (_ : ∀ s ∈ l, s.size ≤ 140737488351232) (h2 : IsS W bo q c2 ns) (hqc : q ≤ c2) (hc2 : c2 * 16 ≤ 140737488351232) (_ : ∀ s ∈ ns, s.size ≤ 140737488351232) :
    Calls Try.prog 3 #[.slice ao n c, .slice bo q c2] W fun e w' => e = .returned (.bool true) ∧ Below W.heap.size W w' :=
  writes_walk ao n c l bo q c2 ns W h h2 (by omega) (by omega)
end Go.Proofs.Ytaoligpckpabfaa
