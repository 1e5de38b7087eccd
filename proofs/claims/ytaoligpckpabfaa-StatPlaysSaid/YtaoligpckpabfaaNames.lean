/-
  StatNames' walk. No condition.
-/
import Derived.Test.YtaoligpckpabfaaWrites
namespace Go.Proofs.Ytaoligpckpabfaa
open Go.RowKit
theorem outS_mem {l : List ByteArray} (hr : Ris l) {x y : ByteArray} (hh : hereS l x = true) (hy : y ∈ outS l (seekS l x)) : y ∈ l ∧ y ≠ x := by
  have hlt := hereS_lt hh
  have hx : l[seekS l x] = x := by
    unfold hereS at hh
    have := (of_decide_eq_true hh).2
    simpa [hlt] using this
  unfold outS at hy
  rw [List.mem_append] at hy
  have hp := List.pairwise_iff_getElem.1 hr
  rcases hy with hy | hy
  · refine ⟨List.mem_of_mem_take hy, ?_⟩
    rintro rfl
    obtain ⟨t, ht, he⟩ := List.getElem_of_mem hy
    rw [List.length_take] at ht
    rw [List.getElem_take] at he
    have := hp t (seekS l y) (by omega) hlt (by omega)
    rw [he, hx, ltB_irrefl] at this; cases this
  · refine ⟨List.mem_of_mem_drop hy, ?_⟩
    rintro rfl
    obtain ⟨t, ht, he⟩ := List.getElem_of_mem hy
    rw [List.length_drop] at ht
    rw [List.getElem_drop] at he
    have := hp (seekS l y) (seekS l y + 1 + t) hlt (by omega) (by omega)
    rw [he, hx, ltB_irrefl] at this; cases this
structure Nm (l : List ByteArray) (s : Nd) (k m : Nat) : Prop where
  ris : Ris s.names
  sub : ∀ y ∈ s.names, y ∈ l
  all : ∀ y ∈ l.take k, y ∈ s.names
  version : s.version = 0
  count : s.count = m
  kids : s.kids = m
  next : s.next = m
  len : s.names.length = m
  le : m ≤ k
  wf : WfN s
theorem nm_start (l : List ByteArray) : Nm l (newZ 1 0 ⟨#[]⟩) 0 0 := ⟨ris_nil, by simp [newZ], by simp, rfl, rfl, rfl, rfl, rfl, Nat.le_refl _, newZ_wf _ _ _⟩
theorem moreZ_small {z : Int} (h : z < 2147483647) : moreZ z = z + 1 := by unfold moreZ; rw [if_neg (by omega)]
theorem nm_here {l : List ByteArray} {s : Nd} {k m : Nat} (h : Nm l s k m) (hk : k < l.length) (hh : hereS s.names (getS l k) = true) : Nm l s (k + 1) m := by
  refine ⟨h.ris, h.sub, fun y hy => ?_, h.version, h.count, h.kids, h.next, h.len, by have := h.le; omega, h.wf⟩
  rw [take_oneS l k hk, List.mem_append, List.mem_singleton] at hy
  rcases hy with hy | rfl
  · exact h.all y hy
  · exact (hereS_iff h.ris _).1 hh
theorem getS_mem {l : List ByteArray} {k : Nat} (hk : k < l.length) : getS l k ∈ l := by unfold getS; simp [hk]
theorem nm_new {l : List ByteArray} {s : Nd} {k m : Nat} (h : Nm l s k m) (hk : k < l.length) (hk2 : k ≤ 1000) (hh : hereS s.names (getS l k) = false) :
    Nm l (addZ s (getS l k)) (k + 1) (m + 1) ∧ hereS (addZ s (getS l k)).names (getS l k) = true ∧ addZ (addZ s (getS l k)) (getS l k) = addZ s (getS l k) := by
  have hle := h.le
  have hx : getS l k ∉ s.names := fun hm => by rw [(hereS_iff h.ris _).2 hm] at hh; cases hh
  have hr := addZ_ris h.ris (getS l k)
  have e : addZ s (getS l k) = { s with names := insS s.names (seekS s.names (getS l k)) (getS l k), count := (s.names.length + 1 : Nat), kids := moreZ s.kids, next := moreZ s.next } := by
    unfold addZ; rw [if_neg (by rw [hh]; simp)]
  have hh2 : hereS (addZ s (getS l k)).names (getS l k) = true := by
    rw [hereS_iff hr, e]
    exact (insS_mem _ _ _ _).2 (.inl rfl)
  refine ⟨⟨hr, ?_, ?_, ?_, ?_, ?_, ?_, ?_, by omega, addZ_wf h.wf _⟩, hh2, ?_⟩
  · intro y hy
    rw [e] at hy
    rcases (insS_mem _ _ _ _).1 hy with rfl | hy
    · exact getS_mem hk
    · exact h.sub y hy
  · intro y hy
    rw [e]
    rw [take_oneS l k hk, List.mem_append, List.mem_singleton] at hy
    refine (insS_mem _ _ _ _).2 ?_
    rcases hy with hy | rfl
    · exact .inr (h.all y hy)
    · exact .inl rfl
  · rw [e]; exact h.version
  · rw [e]; show ((s.names.length + 1 : Nat) : Int) = _; rw [h.len]
  · rw [e]; show moreZ s.kids = _; rw [h.kids, moreZ_small (by omega)]; rfl
  · rw [e]; show moreZ s.next = _; rw [h.next, moreZ_small (by omega)]; rfl
  · rw [e]; show (insS _ _ _).length = _; rw [insS_len _ _ _ (seekS_le _ _), h.len]
  · generalize addZ s (getS l k) = s' at *
    unfold addZ; rw [if_pos hh2]
structure Rm (l : List ByteArray) (m : Nat) (s : Nd) (j : Nat) : Prop where
  ris : Ris s.names
  sub : ∀ y ∈ s.names, y ∈ l ∧ y ∉ l.take j
  version : s.version = 0
  count : s.count = s.names.length
  kids : s.kids = 2 * (m : Int) - s.names.length
  next : s.next = m
  le : s.names.length ≤ m
  wf : WfN s
theorem rm_start {l : List ByteArray} {s : Nd} {k m : Nat} (h : Nm l s k m) : Rm l m s 0 := by
  refine ⟨h.ris, fun y hy => ⟨h.sub y hy, by simp⟩, h.version, ?_, ?_, h.next, Nat.le_of_eq h.len, h.wf⟩
  · rw [h.count, h.len]
  · rw [h.kids, h.len]; omega
theorem rm_step {l : List ByteArray} {m : Nat} {s : Nd} {j : Nat} (h : Rm l m s j) (hj : j < l.length) (hm : m ≤ 1000) : Rm l m (removeZ s (getS l j)) (j + 1) := by
  have hle := h.le
  by_cases hh : hereS s.names (getS l j) = true
  · have hlt := hereS_lt hh
    have e : removeZ s (getS l j) = { s with names := outS s.names (seekS s.names (getS l j)), count := (s.names.length - 1 : Nat), kids := moreZ s.kids } := by
      unfold removeZ; rw [if_pos hh]
    have hlen : (outS s.names (seekS s.names (getS l j))).length = s.names.length - 1 := by
      simp only [outS, List.length_append, List.length_take, List.length_drop]; omega
    refine ⟨removeZ_ris h.ris _, ?_, ?_, ?_, ?_, ?_, ?_, removeZ_wf h.wf _⟩
    · intro y hy
      rw [e] at hy
      obtain ⟨h1, h2⟩ := outS_mem h.ris hh hy
      refine ⟨(h.sub y h1).1, ?_⟩
      rw [take_oneS l j hj, List.mem_append, List.mem_singleton]
      rintro (h3 | h3)
      · exact (h.sub y h1).2 h3
      · exact h2 h3
    · rw [e]; exact h.version
    · rw [e]; show ((s.names.length - 1 : Nat) : Int) = ((outS _ _).length : Nat); rw [hlen]
    · rw [e]; show moreZ s.kids = 2 * (m : Int) - ((outS _ _).length : Nat); rw [hlen, h.kids, moreZ_small (by omega)]; omega
    · rw [e]; exact h.next
    · rw [e]; show (outS _ _).length ≤ m; omega
  · have e : removeZ s (getS l j) = s := by unfold removeZ; rw [if_neg hh]
    rw [e]
    refine ⟨h.ris, fun y hy => ⟨(h.sub y hy).1, ?_⟩, h.version, h.count, h.kids, h.next, h.le, h.wf⟩
    rw [take_oneS l j hj, List.mem_append, List.mem_singleton]
    rintro (h3 | h3)
    · exact (h.sub y hy).2 h3
    · subst h3; exact hh ((hereS_iff h.ris _).2 hy)
theorem rm_end {l : List ByteArray} {m : Nat} {s : Nd} {j : Nat} (h : Rm l m s j) (hj : l.length = j) : s.names = [] := by
  refine List.eq_nil_iff_forall_not_mem.2 fun y hy => ?_
  obtain ⟨h1, h2⟩ := h.sub y hy
  rw [List.take_of_length_le (by omega)] at h2
  exact h2 h1
set_option maxHeartbeats 4000000 in
set_option maxRecDepth 100000 in
theorem names_walk (ao : Option Addr) (n c : Nat) (l : List ByteArray) (W : World) (h : IsS W ao n c l) (hn9 : n ≤ 8796093022208) :
    Calls Try.prog 4 #[.slice ao n c] W fun e w' => e = .returned (.bool true) ∧ Below W.heap.size W w' := by
  by_cases hn : 40 < n
  · go_enter Try.func4, Try.ntmps4
    go_wp2_with fail
    refine (awake_any _).mono ?_
    rintro e w1 ⟨rfl, hb1⟩
    go_wp2_with fail
    go_ret
    exact ⟨rfl, hb1⟩
  · have g1 : decide (40 < (n : Int)) = false := by simp; omega
    have H := Lib.hid h
    have HN := Lib.hid hn
    have HL := Lib.hid h.len
    clear h hn
    go_enter Try.func4, Try.ntmps4
    go_wp2_with fail
    refine (awake_any _).mono ?_
    rintro e w1 ⟨rfl, hb1⟩
    go_wp2_with fail
    refine (new_any _ _ _ _).mono ?_
    rintro e w2 ⟨rfl, hb2⟩
    have hb12 := hb1.trans (hb2.mono hb1.size)
    have hnd := isNd_new w2 1 0 ⟨#[]⟩ [w2.heap.size] w2.heap.size rfl (by simp)
    have HND := Lib.hid hnd
    have HB := Lib.hid (hb12.alloc hb12.size (.cells (cellsN (newZ 1 0 ⟨#[]⟩) (.slice none 0 0)) 27))
    have hsz := hb12.size
    clear hb1 hb2 hb12 hnd g1
    rw [show aggN (newZ 1 0 ⟨#[]⟩) (.slice none 0 0) = .agg #[.int .i64 1, .int .i64 1, .int .i64 0, .int .i64 0, .int .i64 0, .int .i64 0, .int .i64 0, .string ⟨#[]⟩, .int .i64 0, .slice none 0 0] from rfl]
    go_wp2_with fail
    rw [show cellsN (newZ 1 0 ⟨#[]⟩) (.slice none 0 0) = #[.int .i64 1, .int .i64 1, .int .i64 0, .int .i64 0, .int .i64 0, .int .i64 0, .int .i64 0, .string ⟨#[]⟩, .int .i64 0, .slice none 0 0] from rfl] at HND HB
    generalize w2.heap.size = a at *
    generalize World.alloc w2 _ = w3 at *
    obtain ⟨s0, HND0, HA0⟩ : ∃ s0, Hid (IsNd w3 [a] a s0) ∧ Hid (Nm l s0 0 0) := ⟨_, HND, Lib.hid (nm_start l)⟩
    clear HND
    have hn40 := HN.out
    go_loopw [4, 5] (fun mv i wr => ∃ k m : Nat, k ≤ n ∧ i = .int .i64 (k : Int) ∧ mv = .int .i64 (m : Int) ∧ ∃ s, IsNd wr [a] a s ∧ Nm l s k m ∧ Below W.heap.size W wr) (fun _ i _ => n - (intOf i).toNat)
    case atStart => exact ⟨0, 0, by omega, rfl, rfl, s0, HND0.out, HA0.out, HB.out⟩
    case round =>
      obtain ⟨k, m, hk, rfl, rfl, s, hnd, had, hbl⟩ := hrel
      have HND := Lib.hid hnd
      have HAD := Lib.hid had
      have HBL := Lib.hid hbl
      have hla : a < wr.heap.size := hnd.lt
      have hmk := had.le
      by_cases hlt : k < n
      · clear hnd hbl
        obtain ⟨b, off, rfl⟩ := isS_some H.out (by omega)
        have hcs := cell_later HBL.out (getS_cell H.out hlt)
        have HCB := Lib.hid (fun (w' : World) (hb : Below W.heap.size W w') => cell_later hb (getS_cell H.out hlt))
        have HADD := Lib.hid (add_any [a] a s (getS l k) wr HND.out had.wf (by simpa using hla) (by have := had.len; omega))
        by_cases hx : 100 < (getS l k).size
        · generalize getS l k = x at *
          have g3 : decide (100 < (x.size : Int)) = true := by simp; omega
          clear had
          go_wp2_with fail
          go_ret
          exact ⟨rfl, HBL.out⟩
        · by_cases hh : hereS s.names (getS l k) = true
          · have HST := Lib.hid (nm_here had (by rw [HL.out]; omega) hh)
            have HADS := Lib.hid (show addZ s (getS l k) = s by unfold addZ; rw [if_pos hh])
            rw [hh, HADS.out] at HADD
            have HAD2 := Lib.hid (fun (w' : World) (hi : IsNd w' [a] a s) (ha : a < w'.heap.size) => add_any [a] a s (getS l k) w' hi had.wf (by simpa using ha) (by have := had.len; omega))
            rw [hh, HADS.out] at HAD2
            generalize getS l k = x at *
            have g3 : decide (100 < (x.size : Int)) = false := by simp; omega
            clear had hh
            go_wp2_with fail
            refine HADD.out.mono ?_
            rintro e w4 ⟨rfl, hi4, ho4⟩
            have HB4 := Lib.hid (below_of_only HBL.out ho4 hsz (Nat.le_refl _))
            have hcs4 := HCB.out _ HB4.out
            have HI4 := Lib.hid hi4
            have hla4 := hi4.lt
            clear hi4 ho4 hcs
            go_wp2_with fail
            refine (HAD2.out _ HI4.out hla4).mono ?_
            rintro e w5 ⟨rfl, hi5, ho5⟩
            have HB5 := Lib.hid (below_of_only HB4.out ho5 hsz (Nat.le_refl _))
            have HI5 := Lib.hid hi5
            clear hi5 ho5 hcs4
            go_wp2_with fail
            go_roundw
            case rel => exact ⟨k + 1, m, by omega, by go_num, rfl, s, HI5.out, HST.out, HB5.out⟩
            case measure => simp [intOf]; omega
          · have hh0 : hereS s.names (getS l k) = false := by simpa using hh
            obtain ⟨hst, hh2, hadd⟩ := nm_new had (by rw [HL.out]; omega) (by omega) hh0
            have HST := Lib.hid hst
            rw [hh0] at HADD
            have HAD2 := Lib.hid (fun (w' : World) (hi : IsNd w' [a] a (addZ s (getS l k))) (ha : a < w'.heap.size) => add_any [a] a (addZ s (getS l k)) (getS l k) w' hi hst.wf (by simpa using ha) (by have := hst.len; omega))
            rw [hh2, hadd] at HAD2
            generalize addZ s (getS l k) = s2 at *
            generalize getS l k = x at *
            have g3 : decide (100 < (x.size : Int)) = false := by simp; omega
            clear had hh hh0 hst hh2 hadd
            go_wp2_with fail
            refine HADD.out.mono ?_
            rintro e w4 ⟨rfl, hi4, ho4⟩
            have HB4 := Lib.hid (below_of_only HBL.out ho4 hsz (Nat.le_refl _))
            have hcs4 := HCB.out _ HB4.out
            have HI4 := Lib.hid hi4
            have hla4 := hi4.lt
            clear hi4 ho4 hcs
            go_wp2_with fail
            refine (HAD2.out _ HI4.out hla4).mono ?_
            rintro e w5 ⟨rfl, hi5, ho5⟩
            have HB5 := Lib.hid (below_of_only HB4.out ho5 hsz (Nat.le_refl _))
            have HI5 := Lib.hid hi5
            clear hi5 ho5 hcs4
            go_wp2_with fail
            go_roundw
            case rel => exact ⟨k + 1, m + 1, by omega, by go_num, by go_num, s2, HI5.out, HST.out, HB5.out⟩
            case measure => simp [intOf]; omega
      · obtain rfl : k = n := by omega
        obtain ⟨ac, cc, hcell, his⟩ := hnd.cells
        have hc9 : wr.cell? ⟨a, 9, none⟩ = some (.slice ac s.names.length cc) := hcell 9
        have hc6 : wr.cell? ⟨a, 6, none⟩ = some (.int .i64 m) := by rw [← had.count]; exact hcell 6
        have hc3 : wr.cell? ⟨a, 3, none⟩ = some (.int .i64 m) := by rw [← had.kids]; exact hcell 3
        have hc8 : wr.cell? ⟨a, 8, none⟩ = some (.int .i64 m) := by rw [← had.next]; exact hcell 8
        have HR := Lib.hid (rising_any _ _ _ _ wr his (by have := had.len; omega))
        rw [(risS_iff s.names).2 had.ris] at HR
        have HRM := Lib.hid (rm_start had)
        clear hcell his had hnd hbl HB HND0 HA0 s0
        go_wp2_with fail
        refine HR.out.mono ?_
        rintro e w7 ⟨rfl, d, rfl⟩
        go_wp2_with fail
        have HND1 := Lib.hid (HND.out.below (below_drew (Below.refl _ _) d))
        have HBL1 := Lib.hid (HBL.out.trans (below_drew (Below.refl _ _) d))
        clear HND HBL HAD HR hc9 hc6 hc3 hc8 hla
        generalize wr.drewN d = wo at *
        go_loopw [6] (fun i wr => ∃ j : Nat, j ≤ k ∧ i = .int .i64 (j : Int) ∧ ∃ s, IsNd wr [a] a s ∧ Rm l m s j ∧ Below W.heap.size W wr) (fun i _ => k - (intOf i).toNat)
        case atStart => exact ⟨0, by omega, rfl, s, HND1.out, HRM.out, HBL1.out⟩
        case round =>
          obtain ⟨j, hj, rfl, s, hnd, hrm, hbl⟩ := hrel
          have HND := Lib.hid hnd
          have HBL := Lib.hid hbl
          have hla : a < wr.heap.size := hnd.lt
          by_cases hlt2 : j < k
          · clear hnd hbl
            obtain ⟨b, off, rfl⟩ := isS_some H.out (by omega)
            have hcs := cell_later HBL.out (getS_cell H.out hlt2)
            have HW := Lib.hid (remove_any [a] a s (getS l j) wr HND.out hrm.wf (by simpa using hla) (by have := hrm.le; omega))
            have HST := Lib.hid (rm_step hrm (by rw [HL.out]; omega) (by omega))
            generalize getS l j = x at *
            clear hrm
            generalize hereS s.names x = hb at *
            go_wp2_with fail
            refine HW.out.mono ?_
            rintro e w5 ⟨rfl, hi5, ho5⟩
            have HB5 := Lib.hid (below_of_only HBL.out ho5 hsz (Nat.le_refl _))
            have HI5 := Lib.hid hi5
            clear hi5 ho5 hcs
            go_wp2_with fail
            go_roundw
            case rel => exact ⟨j + 1, by omega, by go_num, _, HI5.out, HST.out, HB5.out⟩
            case measure => simp [intOf]; omega
          · have he := rm_end hrm (by rw [HL.out]; omega)
            obtain ⟨ac6, cc6, hcell6, _⟩ := hnd.cells
            have hc9 : wr.cell? ⟨a, 9, none⟩ = some (.slice ac6 0 cc6) := by have := hcell6 9; rw [he] at this; exact this
            have hc6 : wr.cell? ⟨a, 6, none⟩ = some (.int .i64 0) := by rw [hcell6 6]; show some (Value.int .i64 s.count) = _; rw [hrm.count, he]; rfl
            have hc3 : wr.cell? ⟨a, 3, none⟩ = some (.int .i64 (2 * (m : Int))) := by rw [hcell6 3]; show some (Value.int .i64 s.kids) = _; rw [hrm.kids, he]; simp
            have hc8 : wr.cell? ⟨a, 8, none⟩ = some (.int .i64 m) := by rw [hcell6 8]; show some (Value.int .i64 s.next) = _; rw [hrm.next]
            have hc2 : wr.cell? ⟨a, 2, none⟩ = some (.int .i64 0) := by rw [hcell6 2]; show some (Value.int .i64 s.version) = _; rw [hrm.version]
            clear hcell6 hrm hnd hbl he
            go_wp2_with fail
            go_ret
            exact ⟨rfl, HBL.out⟩
theorem names_said (ao : Option Addr) (n c : Nat) (l : List ByteArray) (W : World) (h : IsS W ao n c l) (hnc : n ≤ c) (hc : c * 16 ≤ 140737488351232) (_ : ∀ s ∈ l, s.size ≤ 140737488351232) :
    Calls Try.prog 4 #[.slice ao n c] W fun e w' => e = .returned (.bool true) ∧ Below W.heap.size W w' :=
  names_walk ao n c l W h (by omega)
end Go.Proofs.Ytaoligpckpabfaa
