/-
  slices.Insert of one text: the library's contracts, in this work's words. No condition.
-/
import Derived.Test.YtaoligpckpabfaaIns
import Derived.Lib.SlBuf
namespace Go.Proofs.Ytaoligpckpabfaa
open Go.RowKit
def InsPost (w : World) (base n : Nat) (l : List ByteArray) (e : Ending) (w' : World) : Prop :=
  ∃ ao c, e = .returned (.slice ao (n + 1) c) ∧ IsS w' ao (n + 1) c l ∧ (∀ p, ao = some p → base ≤ p.block ∧ p.block < w'.heap.size) ∧ Below base w w'
theorem arr_left {cs : List Value} {z : Array Value} {j : Nat} (h : j < cs.length) : (cs.toArray ++ z)[j]? = cs[j]? := by
  rw [Array.getElem?_append_left (by simpa using h)]; simp
theorem below_sets (b : Nat) {B : Nat} {a : World} (hb : B ≤ b) (vs : List Value) (o : Nat) {w : World} (h : Below B a w) : Below B a (w.setCells b o vs) := by
  induction vs generalizing o w with
  | nil => exact h
  | cons v r ih => exact ih (o + 1) (h.setCell (by exact hb) v)
theorem size_sets (b : Nat) (vs : List Value) (o : Nat) (w : World) : (w.setCells b o vs).heap.size = w.heap.size := by
  induction vs generalizing o w with
  | nil => rfl
  | cons v r ih => rw [World.setCells, ih]; simp [World.setCell]
set_option maxHeartbeats 1000000 in
theorem insert_any (base : Nat) (ao : Option Addr) (n c : Nat) (l : List ByteArray) (i : Nat) (s : ByteArray) (vb vc : Nat) (w : World) (h : OwnS w base 9 (.slice ao n c) l) (hl : l.length = n) (hi : i ≤ n)
    (hv : w.heap[vb]? = some (.cells #[.string s] 9 (0, 0))) (hvb : ∀ p, ao = some p → vb ≠ p.block) (hbase : base ≤ w.heap.size) (hn : n ≤ 1000000) :
    Calls Try.prog 28 #[.slice ao n c, .int .i64 i, .slice (some ⟨vb, 0, none⟩) 1 vc] w (InsPost w base n (insS l i s)) := by
  have hvs : ∀ (j : Nat) (v : Value), ([sv s])[j]? = some v → w.cell? ⟨vb, 0 + j, none⟩ = some v := by
    intro j v hj
    match j, hj with
    | 0, hj => rw [Nat.zero_add, cell_heap hv]; simpa [sv] using hj
  have h1v : ∀ v ∈ [sv s], v.oneCell' = true := by
    intro v hm
    obtain rfl := List.mem_singleton.1 hm
    rfl
  have hlen := insS_len l i s (by omega)
  have hmap := insS_map l i s
  unfold OwnS at h
  rw [hl] at h
  have hl1 := h.1
  rcases h.2 with ⟨e, h0⟩ | ⟨g, cap, cur, e, hg, hh, hnc, hcm, hcs, ht⟩
  · simp only [Value.slice.injEq] at e
    obtain ⟨rfl, rfl, rfl⟩ := e
    obtain rfl : i = 0 := by omega
    obtain rfl : l = [] := List.length_eq_zero_iff.1 hl
    refine (Any2.slices_Insert_string_end_grow lays22 none 0 0 vb 0 1 vc [] [sv s] w (by omega) (by omega) (by omega) (by omega) rfl rfl (fun _ => rfl) (fun a ha => by cases ha) hvs h1v).mono ?_
    rintro e w' ⟨rfl, rfl⟩
    refine ⟨_, _, rfl, isS_of_cells (by rw [hlen]; rfl) (fun j hj => ?_), fun p hp => by cases hp; exact ⟨hbase, by simp⟩, (Below.refl base w).drew.alloc hbase _⟩
    rw [hmap]
    refine (cell_heap (k := w.heap.size) (show (w.drew.alloc _).heap[w.heap.size]? = _ from heap_new w.drew _) j).trans ?_
    rw [arr_left (by simp; omega)]
    rfl
  · simp only [Value.slice.injEq, true_and] at e
    obtain ⟨rfl, rfl⟩ := e
    have hlt := lt_of_heap hh
    have hcl : (l.map sv).length = n := by simpa using hl
    have hsz : cur.size = c := by omega
    have hcell : ∀ (j : Nat) (v : Value), (l.map sv)[j]? = some v → w.cell? ⟨g, 0 + j, none⟩ = some v := by
      intro j v hj
      have hjn : j < n := by have := (List.getElem?_eq_some_iff.1 hj).1; omega
      rw [Nat.zero_add, cell_heap hh]
      rw [← ht, List.getElem?_take, if_pos (by omega)] at hj
      simpa using hj
    have hcellj : ∀ j, j < n → w.cell? ⟨g, j, none⟩ = (l.map sv)[j]? := by
      intro j hj
      have hjl : j < (l.map sv).length := by omega
      rw [List.getElem?_eq_getElem hjl]
      have := hcell j _ (List.getElem?_eq_getElem hjl)
      rwa [Nat.zero_add] at this
    by_cases hroom : n + 1 ≤ c
    · have hsome : ∀ j, j < n + 1 → (w.cell? ⟨g, j, none⟩).isSome = true := by
        intro j hj
        rw [cell_heap hh, Array.getElem?_eq_getElem (by omega)]; rfl
      by_cases hin : i < n
      · refine (Any2.slices_Insert_string_shift lays22 g 0 n c i vb 0 1 vc (l.map sv) [sv s] w hin (by omega) hroom (by unfold maxLen at hcm; omega) (hvb _ rfl) hcl rfl hcell
          (fun j hj => by rw [Nat.zero_add]; exact hsome j hj) (fun j _ => free_heap hh _) hvs (sv_ones l) h1v 9 9 1 c
          (by simp [World.shape?, hv]) (by simp [World.shape?, hh, hsz]) (by omega) (free_heap hv _) (free_heap hv _)).mono ?_
        rintro e w' ⟨rfl, rfl⟩
        refine ⟨_, _, rfl, isS_of_cells (by rw [hlen, hl]) (fun j hj => ?_), fun p hp => by cases hp; exact ⟨hg, by rw [size_sets, size_sets]; exact hlt⟩, below_sets g hg _ _ (below_sets g hg _ _ (Below.refl base w).drew)⟩
        rw [hmap, Nat.zero_add, Nat.zero_add]
        exact ins_cells g n i (l.map sv) (sv s) w.drew hi hcl hsome (fun j hj => hcellj j (by omega)) j hj
      · obtain rfl : i = n := by omega
        refine (Any2.slices_Insert_string_end_room lays22 g 0 i c vb 0 1 vc [sv s] w (by omega) hroom (by unfold maxLen at hcm; omega) rfl
          (fun j hj => by rw [show 0 + i + j = i + j from by omega]; exact hsome _ (by omega)) (fun j _ => free_heap hh _) hvs h1v).mono ?_
        rintro e w' ⟨rfl, rfl⟩
        refine ⟨_, _, rfl, isS_of_cells (by rw [hlen, hl]) (fun j hj => ?_), fun p hp => by cases hp; exact ⟨hg, by rw [size_sets]; exact hlt⟩, below_sets g hg _ _ (Below.refl base w)⟩
        have h5 := ins_cells g i i (l.map sv) (sv s) w (Nat.le_refl _) hcl hsome (fun j hj => hcellj j (by omega)) j hj
        rw [hmap, Nat.zero_add]
        rw [List.drop_of_length_le (by omega)] at h5 ⊢
        exact h5
    · by_cases hin : i < n
      · refine (Any2.slices_Insert_string_grow lays22 g 0 n c i vb 0 1 vc (l.map sv) [sv s] w hin (by omega) hnc (by omega) (by omega) hcl rfl hcell hvs (sv_ones l) h1v).mono ?_
        rintro e w' ⟨rfl, rfl⟩
        have hk := grownCap_ge w (n + 1) c (lays22_ren.t 9)
        refine ⟨_, _, rfl, isS_of_cells (by rw [hlen, hl]) (fun j hj => ?_), fun p hp => by cases hp; exact ⟨hbase, by rw [size_sets]; show w.heap.size < (World.setCells _ _ _ _).heap.size; rw [size_sets]; simp⟩, below_sets _ hbase _ _ (below_sets _ hbase _ _ ((Below.refl base w).alloc hbase _).drew).drew⟩
        rw [hmap]
        have hd : ∀ (W : World) (x : Addr), W.drew.cell? x = W.cell? x := fun _ _ => rfl
        simp only [← drew_setCells, hd]
        refine ins_cells2 w.heap.size n i (l.map sv) (sv s) _ hi hcl (fun j hj => ?_) (fun j hj => ?_) j hj
        · rw [cell_heap (heap_new w _), Array.getElem?_eq_getElem (by simp [Builtin.zeroCells, Value.cells]; omega)]; rfl
        · rw [cell_heap (heap_new w _), Array.append_assoc, arr_left (by rw [List.length_take]; omega), List.getElem?_take, if_pos hj]
      · obtain rfl : i = n := by omega
        refine (Any2.slices_Insert_string_end_grow lays22 (some ⟨g, 0, none⟩) i c vb 0 1 vc (l.map sv) [sv s] w (by omega) hnc (by omega) (by omega) hcl rfl (fun h => by cases h) (fun a ha j v hj => by cases ha; rw [Addr.add_lit]; exact hcell j v hj) hvs h1v).mono ?_
        rintro e w' ⟨rfl, rfl⟩
        refine ⟨_, _, rfl, isS_of_cells (by rw [hlen, hl]) (fun j hj => ?_), fun p hp => by cases hp; exact ⟨hbase, by simp⟩, (Below.refl base w).drew.alloc hbase _⟩
        rw [hmap, List.take_of_length_le (by omega), List.drop_of_length_le (by omega)]
        refine (cell_heap (k := w.heap.size) (show (w.drew.alloc _).heap[w.heap.size]? = _ from heap_new w.drew _) j).trans ?_
        rw [arr_left (by simp; omega)]
end Go.Proofs.Ytaoligpckpabfaa
