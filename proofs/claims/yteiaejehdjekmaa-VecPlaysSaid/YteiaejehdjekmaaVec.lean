/-
  The methods of vec.Vec, and of the document's own, told by a list of numbers. Condition: at most 4 of them.
-/
import Derived.Test.YteiaejehdjekmaaRows
import Derived.Test.YteiaejehdjekmaaOnly
import Derived.Test.YteiaejehdjekmaaKitI
import Derived.BigQuiet
import Derived.Deep.QuietTactic
import Derived.BigRegion
import Derived.Deep.OwnRows
namespace Go.Proofs.Yteiaejehdjekmaa
open Go.RowKit

def ok64 (z : Int) : Prop := -9223372036854775808 ≤ z ∧ z ≤ 9223372036854775807

/-- behind the pointer to block a lies a struct of type T whose one field is a slice over block g, which holds l -/
structure IsV (T : TypeId) (w : World) (a g : Nat) (l : List Int) : Prop where
  ptr : w.heap[a]? = some (.cells #[.slice (some ⟨g, 0, none⟩) l.length l.length] T (0, 0))
  row : w.heap[g]? = some (.cells (l.map iv).toArray 2 (0, 0))
  ne : a ≠ g
  len : l.length ≤ 4

theorem IsV.only {T : TypeId} {w w' : World} {a g : Nat} {l : List Int} (h : IsV T w a g l) {S : List Nat} (ho : Only S w w') (ha : a ∉ S) (hg : g ∉ S) : IsV T w' a g l :=
  ⟨ho.keeps h.ptr ha, ho.keeps h.row hg, h.ne, h.len⟩
theorem IsV.head {T : TypeId} {w : World} {a g : Nat} {l : List Int} (h : IsV T w a g l) : w.cell? ⟨a, 0, none⟩ = some (.slice (some ⟨g, 0, none⟩) l.length l.length) := by
  rw [cell_heap h.ptr]; rfl
theorem IsV.at {T : TypeId} {w : World} {a g : Nat} {l : List Int} (h : IsV T w a g l) (i : Nat) (hi : i < l.length) : w.cell? ⟨g, i, none⟩ = some (.int .i64 (l.getD i 0)) := by
  rw [cell_heap h.row]; simp [hi, iv]
theorem IsV.free {T : TypeId} {w : World} {a g : Nat} {l : List Int} (h : IsV T w a g l) (i : Nat) : w.frozen? ⟨g, i, none⟩ = false := free_heap h.row i
theorem IsV.set {T : TypeId} {w : World} {a g : Nat} {l : List Int} (h : IsV T w a g l) (i : Nat) (z : Int) : IsV T (w.setCell ⟨g, i, none⟩ (.int .i64 z)) a g (l.set i z) := by
  refine ⟨?_, ?_, h.ne, by simpa using h.len⟩
  · rw [List.length_set]
    exact ((Only.refl [g] w).setCell (p := ⟨g, i, none⟩) (by simp) _).keeps h.ptr (by simpa using h.ne)
  · rw [heap_set h.row]
    simp [iv]
theorem IsV.drew {T : TypeId} {w : World} {a g : Nat} {l : List Int} (h : IsV T w a g l) : IsV T w.drew a g l := ⟨h.ptr, h.row, h.ne, h.len⟩

/-- is there such a place? -/
def hasB (l : List Int) (i : Int) : Bool := decide (0 ≤ i) && decide (i < (l.length : Int))
def seeB (l : List Int) (i z : Int) : Bool := hasB l i && decide (l.getD i.toNat 0 < z)
def seeL (l : List Int) (i z : Int) : List Int := if seeB l i z then l.set i.toNat z else l
def atL (l : List Int) (i : Int) : Int := if hasB l i then l.getD i.toNat 0 else 0
def readyB (l : List Int) (i z : Int) : Bool := hasB l i && decide (l.getD i.toNat 0 ≤ z)

theorem seeL_len (l : List Int) (i z : Int) : (seeL l i z).length = l.length := by unfold seeL; split <;> simp

set_option maxHeartbeats 400000 in
theorem has_any (a g : Nat) (l : List Int) (i : Int) (w : World) (h : IsV 48 w a g l) :
    Calls Try.prog 22 #[.pointer (some ⟨a, 0, none⟩), .int .i64 i] w fun e w' => e = .returned (.bool (hasB l i)) ∧ w = w' := by
  have hh := h.head
  clear h
  unfold hasB
  by_cases h0 : 0 ≤ i
  · have d0 : decide (0 ≤ i) = true := by simpa using h0
    rw [d0, Bool.true_and]
    generalize l.length = n at hh
    go_enter Try.func22, Try.ntmps22
    go_wp2
    go_ret
    exact ⟨rfl, rfl⟩
  · have d0 : decide (0 ≤ i) = false := by simpa using h0
    rw [d0, Bool.false_and]
    go_enter Try.func22, Try.ntmps22
    go_wp2
    go_ret
    exact ⟨rfl, rfl⟩

theorem hasB_true {l : List Int} {i : Int} (h : hasB l i = true) : ∃ k : Nat, i = (k : Int) ∧ k < l.length := by
  simp only [hasB, Bool.and_eq_true, decide_eq_true_eq] at h
  exact ⟨i.toNat, by omega, by omega⟩

set_option maxHeartbeats 400000 in
theorem at_any (a g : Nat) (l : List Int) (i : Int) (w : World) (h : IsV 48 w a g l) :
    Calls Try.prog 11 #[.pointer (some ⟨a, 0, none⟩), .int .i64 i] w fun e w' => e = .returned (.int .i64 (atL l i)) ∧ w = w' := by
  unfold atL
  cases hb : hasB l i with
  | true =>
    obtain ⟨k, rfl, hk⟩ := hasB_true hb
    have hh := h.head
    have hc := h.at k hk
    rw [if_pos rfl, Int.toNat_natCast]
    generalize l.getD k 0 = z at hc
    go_enter Try.func11, Try.ntmps11
    go_wp2_with fail
    refine (has_any a g l _ _ h).mono ?_
    rintro e w' ⟨rfl, rfl⟩
    rw [hb]
    clear h hb
    generalize l.length = n at hh hk
    go_wp2
    go_ret
    exact ⟨rfl, rfl⟩
  | false =>
    rw [if_neg (by simp)]
    go_enter Try.func11, Try.ntmps11
    go_wp2_with fail
    refine (has_any a g l _ _ h).mono ?_
    rintro e w' ⟨rfl, rfl⟩
    rw [hb]
    clear h hb
    go_wp2
    go_ret
    exact ⟨rfl, rfl⟩

set_option maxHeartbeats 400000 in
theorem ready_any (a g : Nat) (l : List Int) (i z : Int) (w : World) (h : IsV 48 w a g l) :
    Calls Try.prog 12 #[.pointer (some ⟨a, 0, none⟩), .int .i64 i, .int .i64 z] w fun e w' => e = .returned (.bool (readyB l i z)) ∧ w = w' := by
  unfold readyB
  cases hb : hasB l i with
  | true =>
    obtain ⟨k, rfl, hk⟩ := hasB_true hb
    have hh := h.head
    have hc := h.at k hk
    rw [Bool.true_and, Int.toNat_natCast]
    generalize l.getD k 0 = z0 at hc
    go_enter Try.func12, Try.ntmps12
    go_wp2_with fail
    refine (has_any a g l _ _ h).mono ?_
    rintro e w' ⟨rfl, rfl⟩
    rw [hb]
    clear h hb
    generalize l.length = n at hh hk
    go_wp2
    go_ret
    exact ⟨rfl, rfl⟩
  | false =>
    rw [Bool.false_and]
    go_enter Try.func12, Try.ntmps12
    go_wp2_with fail
    refine (has_any a g l _ _ h).mono ?_
    rintro e w' ⟨rfl, rfl⟩
    rw [hb]
    clear h hb
    go_wp2
    go_ret
    exact ⟨rfl, rfl⟩

set_option maxHeartbeats 400000 in
theorem see_all (a g : Nat) (l : List Int) (i z : Int) (w : World) (h : IsV 48 w a g l) :
    Calls Try.prog 10 #[.pointer (some ⟨a, 0, none⟩), .int .i64 i, .int .i64 z] w fun e w' => e = .returned (.bool (seeB l i z)) ∧ IsV 48 w' a g (seeL l i z) ∧ Only [g] w w' ∧ w'.heap.size = w.heap.size := by
  cases hb : hasB l i with
  | true =>
    obtain ⟨k, rfl, hk⟩ := hasB_true hb
    have hh := h.head
    have hc := h.at k hk
    have hf := h.free k
    by_cases hlt : l.getD k 0 < z
    · have hs : seeB l (k : Int) z = true := by simp only [seeB, hb, Int.toNat_natCast, hlt, decide_true, Bool.and_self]
      have hfin : IsV 48 (w.setCell ⟨g, k, none⟩ (.int .i64 z)) a g (seeL l k z) := by
        unfold seeL
        rw [if_pos hs, Int.toNat_natCast]
        exact h.set k z
      rw [hs]
      have HF := Lib.hid hfin
      clear hs hfin
      generalize seeL l k z = l' at HF
      generalize l.getD k 0 = z0 at hc hlt
      go_enter Try.func10, Try.ntmps10
      go_wp2_with fail
      refine (has_any a g l _ _ h).mono ?_
      rintro e w' ⟨rfl, rfl⟩
      rw [hb]
      clear h hb
      generalize l.length = n at hh hk
      go_wp2
      go_ret
      exact ⟨rfl, HF.out, (Only.refl _ _).setCell (by simp) _, by simp [World.setCell]⟩
    · have hs : seeB l (k : Int) z = false := by simp only [seeB, hb, Int.toNat_natCast, hlt, decide_false, Bool.and_false]
      have hfin : IsV 48 w a g (seeL l k z) := by
        unfold seeL
        rw [hs, if_neg (by simp)]
        exact h
      rw [hs]
      have HF := Lib.hid hfin
      clear hs hfin
      generalize seeL l k z = l' at HF
      generalize l.getD k 0 = z0 at hc hlt
      go_enter Try.func10, Try.ntmps10
      go_wp2_with fail
      refine (has_any a g l _ _ h).mono ?_
      rintro e w' ⟨rfl, rfl⟩
      rw [hb]
      clear h hb
      generalize l.length = n at hh hk
      go_wp2
      go_ret
      exact ⟨rfl, HF.out, Only.refl _ _, rfl⟩
  | false =>
    have hs : seeB l i z = false := by simp only [seeB, hb, Bool.false_and]
    have hfin : IsV 48 w a g (seeL l i z) := by
      unfold seeL
      rw [hs, if_neg (by simp)]
      exact h
    rw [hs]
    have HF := Lib.hid hfin
    clear hs hfin
    go_enter Try.func10, Try.ntmps10
    go_wp2_with fail
    refine (has_any a g l _ _ h).mono ?_
    rintro e w' ⟨rfl, rfl⟩
    rw [hb]
    clear h hb
    go_wp2
    go_ret
    exact ⟨rfl, HF.out, Only.refl _ _, rfl⟩

theorem see_any (a g : Nat) (l : List Int) (i z : Int) (w : World) (h : IsV 48 w a g l) :
    Calls Try.prog 10 #[.pointer (some ⟨a, 0, none⟩), .int .i64 i, .int .i64 z] w fun e w' => e = .returned (.bool (seeB l i z)) ∧ IsV 48 w' a g (seeL l i z) ∧ Only [g] w w' :=
  (see_all a g l i z w h).mono fun _ _ ⟨h1, h2, h3, _⟩ => ⟨h1, h2, h3⟩

theorem made_row (n : Nat) : madeCells #[Value.int .i64 0] n = ((List.replicate n (0 : Int)).map iv).toArray := by
  apply Array.ext'
  rw [toList_madeCells_one]
  simp [iv]

theorem new_row (w : World) (n : Nat) (hn : n ≤ 4) (T : TypeId) :
    IsV T ((w.alloc (.cells (madeCells #[.int .i64 0] n) 2)).alloc (.cells #[.slice (some ⟨w.heap.size, 0, none⟩) n n] T)) (w.heap.size + 1) w.heap.size (List.replicate n 0) := by
  rw [made_row]
  refine ⟨?_, heap_old (heap_new w _) _, by omega, by simpa using hn⟩
  have := heap_new (w.alloc (.cells ((List.replicate n (0 : Int)).map iv).toArray 2 (0, 0))) (.cells #[.slice (some ⟨w.heap.size, 0, none⟩) n n] T (0, 0))
  simpa using this

set_option maxHeartbeats 400000 in
theorem new_bad (n : Int) (w : World) (h : n < 1 ∨ 4 < n) :
    Calls Try.prog 9 #[.int .i64 n] w fun e w' => e = .returned (.tuple #[.pointer none, .int .i64 1]) ∧ w = w' := by
  rcases h with h | h
  · go_enter Try.func9, Try.ntmps9
    go_wp2
    go_ret2
    exact ⟨rfl, rfl⟩
  · have h1 : ¬ n < 1 := by omega
    go_enter Try.func9, Try.ntmps9
    go_wp2
    go_ret2
    exact ⟨rfl, rfl⟩

set_option maxHeartbeats 400000 in
theorem new_ok (n : Nat) (w : World) (h1 : 1 ≤ n) (h4 : n ≤ 4) :
    Calls Try.prog 9 #[.int .i64 (n : Int)] w fun e w' => e = .returned (.tuple #[.pointer (some ⟨w.heap.size + 1, 0, none⟩), .int .i64 0]) ∧ IsV 48 w' (w.heap.size + 1) w.heap.size (List.replicate n 0) ∧ Only [] w w' ∧ w'.heap.size = w.heap.size + 2 := by
  have hmk := run_make_row' (P := Try.prog) 22 2 (.int .i64 0) 8 Try.underlying22 (by kernel_rfl) rfl .i64 .i64 n (by omega) (by omega)
  have HV := Lib.hid (new_row w n h4 48)
  go_enter Try.func9, Try.ntmps9
  go_wp2
  go_ret2
  exact ⟨rfl, HV.out, ((Only.refl _ _).alloc _).alloc _, by simp⟩

end Go.Proofs.Yteiaejehdjekmaa
