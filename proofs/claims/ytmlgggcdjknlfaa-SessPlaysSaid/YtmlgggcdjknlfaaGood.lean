/-
  Sessions that calls can have made: good tells so.
-/
import Derived.Test.YtmlgggcdjknlfaaPut
namespace Go.Proofs.Ytmlgggcdjknlfaa
open Go.RowKit

/-- the number ahead of place k -/
def prevId (l : List Se) (k : Nat) : Int := if k = 0 then 0 else (l.getD (k - 1) ⟨0, 0, 0⟩).id
/-- what good asks of one -/
structure Fine (s : Ss) (x : Se) : Prop where
  lt : x.id < s.next
  sp1 : 1 ≤ x.span
  sp2 : x.span ≤ 10000
  till1 : s.now < x.till
  till2 : x.till - s.now ≤ x.span
  till3 : x.span ≤ x.till
structure Good (s : Ss) : Prop where
  r1 : 1 ≤ s.room
  r2 : s.room ≤ 64
  n1 : 0 ≤ s.now
  n2 : s.now ≤ 1099511627776
  x1 : 1 ≤ s.next
  x2 : s.next ≤ 1099511627776
  len : (s.l.length : Int) ≤ s.room
  up : ∀ k, k < s.l.length → prevId s.l k < (s.l.getD k ⟨0, 0, 0⟩).id
  fine : ∀ k, k < s.l.length → Fine s (s.l.getD k ⟨0, 0, 0⟩)

set_option maxHeartbeats 4000000 in
set_option maxRecDepth 100000 in
theorem good_any (base a : Nat) (g : Option Nat) (s : Ss) (w : World) (h : IsSess w base a g s) (hg : Good s) :
    Calls Try.prog 36 #[.pointer (some ⟨a, 0, none⟩)] w fun e w' => e = .returned (.bool true) ∧ Below w.heap.size w w' := by
  obtain ⟨⟨v, h1, h2, h3⟩, _, _⟩ := h
  have hc0 : w.cell? ⟨a, 0, none⟩ = some (.int .i64 s.room) := by rw [cell_heap h1]; rfl
  have hc1 : w.cell? ⟨a, 1, none⟩ = some (.int .i64 s.now) := by rw [cell_heap h1]; rfl
  have hc2 : w.cell? ⟨a, 2, none⟩ = some (.int .i64 s.next) := by rw [cell_heap h1]; rfl
  have hc3 : w.cell? ⟨a, 3, none⟩ = some v := by rw [cell_heap h1]; rfl
  have hrow := fun h0 => row_cell h2 h0
  obtain ⟨ao, cap, rfl, hcap, _⟩ := row_shape h2
  have HUP := Lib.hid hg.up
  have HFI : Hid (∀ k, k < s.l.length → Fine s (s.l.getD k ⟨0, 0, 0⟩)) := Lib.hid hg.fine
  obtain ⟨r1, r2, n1, n2, x1, x2, hlen, _, _⟩ := hg
  clear h1 h2 h3
  obtain ⟨room, now, next, l⟩ := s
  simp only at *
  generalize hn : l.length = n at *
  have d0 : decide (room < 1) = false := decide_eq_false (by omega)
  have d1 : decide (64 < room) = false := decide_eq_false (by omega)
  have d2 : decide (now < 0) = false := decide_eq_false (by omega)
  have d3 : decide (1099511627776 < now) = false := decide_eq_false (by omega)
  have d4 : decide (next < 1) = false := decide_eq_false (by omega)
  have d5 : decide (1099511627776 < next) = false := decide_eq_false (by omega)
  have d6 : decide (room < (n : Int)) = false := decide_eq_false (by omega)
  have HN := Lib.hid hn; clear hn
  have HR := Lib.hid hrow; clear hrow
  have HN1 := Lib.hid n1; have HN2 := Lib.hid n2
  have HC1 := Lib.hid hc1; have HC2 := Lib.hid hc2
  have hq : ∀ q, Below w.heap.size w (w.drewN q) := fun q => below_drew (Below.refl _ w) q
  have HQ := Lib.hid hq
  clear r1 r2 n1 n2 x1 x2 hlen hq
  go_enter Try.func36, Try.ntmps36
  go_wp2_with fail
  go_quiet (fail)
  clear d0 d1 d2 d3 d4 d5 d6 hc0
  go_wp2_with fail
  go_loopw [3, 63] (fun t i wr => ∃ k : Nat, k ≤ n ∧ i = .int .i64 (k : Int) ∧ t = .int .i64 (prevId l k) ∧ Below w.heap.size w wr) (fun _ i _ => n - (intOf i).toNat)
  case atStart => exact ⟨0, by omega, rfl, rfl, HQ.out _⟩
  case round =>
    obtain ⟨k, hk, rfl, rfl, hbl⟩ := hrel
    have HB := Lib.hid hbl
    by_cases hlt : k < n
    · obtain ⟨g, cap2, he, _, _, _, _, hcell⟩ := HR.out (by omega)
      obtain ⟨rfl, rfl⟩ : ao = some ⟨g, 0, none⟩ ∧ cap = cap2 := by
        simp only [Value.slice.injEq] at he
        exact ⟨he.1, he.2.2⟩
      have c0 := cell_later hbl (show w.cell? ⟨g, k * 3, none⟩ = some (.int .i64 (l.getD k ⟨0, 0, 0⟩).id) from hcell k 0 hlt (by decide))
      have c1 := cell_later hbl (show w.cell? ⟨g, k * 3 + 1, none⟩ = some (.int .i64 (l.getD k ⟨0, 0, 0⟩).span) from hcell k 1 hlt (by decide))
      have c2 := cell_later hbl (show w.cell? ⟨g, k * 3 + 2, none⟩ = some (.int .i64 (l.getD k ⟨0, 0, 0⟩).till) from hcell k 2 hlt (by decide))
      have hup := HUP.out k hlt
      obtain ⟨f1, f2, f3, f4, f5, f6⟩ := HFI.out k hlt
      have hpv : prevId l (k + 1) = (l.getD k ⟨0, 0, 0⟩).id := by unfold prevId; rw [if_neg (by omega)]; rfl
      generalize l.getD k ⟨0, 0, 0⟩ = x at *
      generalize prevId l k = pv at *
      obtain ⟨x, y, z⟩ := x
      simp only at c0 c1 c2 hup f1 f2 f3 f4 f5 f6 hpv
      have e0 : decide (x ≤ pv) = false := decide_eq_false (by omega)
      have e1 : decide (next ≤ x) = false := decide_eq_false (by omega)
      have e2 : decide (y < 1) = false := decide_eq_false (by omega)
      have e3 : decide (10000 < y) = false := decide_eq_false (by omega)
      have e4 : decide (z ≤ now) = false := decide_eq_false (by omega)
      have e5 : IntKind.i64.wrap (z - now) = z - now := IntWalk.i64_in _ (by have := HN1.out; have := HN2.out; omega)
      have e6 : decide (y < z - now) = false := decide_eq_false (by omega)
      have e7 : decide (z < y) = false := decide_eq_false (by omega)
      have hb2 : Below w.heap.size w (wr.alloc (.cells #[.int .i64 x, .int .i64 y, .int .i64 z] 54)) := hbl.alloc hbl.size _
      have g1 := cell_later hb2 HC1.out
      have g2 := cell_later hb2 HC2.out
      have m0 : (wr.alloc (.cells #[.int .i64 x, .int .i64 y, .int .i64 z] 54)).cell? ⟨wr.heap.size, 0, none⟩ = some (.int .i64 x) := by rw [World.cell?_alloc_mark]; rfl
      have m1 : (wr.alloc (.cells #[.int .i64 x, .int .i64 y, .int .i64 z] 54)).cell? ⟨wr.heap.size, 1, none⟩ = some (.int .i64 y) := by rw [World.cell?_alloc_mark]; rfl
      have m2 : (wr.alloc (.cells #[.int .i64 x, .int .i64 y, .int .i64 z] 54)).cell? ⟨wr.heap.size, 2, none⟩ = some (.int .i64 z) := by rw [World.cell?_alloc_mark]; rfl
      have HB2 : Hid (∀ q, Below w.heap.size w ((wr.alloc (.cells #[.int .i64 x, .int .i64 y, .int .i64 z] 54)).drewN q)) := Lib.hid fun q => below_drew hb2 q
      have HPV := Lib.hid hpv
      clear hcell he hup f1 f2 f3 f4 f5 f6 hpv hb2 hbl hc1 hc2 hc3
      go_wp2_with fail
      go_quiet (fail)
      go_wp2_with fail
      go_roundw
      case rel => exact ⟨k + 1, by omega, by go_num, by rw [HPV.out], HB2.out _⟩
      case measure => simp [intOf]; omega
    · obtain rfl : k = n := by omega
      go_wp2_with fail
      go_ret
      exact ⟨rfl, hbl⟩
end Go.Proofs.Ytmlgggcdjknlfaa
