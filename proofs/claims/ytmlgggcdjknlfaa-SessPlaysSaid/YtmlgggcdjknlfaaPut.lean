/-
  Sessions are written; whether calls can have made them.
-/
import Derived.Test.YtmlgggcdjknlfaaPBack
import Derived.Test.YtmlgggcdjknlfaaNum
import Derived.StillTailTactics
namespace Go.Proofs.Ytmlgggcdjknlfaa
open Go.RowKit

def seB (x : Se) : List UInt8 := be8s [x.id, x.span, x.till]
def putB (s : Ss) : List UInt8 := be8s [s.room, s.now, s.next, (s.l.length : Int)] ++ s.l.flatMap seB
theorem seB_len (l : List Se) : (l.flatMap seB).length = 24 * l.length := by
  induction l with
  | nil => rfl
  | cons x l ih => rw [List.flatMap_cons, List.length_append, ih, seB, be8s_len]; simp; omega
theorem putB_len (s : Ss) : (putB s).length = 32 + 24 * s.l.length := by
  rw [putB, List.length_append, be8s_len, seB_len]; simp
theorem seB_take (l : List Se) (k : Nat) (hk : k < l.length) : (l.take (k + 1)).flatMap seB = (l.take k).flatMap seB ++ seB (l.getD k ⟨0, 0, 0⟩) := by
  rw [take_next l k hk, List.flatMap_append]; simp

set_option maxHeartbeats 2000000 in
theorem put_any (base a : Nat) (g : Option Nat) (s : Ss) (w : World) (h : IsSess w base a g s) (hl : s.l.length ≤ 1000) :
    Calls Try.prog 18 #[.pointer (some ⟨a, 0, none⟩)] w fun e w' => ∃ v, e = .returned v ∧ OwnB w' w.heap.size 5 v (putB s) ∧ Below w.heap.size w w' := by
  obtain ⟨⟨v, h1, h2, h3⟩, _, _⟩ := h
  have hc0 : w.cell? ⟨a, 0, none⟩ = some (.int .i64 s.room) := by rw [cell_heap h1]; rfl
  have hc1 : w.cell? ⟨a, 1, none⟩ = some (.int .i64 s.now) := by rw [cell_heap h1]; rfl
  have hc2 : w.cell? ⟨a, 2, none⟩ = some (.int .i64 s.next) := by rw [cell_heap h1]; rfl
  have hc3 : w.cell? ⟨a, 3, none⟩ = some v := by rw [cell_heap h1]; rfl
  have hrow := fun h0 => row_cell h2 h0
  obtain ⟨ao, cap, rfl, hcap, _⟩ := row_shape h2
  unfold putB
  generalize s.room = r0 at *
  generalize s.now = r1 at *
  generalize s.next = r2 at *
  generalize s.l = l at *
  generalize hn : l.length = n at *
  have HN := Lib.hid hn; clear hn
  have HR := Lib.hid hrow; clear hrow h1 h2 h3
  go_enter Try.func18, Try.ntmps18
  go_wp2_with fail
  go_still_tail 17, (by kernel_rfl)
  change wpList _ _ _ _ _ w.drew
  go_wp2_with fail
  change Calls _ _ _ (w.drew.alloc (.cells #[.int .i64 r0, .int .i64 r1, .int .i64 r2, .int .i64 (n : Int)] 2)) _
  refine (pall_any none 0 0 [] (some ⟨w.heap.size, 0, none⟩) 4 4 [r0, r1, r2, (n : Int)] _ (isB_nil _) (isI_new w.drew [r0, r1, r2, (n : Int)] _ (by rfl) 2 _ _ (by rfl) 4 rfl _) (by decide) (by decide)).mono ?_
  rintro e w1 ⟨v1, rfl, hown1, hb1⟩
  have HC3 := Lib.hid hc3
  have hb1' : Below w.heap.size w w1 := (((below_drew (Below.refl _ w) 1)).alloc (Nat.le_refl _) _).trans (hb1.mono (by simp))
  have hc31 := cell_later hb1' hc3
  have hown1' := hown1.mono (show w.heap.size ≤ _ by simp)
  rw [List.nil_append] at hown1'
  have HOWN1 := Lib.hid hown1'
  have HB1 := Lib.hid hb1'
  clear hc0 hc1 hc2 hown1 hown1' hb1 hb1' hc3
  go_wp2_with fail
  go_loopw [3, 30] (fun v i wr => ∃ k : Nat, k ≤ n ∧ i = .int .i64 (k : Int) ∧ OwnB wr w.heap.size 5 v (be8s [r0, r1, r2, (n : Int)] ++ (l.take k).flatMap seB) ∧ Below w.heap.size w wr) (fun _ i _ => n - (intOf i).toNat)
  case atStart => exact ⟨0, by omega, rfl, by simpa using HOWN1.out, HB1.out⟩
  case round =>
    obtain ⟨k, hk, rfl, hown, hbl⟩ := hrel
    have HB := Lib.hid hbl
    by_cases hlt : k < n
    · obtain ⟨g, cap2, he, _, _, _, _, hcell⟩ := HR.out (by omega)
      obtain ⟨rfl, rfl⟩ : ao = some ⟨g, 0, none⟩ ∧ cap = cap2 := by
        simp only [Value.slice.injEq] at he
        exact ⟨he.1, he.2.2⟩
      have c0 := cell_later hbl (show w.cell? ⟨g, k * 3, none⟩ = some (.int .i64 (l.getD k ⟨0, 0, 0⟩).id) from hcell k 0 hlt (by decide))
      have c1 := cell_later hbl (show w.cell? ⟨g, k * 3 + 1, none⟩ = some (.int .i64 (l.getD k ⟨0, 0, 0⟩).span) from hcell k 1 hlt (by decide))
      have c2 := cell_later hbl (show w.cell? ⟨g, k * 3 + 2, none⟩ = some (.int .i64 (l.getD k ⟨0, 0, 0⟩).till) from hcell k 2 hlt (by decide))
      have htk := seB_take l k (by rw [HN.out]; exact hlt)
      have htl : (be8s [r0, r1, r2, (n : Int)] ++ (l.take k).flatMap seB).length ≤ 1000000 := by
        rw [List.length_append, be8s_len, seB_len, List.length_take]; simp; omega
      have HTK := Lib.hid htk
      obtain ⟨a1, c1', rfl, hb1⟩ := hown.isB
      generalize hs : l.getD k ⟨0, 0, 0⟩ = x at *
      obtain ⟨x, y, z⟩ := x
      simp only at c0 c1 c2
      generalize (be8s [r0, r1, r2, (n : Int)] ++ (l.take k).flatMap seB).length = nn at hown hb1 htl
      have HW := Lib.hid hown
      have HBS := Lib.hid hb1
      have hsz := hbl.size
      clear hcell he hs hown htk hbl hb1
      go_wp2_with fail
      refine (pall_any a1 nn c1' _ (some ⟨wr.heap.size + 1, 0, none⟩) 3 3 [x, y, z] _ ((HBS.out.alloc _).alloc _) (isI_new _ [x, y, z] _ (by rfl) _ _ _ (by simp) 3 rfl _) (by omega) (by decide)).mono ?_
      rintro e w3 ⟨v3, rfl, hown3, hb3⟩
      go_wp2_with fail
      go_roundw
      case rel =>
        refine ⟨k + 1, by omega, by go_num, ?_, ?_⟩
        · rw [HTK.out, ← List.append_assoc]
          exact hown3.mono (by simp; omega)
        · exact (((HB.out).alloc hsz _).alloc (by simp; omega) _).trans (hb3.mono (by simp; omega))
      case measure => simp [intOf]; omega
    · obtain rfl : k = n := by omega
      rw [List.take_of_length_le (by rw [HN.out]; exact Nat.le_refl _)] at hown
      have HOWN := Lib.hid hown
      clear hown
      go_wp2_with fail
      go_ret
      exact ⟨_, rfl, HOWN.out, hbl⟩
end Go.Proofs.Ytmlgggcdjknlfaa
