/-
  Time goes by: whose time is over.
-/
import Derived.Test.YtmlgggcdjknlfaaTouch
namespace Go.Proofs.Ytmlgggcdjknlfaa
open Go.RowKit

theorem info2 : (Try.prog.info? 2).map (fun i => (i.zero, i.size, i.bytes)) = some (some (.int .i64 0), 1, 8) := by kernel_rfl
theorem rows_only1 {w w' : World} {base : Nat} {e : TypeId} {k : Nat} {v : Value} {n : Nat} {xs : List Value} {S : List Nat} (h : w.ownsRow base e k v n xs) (ho : Only S w w') (hs : ∀ b, v.ownBlock = some b → b ∉ S) : w'.ownsRow base e k v n xs := rows_only h ho hs
theorem cell_below {w w' : World} {B : Nat} {p : Addr} {v : Value} (hb : Below B w w') (hp : p.block < B) (hc : w.cell? p = some v) : w'.cell? p = some v :=
  (World.cell?_of_block (w := w) (hb.block p.block hp)).trans hc
theorem heap_below {w w' : World} {B k : Nat} {o : Obj} (hb : Below B w w') (hp : k < B) (hc : w.heap[k]? = some o) : w'.heap[k]? = some o := (hb.block k hp).trans hc
theorem below_drew {B : Nat} {w w' : World} (h : Below B w w') (n : Nat) : Below B w (w'.drewN n) := ⟨h.os, h.tape, h.output, h.size, h.block⟩
/-- in block bl lies the slice of those that were told -/
def Told (w : World) (bl : Nat) (l : List Int) : Prop := ∃ v, w.heap[bl]? = some (.cells #[v] 22 (0, 0)) ∧ OwnI w (bl + 1) 2 v l
theorem Told.lt {w : World} {bl : Nat} {l : List Int} (h : Told w bl l) : bl < w.heap.size := by
  obtain ⟨v, h1, _⟩ := h
  exact lt_of_heap h1
theorem Told.only {w w' : World} {bl : Nat} {l : List Int} (h : Told w bl l) {S : List Nat} (ho : Only S w w') (hs : ∀ k ∈ S, k < bl) : Told w' bl l := by
  obtain ⟨v, h1, h2⟩ := h
  refine ⟨v, ho.keeps h1 (fun hm => by have := hs _ hm; omega), ?_⟩
  exact rows_only1 h2 ho (fun b hb hm => by have := (OwnI.lt h2 b hb).1; have := hs _ hm; omega)
/-- is a session's time over? -/
def over (now : Int) (s : Se) : Bool := decide (s.till ≤ now)
def toldBy (now : Int) (s : Se) (l : List Int) : List Int := if over now s then l ++ [s.id] else l

set_option maxHeartbeats 1000000 in
theorem over_any (x y z now : Int) (a bs bl : Nat) (l : List Int) (w : World) (hb : bs < bl) (ha : a < bl) (hc : w.cell? ⟨bs, 0, none⟩ = some (.pointer (some ⟨a, 0, none⟩))) (hn : w.cell? ⟨a, 1, none⟩ = some (.int .i64 now)) (ht : Told w bl l) (hl : l.length ≤ 1000000) :
    Calls Try.prog 29 #[.agg #[.int .i64 x, .int .i64 y, .int .i64 z], .pointer (some ⟨bs, 0, none⟩), .pointer (some ⟨bl, 0, none⟩)] w fun e w' => e = .returned (.bool (over now ⟨x, y, z⟩)) ∧ Told w' bl (toldBy now ⟨x, y, z⟩ l) ∧ Below bl w w' ∧ ∀ v, w.heap[bl]? = some (.cells #[v] 22 (0, 0)) → Only (bl :: v.ownBlock.toList) w w' := by
  have hA : Below bl w (w.alloc (.cells #[.int .i64 x, .int .i64 y, .int .i64 z] 54)) := (Below.refl _ _).alloc (Nat.le_of_lt ht.lt) _
  have hc2 := cell_below hA hb hc
  have hn2 := cell_below hA ha hn
  have ht2 := ht.only ((Only.refl [] w).alloc (.cells #[.int .i64 x, .int .i64 y, .int .i64 z] 54)) (by simp)
  by_cases hz : z ≤ now
  · obtain ⟨v, k1, k2⟩ := ht2
    have hcl : (w.alloc (.cells #[.int .i64 x, .int .i64 y, .int .i64 z] 54)).cell? ⟨bl, 0, none⟩ = some v := by rw [cell_heap k1]; rfl
    have hlt := ht.lt
    unfold toldBy
    rw [if_pos (show over now ⟨x, y, z⟩ = true by simp [over, hz])]
    have d0 : decide (z ≤ now) = true := decide_eq_true hz
    have K1 := Lib.hid k1; clear k1
    have K2 := Lib.hid k2; clear k2
    go_enter Try.func29, Try.ntmps29
    obtain ⟨ao, c, rfl, _⟩ := OwnI.isI K2.out
    have K1g : Hid (∀ q, ((w.alloc (.cells #[.int .i64 x, .int .i64 y, .int .i64 z] 54)).drewN q).heap[bl]? = some (.cells #[.slice ao l.length c] 22 (0, 0))) := Lib.hid fun q => K1.out
    have K2g : Hid (∀ q, OwnI ((w.alloc (.cells #[.int .i64 x, .int .i64 y, .int .i64 z] 54)).drewN q) (bl + 1) 2 (.slice ao l.length c) l) := Lib.hid fun q => K2.out
    go_wp2_with fail
    go_quiet (fail)
    have hsz : bl + 1 ≤ (w.alloc (.cells #[.int .i64 x, .int .i64 y, .int .i64 z] 54)).heap.size := by simp; omega
    go_wp2_with (at_builtin; go_loud (refine wpList_append_ints rfl _ _ 22 rfl (bl + 1) 2 Try.underlying22 info2 _ l rfl ((K2g.out _).alloc _) _ _ _ [x] rfl (isI_new _ [x] _ (by rfl) _ _ (w.heap.size + 1) (by simp) 1 rfl _) (by simp; omega) (by simp; omega) ?_; intro v3 w3 hown3 hgr3 hb3; obtain ⟨ao3, c3, rfl, _⟩ := OwnI.isI hown3; have hK := heap_below hb3 (Nat.lt_succ_self bl) (heap_old (K1g.out _) _); have hck := (cell_heap hK 0).trans rfl; have hfk := free_heap hK 0; have HG := Lib.hid hgr3; have HB := Lib.hid hb3; have HW := Lib.hid hown3; have HK := Lib.hid hK; clear hgr3 hb3 hown3 hK))
    go_ret
    refine ⟨by simp [over, hz], ⟨_, heap_set HK.out 0 _, ?_⟩, ?_, ?_⟩
    · rw [show l.length + 1 = (l ++ [x]).length by simp]
      exact rows_only HW.out ((Only.refl [bl] w3).setCell (by simp) _) (fun b hb hm => by have := (OwnI.lt HW.out b hb).1; simp at hm; omega)
    · exact ((((below_drew hA _).alloc (by simp; omega) _).trans (HB.out.mono (by omega))).setCell (by simp) _)
    · intro v hv
      obtain rfl : v = .slice ao l.length c := by
        have := K1.out
        rw [Below.heap_alloc _ _ _ hlt, hv] at this
        simpa using this
      exact (((((Only.refl _ w).alloc _).drewN _).alloc _).grown HG.out (fun k hk => by have hk' : (Value.slice ao l.length c).ownBlock = some k := hk; simp [hk'])).setCell (by simp) _
  · have d0 : decide (z ≤ now) = false := decide_eq_false hz
    unfold toldBy
    rw [if_neg (show ¬ over now ⟨x, y, z⟩ = true by simp [over, hz])]
    have HT := Lib.hid ht2; clear ht2
    have HA := Lib.hid hA; clear hA
    have HO : Hid (over now ⟨x, y, z⟩ = false) := Lib.hid d0
    go_enter Try.func29, Try.ntmps29
    go_wp2_with fail
    go_quiet (fail)
    go_wp2_with fail
    go_ret
    exact ⟨by rw [HO.out]; rfl, HT.out, HA.out.trans (below_drew (Below.refl _ _) _), fun v _ => ((Only.refl _ w).alloc _).drewN _⟩
end Go.Proofs.Ytmlgggcdjknlfaa
