/-
  A message goes, is taken, is doubled.
-/
import Derived.Test.YtmehgkbhpfcmpaaDel
namespace Go.Proofs.Ytmehgkbhpfcmpaa
open Go.RowKit

def loseN (s : Nt) (k : Nat) : Nt := { s with l := s.l.eraseIdx k }
theorem map_erase {α β : Type} (f : α → β) (l : List α) (k : Nat) : (l.eraseIdx k).map f = (l.map f).eraseIdx k := by
  rw [List.eraseIdx_eq_take_drop_succ, List.eraseIdx_eq_take_drop_succ, List.map_append, List.map_take, List.map_drop]
section
variable {w0 w : World} {base a : Nat} {s : Nt} {es : List ((Int × Int) × Bool)}
set_option maxHeartbeats 400000 in
theorem lose_none (h : OursN w0 w base a s es) (x : Int) (hx : hasN s x = false) :
    Calls Try.prog 15 #[.pointer (some ⟨a, 0, none⟩), .int .i64 x] w fun e w' => e = .returned (.bool false) ∧ OursN w0 w' base a s es := by
  obtain ⟨g, mb, hN⟩ := h.is
  have HH := Lib.hid (has_any hN x)
  rw [hx] at HH
  clear hN
  go_enter Try.func15, Try.ntmps15
  go_wp2_with fail
  refine HH.out.mono ?_
  rintro e w1 ⟨rfl, rfl⟩
  go_wp2_with fail
  go_ret
  exact ⟨rfl, h⟩
set_option maxHeartbeats 1000000 in
theorem lose_net {mb : Nat} {g : Option Nat} (hN : IsNet w base a mb g s es) (k : Nat) (hk : k < s.l.length) (hl : s.l.length ≤ 1000000) :
    Calls Try.prog 15 #[.pointer (some ⟨a, 0, none⟩), .int .i64 (k : Int)] w fun e w' => e = .returned (.bool true) ∧ IsNet w' base a mb g (loseN s k) es ∧ Only (a :: g.toList) w w' := by
  have HH := Lib.hid (has_any hN (k : Int))
  rw [show hasN s (k : Int) = true by unfold hasN; rw [decide_eq_true (by omega), decide_eq_true (by omega)]; rfl] at HH
  have hap := hN.apart
  have HNN := Lib.hid hN
  obtain ⟨⟨v, ps, k1, k2, k3, k4⟩, k5, k6, k7⟩ := hN
  obtain ⟨b, cap, rfl, hb1, hb2, hc1, hc2, hpl, _⟩ := row_cell k2 (by omega)
  have hg : g = some b := k3.symm
  subst hg
  have hba : b ≠ a := fun e => hap.2.1 (by rw [e])
  have hbm : b ≠ mb := fun e => hap.2.2 (by rw [e])
  have hc0 : w.cell? ⟨a, 2, none⟩ = some (.slice (some ⟨b, 0, none⟩) s.l.length cap) := by rw [cell_heap k1]; rfl
  have HD := Lib.hid (delete_one base b ps k cap w (by rw [hpl]; exact k2) k4.one (by omega) (by omega))
  rw [hpl] at HD
  have HK1 := Lib.hid k1; have HK4 := Lib.hid k4
  have hpl2 : (ps.eraseIdx k).length = s.l.length - 1 := by rw [List.length_eraseIdx_of_lt (by omega), hpl]
  have hle : (s.l.eraseIdx k).length = s.l.length - 1 := List.length_eraseIdx_of_lt hk
  have HPL := Lib.hid hpl; have HPL2 := Lib.hid hpl2; have HLE := Lib.hid hle
  clear k1 k2 k4 hpl hpl2 hle k5
  generalize hnn : s.l.length = n at *
  have HNL := Lib.hid hnn; clear hnn
  go_enter Try.func15, Try.ntmps15
  go_wp2_with fail
  refine HH.out.mono ?_
  rintro e w1 ⟨rfl, rfl⟩
  go_wp2_with fail
  refine HD.out.mono ?_
  rintro e w2 ⟨rfl, hrow, ho⟩
  have HROW := Lib.hid hrow
  have HO := Lib.hid ho
  have hA2 := ho.keeps HK1.out (by simpa using fun e => hba e.symm)
  have HA2 := Lib.hid hA2
  have hc32 : w2.cell? ⟨a, 2, none⟩ = some (.slice (some ⟨b, 0, none⟩) n cap) := by rw [cell_heap hA2]; rfl
  have hf32 := free_heap hA2 2
  clear hrow ho hA2
  go_wp2_with fail
  go_ret
  have o2 : Only [a] w2 (w2.setCell ⟨a, 2, none⟩ (.slice (some ⟨b, 0, none⟩) (n - 1) cap)) := (Only.refl _ _).setCell (by simp) _
  have o3 : Only [a, b] w (w2.setCell ⟨a, 2, none⟩ (.slice (some ⟨b, 0, none⟩) (n - 1) cap)) := (HO.out.mono (by simp)).trans (o2.mono (by simp))
  have hkind := HNN.out.kinds
  refine ⟨rfl, ⟨⟨_, ps.eraseIdx k, heap_set HA2.out 2 _, ?_, rfl, ?_⟩, HNN.out.cut.only o3 (by simp; exact ⟨fun e => hap.1 e.symm, fun e => hbm e.symm⟩), k6, k7⟩, o3⟩
  · show World.ownsRow _ base 32 5 _ (s.l.eraseIdx k).length _
    rw [HLE.out]
    exact rows_only HROW.out o2 (fun j hj => by simp only [Value.ownBlock, Option.some.injEq] at hj; subst hj; simpa using hba)
  · refine ⟨?_, ?_, fun x hx => HK4.out.one x ((List.eraseIdx_sublist ..).subset hx)⟩
    · show (ps.eraseIdx k).map Mv.m = s.l.eraseIdx k
      rw [← HK4.out.ms, map_erase]
    · intro x hx
      have hx' := (List.eraseIdx_sublist ..).subset hx
      refine rows_only (HK4.out.ns x hx') o3 (fun j hj hm => ?_)
      obtain ⟨_, cur, hc⟩ := rows_block (HK4.out.ns x hx') hj
      exact hkind j (by simpa using hm) _ _ hc

theorem OursN.step {w' : World} {mb : Nat} {g g' : Option Nat} {s' : Nt} {es' : List ((Int × Int) × Bool)} (h : OursN w0 w base a s es) (hN : IsNet w base a mb g s es) (h' : IsNet w' base a mb g' s' es') (ho : Only (a :: g.toList) w w') : OursN w0 w' base a s' es' :=
  ⟨⟨g', mb, h'⟩, h.below.trans (ho.below h.size (by
    intro j hj
    simp at hj
    rcases hj with rfl | hj
    · exact hN.ge
    · exact hN.gge j hj)), Nat.le_trans h.size ho.size⟩
theorem lose_some (h : OursN w0 w base a s es) (k : Nat) (hk : k < s.l.length) (hl : s.l.length ≤ 1000000) :
    Calls Try.prog 15 #[.pointer (some ⟨a, 0, none⟩), .int .i64 (k : Int)] w fun e w' => e = .returned (.bool true) ∧ OursN w0 w' base a (loseN s k) es := by
  obtain ⟨g, mb, hN⟩ := h.is
  refine (lose_net hN k hk hl).mono ?_
  rintro e w' ⟨rfl, h1, h2⟩
  exact ⟨rfl, h.step hN h1 h2⟩

/-- the message of place k -/
def getN (s : Nt) (k : Nat) : Ms := s.l.getD k m0
theorem IsNet.glt {mb : Nat} {g : Option Nat} (h : IsNet w base a mb g s es) : ∀ j, g = some j → j < w.heap.size := by
  obtain ⟨⟨v', ps', h1, h2, h3, h4⟩, _⟩ := h
  intro j hj
  obtain ⟨_, cur, hc⟩ := rows_block h2 (h3.trans hj)
  exact lt_of_heap hc
theorem IsNet.mlt {mb : Nat} {g : Option Nat} (h : IsNet w base a mb g s es) : mb < w.heap.size := by
  obtain ⟨_, ⟨⟨arr, c, h5, _⟩, _, _⟩, _, _⟩ := h
  exact lt_of_heap h5
theorem msg_cells {w : World} {X : Nat} {m : Ms} {v : Value} (h : w.heap[X]? = some (msgObj m v)) : w.cell? ⟨X, 0, none⟩ = some (.int .i64 m.from_) ∧ w.cell? ⟨X, 1, none⟩ = some (.int .i64 m.to_) ∧ w.cell? ⟨X, 2, none⟩ = some (.int .i64 m.kind) ∧ w.cell? ⟨X, 3, none⟩ = some v ∧ w.cell? ⟨X, 4, none⟩ = some (.slice none 0 0) := by
  refine ⟨?_, ?_, ?_, ?_, ?_⟩
  all_goals rw [cell_heap h]; rfl
set_option maxHeartbeats 8000000 in
theorem take_some (h : OursN w0 w base a s es) (k : Nat) (hk : k < s.l.length) (hl : s.l.length ≤ 1000000) (hn : (getN s k).ns.length ≤ 1000000) :
    Calls Try.prog 19 #[.pointer (some ⟨a, 0, none⟩), .int .i64 (k : Int)] w fun e w' => ∃ v, e = .returned (.tuple #[msgV (getN s k).from_ (getN s k).to_ (getN s k).kind v, .bool true]) ∧ OwnI w' w.heap.size 2 v (getN s k).ns ∧ OursN w0 w' base a (loseN s k) es := by
  obtain ⟨g, mb, hN⟩ := h.is
  have hN1 := hN.below ((Below.refl _ _).alloc (Nat.le_refl _) zeros5)
  have HA := Lib.hid (at_some hN1 k hk hl hn)
  have HN0 := Lib.hid hN
  have HN1 := Lib.hid hN1
  have HZ := Lib.hid (heap_new w zeros5)
  unfold msgV zeros5 at HA
  unfold msgV
  change Hid (Calls Try.prog 14 _ _ fun e w' => ∃ v, e = .returned (.tuple #[.agg #[.int .i64 (getN s k).from_, .int .i64 (getN s k).to_, .int .i64 (getN s k).kind, v, .slice none 0 0], .bool true]) ∧ OwnI w' _ 2 v (getN s k).ns ∧ _) at HA
  generalize getN s k = x at *
  have hR := hN.lt
  have hRg := hN.glt
  have hRm := hN.mlt
  clear hN hN1
  go_enter Try.func19, Try.ntmps19
  go_wp2_with fail
  refine HA.out.mono ?_
  rintro e w1 ⟨v, rfl, hown, hb⟩
  obtain ⟨av, cv, rfl, _⟩ := hown.isI
  have hb' : Below (w.alloc zeros5).heap.size (w.alloc zeros5) w1 := hb
  have hR1 : w1.heap[w.heap.size]? = some zeros5 := heap_below hb' (by simp) HZ.out
  have hs1 : w.heap.size + 1 ≤ w1.heap.size := by have := hb'.size; simpa using this
  have hN2 := HN1.out.below hb'
  have HBB := Lib.hid (((Below.refl _ w).alloc (Nat.le_refl _) zeros5).trans (hb'.mono (by simp)))
  have HV := Lib.hid hown
  clear hown hb hb'
  generalize hRR : w.heap.size = R at *
  have HRR := Lib.hid hRR; clear hRR
  have hN3 := hN2.below ((Below.refl _ _).alloc (Nat.le_refl _) (msgObj x (.slice av x.ns.length cv)))
  have HX := Lib.hid (heap_new w1 (msgObj x (.slice av x.ns.length cv)))
  have HR1 := Lib.hid (heap_old hR1 (msgObj x (.slice av x.ns.length cv)))
  have hsz2 : (w1.alloc (msgObj x (.slice av x.ns.length cv))).heap.size = w1.heap.size + 1 := by simp
  have HB2 := Lib.hid (HBB.out.alloc (by have := HRR.out; omega) (msgObj x (.slice av x.ns.length cv)))
  have HV2 := Lib.hid (OwnI.alloc HV.out (msgObj x (.slice av x.ns.length cv)))
  have HL := Lib.hid (fun w' (hb : Below (w1.alloc (msgObj x (.slice av x.ns.length cv))).heap.size (w1.alloc (msgObj x (.slice av x.ns.length cv))) w') => lose_net (hN3.below hb) k hk hl)
  have HN3 := Lib.hid hN3
  obtain ⟨x0, x1, x2, x3, x4⟩ := msg_cells HX.out
  obtain ⟨⟨z0, z1, z2, z3, z4⟩, f0, f1, f2, f3, f4⟩ := zeros_cells HR1.out
  have hXR : w1.heap.size ≠ R := by omega
  have hkeep : ∀ j, j = w1.heap.size ∨ j = R → j ∉ a :: g.toList := by
    intro j hj hm
    simp at hm
    rcases hm with hm | hm
    · omega
    · have := hRg j hm; omega
  have HKP := Lib.hid hkeep
  clear hN2 hN3 hR1 hkeep
  unfold msgObj at x0 x1 x2 x3 x4 z0 z1 z2 z3 z4 f0 f1 f2 f3 f4
  go_wp2_with fail
  go_region_with (go_at_call 15; refine (HL.out _ (by exact below_drew (Below.refl _ _) 1)).mono ?_; rintro e w3 ⟨rfl, hn3, ho3⟩; have hX3 := ho3.keeps HX.out (HKP.out _ (.inl rfl)); have hR3 := ho3.keeps HR1.out (HKP.out _ (.inr rfl)); obtain ⟨y0, y1, y2, y3, y4⟩ := msg_cells hX3; obtain ⟨⟨u0, u1, u2, u3, u4⟩, e0, e1, e2, e3, e4⟩ := zeros_cells hR3)
  all_goals
    have HR3 := Lib.hid hR3
    have HN4 := Lib.hid hn3
    have HO3 := Lib.hid ho3
    clear hX3 hR3 hn3 ho3 y0 y1 y2 y3 y4 u0 u1 u2 u3 u4 e0 e1 e2 e3 e4 x0 x1 x2 x3 x4 z0 z1 z2 z3 z4 f0 f1 f2 f3 f4
    go_wp2_with fail
    (try simp only [Exit.inBlock, Exit.then])
    change bodyPost _ _ _ _ _ (put5 w3 R x.from_ x.to_ x.kind (.slice av x.ns.length cv))
    have hrr := HRR.out
    have oR := put5_only w3 R x.from_ x.to_ x.kind (.slice av x.ns.length cv)
    have hge : ∀ j ∈ a :: g.toList, base ≤ j := by
      intro j hj
      simp at hj
      rcases hj with rfl | hj
      · exact HN0.out.ge
      · exact HN0.out.gge j hj
    have hbs := h.size
    have hb1 : Below base w0 (w1.alloc (msgObj x (.slice av x.ns.length cv))).drew := below_drew (h.below.trans (HB2.out.mono (by omega))) 1
    have hs3 : base ≤ (w1.alloc (msgObj x (.slice av x.ns.length cv))).drew.heap.size := by
      show base ≤ (w1.alloc (msgObj x (.slice av x.ns.length cv))).heap.size
      omega
    have hb3 := hb1.trans (HO3.out.below hs3 hge)
    have hs4 := Nat.le_trans hs3 HO3.out.size
    refine bodyPost_ret (results_row_tmp (fn := Try.f19) rfl _ _ R _ _ _ _ _ _ rfl rfl (put5_heap _ _ _ _ HR3.out)) rfl ⟨_, rfl, ?_, ⟨⟨g, mb, HN4.out.keep oR (by simp; omega) (by simp; omega) (fun j hj => by have := hRg j hj; simp; omega) (heap_ne HR3.out)⟩, hb3.trans (oR.below hs4 (by simp; omega)), Nat.le_trans hs4 oR.size⟩⟩
    have ho3 : Only (a :: g.toList) (w1.alloc (msgObj x (.slice av x.ns.length cv))) w3 := ⟨HO3.out.os, HO3.out.tape, HO3.out.output, HO3.out.size, HO3.out.block⟩
    refine OwnI.only2 (OwnI.mono (rows_only HV2.out ho3 fun j hj hm => ?_) (by rw [hrr]; simp; omega)) oR HR3.out
    obtain ⟨_, cur, hc⟩ := rows_block HV2.out hj
    exact HN3.out.kinds j hm _ _ hc
end
end Go.Proofs.Ytmehgkbhpfcmpaa
