/-
  The document's time goes by.
-/
import Derived.Test.YtmlgggcdjknlfaaRefT
import Derived.Deep.AppendLies
namespace Go.Proofs.Ytmlgggcdjknlfaa
open Go.RowKit

theorem rows_block {w : World} {base : Nat} {e : TypeId} {k : Nat} {v : Value} {n : Nat} {xs : List Value} (h : w.ownsRow base e k v n xs) {j : Nat} (hj : v.ownBlock = some j) : base ≤ j ∧ ∃ cur, w.heap[j]? = some (.cells cur e (0, 0)) := by
  rcases h.2 with ⟨rfl, _⟩ | ⟨g, cap, cur, rfl, hg, hh, r⟩
  · cases hj
  · cases hj; exact ⟨hg, cur, hh⟩
/-- a row of another kind stays as it is -/
theorem rows_other {w w' : World} {base base2 : Nat} {e e2 : TypeId} {k k2 : Nat} {v v2 : Value} {n n2 : Nat} {xs xs2 : List Value} (h : w.ownsRow base e k v n xs) (h2 : w.ownsRow base2 e2 k2 v2 n2 xs2) (hne : e ≠ e2) (hg : w.grownBy w' v2.ownBlock) : w'.ownsRow base e k v n xs := by
  have ho : Only v2.ownBlock.toList w w' := (Only.refl _ w).grown hg (fun j hj => by simp [hj])
  refine rows_only h ho (fun j hj hm => ?_)
  have hm' : v2.ownBlock = some j := by simpa using hm
  obtain ⟨_, c1, h3⟩ := rows_block h hj
  obtain ⟨_, c2, h4⟩ := rows_block h2 hm'
  rw [h3] at h4
  simp only [Option.some.injEq, Obj.cells.injEq] at h4
  exact hne h4.2.1
theorem info64 : (Try.prog.info? 64).map (fun i => (i.zero, i.size, i.bytes)) = some (some (.agg #[.int .i64 0, .int .i64 0, .int .i64 0]), 3, 24) := by kernel_rfl
/-- APPEND of one session that lies in a block of its own -/
theorem wpList_append_rs {w : World} {ops : Array Oper} {rest : List Oper} {o : Oper} {a : Act} {Q : Exit → Act → World → Prop} (hgd : o.guard = none) (s x : Operand)
    (ho : o.op = .call { callee := .builtin .append, args := #[s, x], argTypes := #[45, 45] })
    (base : Nat) (v : Value) (l : List Se) (n : Nat) (hn : l.length = n) (hs : a.eval s = v) (hown : w.ownsRow base 64 3 v n (row3 l))
    (H : Nat) (u : Se) (hx : a.eval x = .slice (some ⟨H, 0, none⟩) 1 1) (hcell : ∀ j y, (cells3 u)[j]? = some y → w.cell? ⟨H, 0 + j, none⟩ = some y)
    (hbytes : l.length + 1 ≤ 4398046511104) (hbase : base ≤ w.heap.size)
    (h : ∀ g cap w', w'.ownsRow base 64 3 (.slice (some ⟨g, 0, none⟩) (l ++ [u]).length cap) (l ++ [u]).length (row3 (l ++ [u])) → w.grownBy w' v.ownBlock → wpList Try.prog ops Q rest (a.put o.dst (.slice (some ⟨g, 0, none⟩) (n + 1) cap)) w') : wpList Try.prog ops Q (o :: rest) a w := by
  subst hn
  obtain ⟨i0, hi0, hz0, hz1, hz2⟩ := info_parts info64
  refine wpList_append_lies w hgd s x 45 ho base 64 i0 _ 3 24 Try.underlying45 hi0 hz0 hz1 hz2 rfl (by decide) v l.length (row3 l) hs hown ⟨H, 0, none⟩ 1 1 (cells3 u) hx rfl ?_ ?_ (by decide) (by unfold maxLen; omega) (by omega) hbase w.heap.size rfl ?_
  · intro j y hj
    rw [Addr.add_lit]
    exact hcell j y hj
  · intro y hy
    simp [cells3] at hy
    rcases hy with rfl | rfl | rfl <;> rfl
  · intro g cap w' g1 g2 g3 _
    refine h g cap w' ?_ g2
    rw [row3_append, List.length_append, show row3 [u] = cells3 u by simp [row3]]
    exact g1
theorem overIds_next2 (now : Int) (l : List Se) (k : Nat) (hk : k < l.length) : overIds now (l.take (k + 1)) = if over now (l.getD k ⟨0, 0, 0⟩) then overIds now (l.take k) ++ [(l.getD k ⟨0, 0, 0⟩).id] else overIds now (l.take k) := by
  rw [take_next l k hk]
  unfold overIds
  rw [List.filter_append, List.map_append]
  generalize l.getD k ⟨0, 0, 0⟩ = x
  by_cases h : over now x = true
  · rw [if_pos h]; simp [h]
  · rw [if_neg h]; simp [h]

set_option maxHeartbeats 4000000 in
theorem rtick_any (base a : Nat) (g : Option Nat) (s : Ss) (w : World) (h : IsRef w base a g s) (hl : s.l.length ≤ 1000000) (hn0 : 0 ≤ s.now) (hn : s.now ≤ 2199023255552) (hbs : base ≤ w.heap.size) :
    Calls Try.prog 23 #[.pointer (some ⟨a, 0, none⟩)] w fun e w' => ∃ v g', e = .returned v ∧ OwnI w' w.heap.size 2 v (overIds (s.now + 1) s.l) ∧ IsRef w' base a g' (tickS s) ∧ Only [a] w w' ∧ (∀ j, g' = some j → w.heap.size ≤ j) := by
  obtain ⟨⟨v, h1, h2, h3⟩, hge, hne⟩ := h
  have hc1 : w.cell? ⟨a, 1, none⟩ = some (.int .i64 s.now) := by rw [cell_heap h1]; rfl
  have hf1 := free_heap h1 1
  have hrow := fun h0 => rrow_cell h2 h0
  have hga : ∀ j, v.ownBlock = some j → j ≠ a := fun j hj e => hne (by rw [← h3, hj, e])
  obtain ⟨ao, cap, rfl, hcap, _⟩ := rrow_shape h2
  have hA1 := heap_set h1 1 (.int .i64 (s.now + 1))
  have hs1 : Only [a] w (w.setCell ⟨a, 1, none⟩ (.int .i64 (s.now + 1))) := (Only.refl _ _).setCell (by simp) _
  have hlt := lt_of_heap h1
  unfold tickS
  obtain ⟨room, now, next, l⟩ := s
  simp only at *
  generalize hnn : l.length = n at *
  have HN := Lib.hid hnn; clear hnn
  have HA1 := Lib.hid hA1
  have HS1 := Lib.hid hs1
  have HR : Hid (0 < n → ∃ g, ao = some ⟨g, 0, none⟩ ∧ g ≠ a ∧ ∀ i j, i < n → j < 3 → w.cell? ⟨g, i * 3 + j, none⟩ = (cells3 (l.getD i ⟨0, 0, 0⟩))[j]?) := Lib.hid (fun h0 => by
    obtain ⟨g', cap', he, _, _, _, _, hcell⟩ := hrow h0
    simp only [Value.slice.injEq] at he
    exact ⟨g', he.1, hga g' (by rw [he.1]; rfl), hcell⟩)
  clear h1 h2 hrow hA1 hs1 hga
  go_enter Try.func23, Try.ntmps23
  go_wp2_with fail
  have hc3w : (w.setCell ⟨a, 1, none⟩ (.int .i64 (now + 1))).cell? ⟨a, 3, none⟩ = some (.slice ao n cap) := by rw [cell_heap HA1.out]; rfl
  have hc1w : (w.setCell ⟨a, 1, none⟩ (.int .i64 (now + 1))).cell? ⟨a, 1, none⟩ = some (.int .i64 (now + 1)) := by rw [cell_heap HA1.out]; rfl
  have hszw : (w.setCell ⟨a, 1, none⟩ (.int .i64 (now + 1))).heap.size = w.heap.size := by simp [World.setCell]
  have HRW : Hid (0 < n → ∃ g, ao = some ⟨g, 0, none⟩ ∧ ∀ i j, i < n → j < 3 → (w.setCell ⟨a, 1, none⟩ (.int .i64 (now + 1))).cell? ⟨g, i * 3 + j, none⟩ = (cells3 (l.getD i ⟨0, 0, 0⟩))[j]?) := Lib.hid (fun h0 => by
    obtain ⟨g', rfl, hg', hcell⟩ := HR.out h0
    refine ⟨g', rfl, fun i j hi hj => ?_⟩
    have h5 := hcell i j hi hj
    have hjl : j < (cells3 (l.getD i ⟨0, 0, 0⟩)).length := by simpa [cells3] using hj
    rw [List.getElem?_eq_getElem hjl] at h5 ⊢
    exact HS1.out.cell h5 (by simpa using hg'))
  generalize hws : w.setCell ⟨a, 1, none⟩ (.int .i64 (now + 1)) = ws at *
  have HWS := Lib.hid hws; clear hws
  have HC3 := Lib.hid hc3w; have HC1 := Lib.hid hc1w; have HSZ := Lib.hid hszw
  clear hc3w hc1w hszw hc1 hf1
  generalize hnw : now + 1 = nw at *
  have HNW := Lib.hid hnw; clear hnw
  go_wp2_with fail
  go_loopw [3, 4, 5] (fun vl vr i wr => ∃ k : Nat, k ≤ n ∧ i = .int .i64 (k : Int) ∧ OwnI wr w.heap.size 2 vl (overIds nw (l.take k)) ∧ wr.ownsRow w.heap.size 64 3 vr (keepers nw (l.take k)).length (row3 (keepers nw (l.take k))) ∧ Below w.heap.size ws wr ∧ w.heap.size ≤ wr.heap.size) (fun _ _ i _ => n - (intOf i).toNat)
  case atStart => exact ⟨0, by omega, rfl, OwnI.nil _ _ _, World.ownsRow_nil _ _ _ _, Below.refl _ _, by rw [HSZ.out]; exact Nat.le_refl _⟩
  case round =>
    obtain ⟨k, hk, rfl, hvl, hvr, hbl, hsz⟩ := hrel
    have HVL := Lib.hid hvl; have HVR := Lib.hid hvr; have HBL := Lib.hid hbl
    have hbl' : Below ws.heap.size ws wr := by rw [HSZ.out]; exact hbl
    have hc3 := cell_later hbl' HC3.out
    have hc1 := cell_later hbl' HC1.out
    obtain ⟨al, cl, rfl, _⟩ := hvl.isI
    obtain ⟨ar, cr, rfl, _, _⟩ := rrow_shape hvr
    by_cases hltk : k < n
    · obtain ⟨g', rfl, hcell⟩ := HRW.out (by omega)
      have c0 := cell_later hbl' (show ws.cell? ⟨g', k * 3, none⟩ = some (.int .i64 (l.getD k ⟨0, 0, 0⟩).id) from hcell k 0 hltk (by decide))
      have c1 := cell_later hbl' (show ws.cell? ⟨g', k * 3 + 1, none⟩ = some (.int .i64 (l.getD k ⟨0, 0, 0⟩).span) from hcell k 1 hltk (by decide))
      have c2 := cell_later hbl' (show ws.cell? ⟨g', k * 3 + 2, none⟩ = some (.int .i64 (l.getD k ⟨0, 0, 0⟩).till) from hcell k 2 hltk (by decide))
      have ho := overIds_next2 nw l k (by rw [HN.out]; exact hltk)
      have hkp := keepers_next nw l k (by rw [HN.out]; exact hltk)
      have hol : (overIds nw (l.take k)).length ≤ 1000000 := by
        have h1 : (overIds nw (l.take k)).length ≤ (l.take k).length := by unfold overIds; rw [List.length_map]; exact List.length_filter_le _ _
        rw [List.length_take] at h1; omega
      have hkl : (keepers nw (l.take k)).length ≤ 1000000 := by
        have h1 : (keepers nw (l.take k)).length ≤ (l.take k).length := List.length_filter_le _ _
        rw [List.length_take] at h1; omega
      have HO := Lib.hid ho; have HKP := Lib.hid hkp
      generalize hol' : overIds nw (l.take k) = OL at *
      generalize hkl' : keepers nw (l.take k) = KL at *
      generalize l.getD k ⟨0, 0, 0⟩ = x at *
      obtain ⟨x, y, z⟩ := x
      simp only at c0 c1 c2
      have HVLd : Hid (∀ d, OwnI (wr.drewN d) w.heap.size 2 (.slice al OL.length cl) OL) := Lib.hid fun d => HVL.out
      have HVRd : Hid (∀ d, (wr.drewN d).ownsRow w.heap.size 64 3 (.slice ar KL.length cr) KL.length (row3 KL)) := Lib.hid fun d => HVR.out
      have HBLd : Hid (∀ d, Below w.heap.size ws (wr.drewN d)) := Lib.hid fun d => below_drew HBL.out d
      clear ho hkp hcell hvl hvr hbl hbl' hol' hkl'
      by_cases hz : z ≤ nw
      · have d0 : decide (z ≤ nw) = true := decide_eq_true hz
        have hov : over nw ⟨x, y, z⟩ = true := d0
        have HO2 : Hid (overIds nw (l.take (k + 1)) = OL ++ [x]) := Lib.hid (by rw [HO.out, if_pos hov])
        have HK2 : Hid (keepers nw (l.take (k + 1)) = KL) := Lib.hid (by rw [HKP.out, if_pos hov])
        clear hov hz HO HKP
        go_wp2_with fail
        go_quiet (fail)
        have hszd : ∀ d, w.heap.size ≤ ((wr.drewN d).alloc (.cells #[.int .i64 x] 2)).heap.size := fun d => by simp; omega
        go_wp2_with (at_builtin; go_loud (refine wpList_append_ints rfl _ _ 22 rfl w.heap.size 2 Try.underlying22 info2 _ OL rfl ((HVLd.out _).alloc _) _ _ _ [x] rfl (isI_new _ [x] _ (by rfl) _ _ (wr.heap.size) (by rfl) 1 rfl _) (by simp; omega) (by exact hszd _) ?_; intro v3 w3 hown3 hgr3 hb3; obtain ⟨ao3, c3, rfl, _⟩ := OwnI.isI hown3; have hrest := rows_other ((Only.refl [] _).alloc (.cells #[.int .i64 x] 2) |> rows_only (HVRd.out _) <| (by simp)) ((HVLd.out _).alloc _) (by decide) hgr3; have HRST := Lib.hid hrest; have HB3 := Lib.hid hb3; have HW := Lib.hid hown3; clear hgr3 hb3 hown3 hrest))
        go_roundw
        case rel => exact ⟨k + 1, by omega, by go_num, by rw [HO2.out, show OL.length + 1 = (OL ++ [x]).length by simp]; exact HW.out, by rw [HK2.out]; exact HRST.out, ((HBLd.out _).alloc (by simpa using hsz) _).trans HB3.out, Nat.le_trans (hszd _) HB3.out.size⟩
        case measure => simp [intOf]; omega
      · have d0 : decide (z ≤ nw) = false := decide_eq_false hz
        have hov : over nw ⟨x, y, z⟩ = false := d0
        have HO2 : Hid (overIds nw (l.take (k + 1)) = OL) := Lib.hid (by rw [HO.out, if_neg (by rw [hov]; decide)])
        have HK2 : Hid (keepers nw (l.take (k + 1)) = KL ++ [⟨x, y, z⟩]) := Lib.hid (by rw [HKP.out, if_neg (by rw [hov]; decide)])
        clear hov hz HO HKP
        go_wp2_with fail
        go_quiet (fail)
        have HNCL : Hid (∀ (d j : Nat) (u : Value), (cells3 ⟨x, y, z⟩)[j]? = some u → ((wr.drewN d).alloc (.cells #[.int .i64 x, .int .i64 y, .int .i64 z] 64)).cell? ⟨wr.heap.size, 0 + j, none⟩ = some u) := Lib.hid fun d j u hj => by
          show ((wr.drewN d).alloc (.cells #[.int .i64 x, .int .i64 y, .int .i64 z] 64)).cell? ⟨(wr.drewN d).heap.size, 0 + j, none⟩ = some u
          rw [Nat.zero_add, World.cell?_alloc_mark]
          simpa [cells3] using hj
        have hszd : ∀ d, w.heap.size ≤ ((wr.drewN d).alloc (.cells #[.int .i64 x, .int .i64 y, .int .i64 z] 64)).heap.size := fun d => by simp; omega
        go_wp2_with (at_builtin; go_must (refine wpList_append_rs rfl _ _ rfl w.heap.size _ KL KL.length rfl rfl ((Only.refl [] _).alloc (.cells #[.int .i64 x, .int .i64 y, .int .i64 z] 64) |> rows_only (HVRd.out _) <| (by simp)) wr.heap.size ⟨x, y, z⟩ rfl (by exact HNCL.out _) (by omega) (by exact hszd _) ?_; intro g3 c3 w3 hown3 hgr3; have hrest := rows_other ((Only.refl [] _).alloc (.cells #[.int .i64 x, .int .i64 y, .int .i64 z] 64) |> rows_only (HVLd.out _) <| (by simp)) ((Only.refl [] _).alloc (.cells #[.int .i64 x, .int .i64 y, .int .i64 z] 64) |> rows_only (HVRd.out _) <| (by simp)) (by decide) hgr3; have hb3 := (Below.refl w.heap.size _).grown hgr3 (hszd _) (fun j hj => (rows_block (HVRd.out 0) hj).1); have HRST := Lib.hid hrest; have HB3 := Lib.hid hb3; have HW := Lib.hid hown3; clear hgr3 hb3 hown3 hrest))
        go_roundw
        case rel => exact ⟨k + 1, by omega, by go_num, by rw [HO2.out]; exact HRST.out, by rw [HK2.out, show KL.length + 1 = (KL ++ [(⟨x, y, z⟩ : Se)]).length by simp]; exact HW.out, ((HBLd.out _).alloc (by simpa using hsz) _).trans HB3.out, Nat.le_trans (hszd _) HB3.out.size⟩
        case measure => simp [intOf]; omega
    · obtain rfl : k = n := by omega
      have htk : l.take k = l := List.take_of_length_le (by rw [HN.out]; exact Nat.le_refl _)
      generalize l.take k = lt at *
      subst htk
      have hAr : wr.heap[a]? = some (.cells #[.int .i64 room, .int .i64 nw, .int .i64 next, .slice ao k cap] 47 (0, 0)) := by
        have h5 : ws.heap[a]? = some (.cells #[.int .i64 room, .int .i64 nw, .int .i64 next, .slice ao k cap] 47 (0, 0)) := HA1.out
        exact heap_below hbl hlt h5
      have hf3 := free_heap hAr 3
      have HAR := Lib.hid hAr
      clear hvl hvr hAr
      go_wp2_with fail
      go_ret
      have oS : Only [a] wr (wr.setCell ⟨a, 3, none⟩ (.slice ar (keepers nw lt).length cr)) := (Only.refl _ _).setCell (by simp) _
      have hblw : Only [a] ws wr := Only.ofBelow (by rw [HSZ.out]; exact hbl) [a]
      have hgl : ∀ j, (Value.slice al (overIds nw lt).length cl).ownBlock = some j → j ∉ [a] := fun j hj => by have := (OwnI.lt HVL.out j hj).1; simp; omega
      have hgr : ∀ j, (Value.slice ar (keepers nw lt).length cr).ownBlock = some j → w.heap.size ≤ j := fun j hj => (rows_block HVR.out hj).1
      rw [HNW.out]
      refine ⟨_, (Value.slice ar (keepers nw lt).length cr).ownBlock, rfl, rows_only HVL.out oS hgl, ⟨⟨_, heap_set HAR.out 3 _, rows_only (rows_mono HVR.out hbs) oS (fun j hj => by have := hgr j hj; simp; omega), rfl⟩, hge, fun e => by have := hgr a e; omega⟩, (HS1.out.trans hblw).trans oS, hgr⟩
end Go.Proofs.Ytmlgggcdjknlfaa
