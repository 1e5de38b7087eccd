/-
  Messages are sent.
-/
import Derived.Test.YtmehgkbhpfcmpaaGA
import Derived.Test.YtmehgkbhpfcmpaaSend
import Derived.Deep.DeepCutAuto
import Derived.Deep.CutBlock
import Derived.Deep.RegionHeld3
import Derived.Deep.RegionLaw
namespace Go.Proofs.Ytmehgkbhpfcmpaa.G
open Go.RowKit Go.Proofs.Ytmehgkbhpfcmpaa

/-- messages in a block of their own, from its start on -/
structure IsMsgs (w : World) (b off : Nat) (l : List Mg) : Prop where
  at_ : ∀ i, i < l.length → ∃ v u, w.cell? ⟨b, off + i * 5, none⟩ = some (.int .i64 (l.getD i m0).from_) ∧ w.cell? ⟨b, off + i * 5 + 1, none⟩ = some (.int .i64 (l.getD i m0).to_) ∧ w.cell? ⟨b, off + i * 5 + 2, none⟩ = some (.int .i64 (l.getD i m0).kind) ∧ w.cell? ⟨b, off + i * 5 + 3, none⟩ = some v ∧ w.cell? ⟨b, off + i * 5 + 4, none⟩ = some u ∧ IsM w (l.getD i m0) v u
  few : ∀ i, i < l.length → LightM (l.getD i m0)

def goes (s : Nt) (es : List ((Int × Int) × Bool)) (m : Mg) : Bool := isNode s m.from_ && (isNode s m.to_ && (!cutOf es (way m.from_ m.to_) && decide ((s.l.length : Int) < s.room)))
def sendOne (s : Nt) (es : List ((Int × Int) × Bool)) (m : Mg) : Nt := if goes s es m then { s with l := s.l ++ [m] } else s
def sendAll (s : Nt) (es : List ((Int × Int) × Bool)) (l : List Mg) : Nt := l.foldl (fun s m => sendOne s es m) s

/-- APPEND of one message that lies in a block of its own -/
theorem wpList_append_mv {w : World} {ops : Array Oper} {rest : List Oper} {o : Oper} {a : Act} {Q : Exit → Act → World → Prop} (hgd : o.guard = none) (s x : Operand)
    (ho : o.op = .call { callee := .builtin .append, args := #[s, x], argTypes := #[45, 45] })
    (base : Nat) (v : Value) (l : List Mv) (n : Nat) (hs : a.eval s = v) (hown : w.ownsRow base 32 5 v n (row5 l))
    (H : Nat) (u : Mv) (hu : u.v.oneCell' = true ∧ u.u.oneCell' = true) (hx : a.eval x = .slice (some ⟨H, 0, none⟩) 1 1) (hcell : ∀ j y, (cells5 u)[j]? = some y → w.cell? ⟨H, 0 + j, none⟩ = some y)
    (hbytes : n + 1 ≤ 1000000000) (hbase : base ≤ w.heap.size)
    (h : ∀ g cap w', w'.ownsRow base 32 5 (.slice (some ⟨g, 0, none⟩) (n + 1) cap) (n + 1) (row5 (l ++ [u])) → w.grownBy w' v.ownBlock → (v.ownBlock = some g ∨ g = w.heap.size) → wpList Try.prog ops Q rest (a.put o.dst (.slice (some ⟨g, 0, none⟩) (n + 1) cap)) w') : wpList Try.prog ops Q (o :: rest) a w := by
  obtain ⟨i0, hi0, hz0, hz1, hz2⟩ := info_parts info32
  refine wpList_append_lies w hgd s x 45 ho base 32 i0 _ 5 72 Try.underlying45 hi0 hz0 hz1 hz2 rfl (by decide) v n (row5 l) hs hown ⟨H, 0, none⟩ 1 1 (cells5 u) hx rfl ?_ ?_ (by decide) (by unfold maxLen; omega) (by omega) hbase w.heap.size rfl ?_
  · intro j y hj
    rw [Addr.add_lit]
    exact hcell j y hj
  · intro y hy
    simp [cells5] at hy
    rcases hy with rfl | rfl | rfl | rfl | rfl
    · rfl
    · rfl
    · rfl
    · exact hu.1
    · exact hu.2
  · intro g cap w' g1 g2 g3 _
    refine h g cap w' ?_ g2 g3
    rw [row5_append, show row5 [u] = cells5 u by simp [row5]]
    exact g1

theorem sendAll_next (s : Nt) (es : List ((Int × Int) × Bool)) (l : List Mg) (k : Nat) (hk : k < l.length) : sendAll s es (l.take (k + 1)) = sendOne (sendAll s es (l.take k)) es (l.getD k m0) := by
  unfold sendAll
  rw [List.take_succ_eq_append_getElem hk, List.foldl_append]
  simp [hk]
theorem sendOne_same (s : Nt) (es : List ((Int × Int) × Bool)) (m : Mg) : (sendOne s es m).nodes = s.nodes ∧ (sendOne s es m).room = s.room ∧ s.l.length ≤ (sendOne s es m).l.length ∧ (sendOne s es m).l.length ≤ s.l.length + 1 := by
  unfold sendOne
  split
  · exact ⟨rfl, rfl, by simp, by simp⟩
  · exact ⟨rfl, rfl, Nat.le_refl _, by omega⟩
theorem sendAll_same (es : List ((Int × Int) × Bool)) (l : List Mg) : ∀ s : Nt, (sendAll s es l).nodes = s.nodes ∧ (sendAll s es l).room = s.room ∧ s.l.length ≤ (sendAll s es l).l.length ∧ (sendAll s es l).l.length ≤ s.l.length + l.length := by
  induction l with
  | nil => intro s; exact ⟨rfl, rfl, Nat.le_refl _, Nat.le_refl _⟩
  | cons m l ih =>
    intro s
    obtain ⟨h1, h2, h3, h4⟩ := ih (sendOne s es m)
    obtain ⟨k1, k2, k3, k4⟩ := sendOne_same s es m
    refine ⟨h1.trans k1, h2.trans k2, Nat.le_trans k3 h3, ?_⟩
    show (sendAll (sendOne s es m) es l).l.length ≤ _
    rw [List.length_cons]; omega
/-- APPEND of one message, at a step of a region that draws its order -/
theorem step_append_mv {w : World} {ops : Array Oper} {o : Oper} {a : Act} {K : Act → World → Prop} {Q : Exit → Act → World → Prop} {E : Prop} (hgd : o.guard = none) (s x : Operand)
    (ho : o.op = .call { callee := .builtin .append, args := #[s, x], argTypes := #[45, 45] })
    (base : Nat) (v : Value) (l : List Mv) (n : Nat) (hs : a.eval s = v) (hown : w.ownsRow base 32 5 v n (row5 l))
    (H : Nat) (u : Mv) (hu : u.v.oneCell' = true ∧ u.u.oneCell' = true) (hx : a.eval x = .slice (some ⟨H, 0, none⟩) 1 1) (hcell : ∀ j y, (cells5 u)[j]? = some y → w.cell? ⟨H, 0 + j, none⟩ = some y)
    (hbytes : n + 1 ≤ 1000000000) (hbase : base ≤ w.heap.size)
    (h : ∀ g cap w', w'.ownsRow base 32 5 (.slice (some ⟨g, 0, none⟩) (n + 1) cap) (n + 1) (row5 (l ++ [u])) → w.grownBy w' v.ownBlock → (v.ownBlock = some g ∨ g = w.heap.size) → K (a.put o.dst (.slice (some ⟨g, 0, none⟩) (n + 1) cap)) w') :
    if Region.wanted o (yielded ops a.tmps) = true then Oper.wp Try.prog o a w K Q else E := by
  obtain ⟨i0, hi0, hz0, hz1, hz2⟩ := info_parts info32
  refine step_append_lies w hgd s x 45 ho base 32 i0 _ 5 72 Try.underlying45 hi0 hz0 hz1 hz2 rfl (by decide) v n (row5 l) hs hown ⟨H, 0, none⟩ 1 1 (cells5 u) hx rfl ?_ ?_ (by decide) (by unfold maxLen; omega) (by omega) hbase w.heap.size rfl ?_
  · intro j y hj
    rw [Addr.add_lit]
    exact hcell j y hj
  · intro y hy
    simp [cells5] at hy
    rcases hy with rfl | rfl | rfl | rfl | rfl
    · rfl
    · rfl
    · rfl
    · exact hu.1
    · exact hu.2
  · intro g cap w' g1 g2 g3 _
    refine h g cap w' ?_ g2 g3
    rw [row5_append, show row5 [u] = cells5 u by simp [row5]]
    exact g1
def netObj (s : Nt) (v : Value) (mb : Nat) : Obj := .cells #[.int .i64 s.nodes, .int .i64 s.room, v, .map (some mb)] 60 (0, 0)
def msgObj (m : Mg) (v u : Value) : Obj := .cells #[.int .i64 m.from_, .int .i64 m.to_, .int .i64 m.kind, v, u] 32
theorem send_prep {wc w5 : World} {base a mb : Nat} {t : Nt} {vv : Value} {ps : List Mv} (k1 : wc.heap[a]? = some (netObj t vv mb)) (k2 : wc.ownsRow base 32 5 vv t.l.length (row5 ps)) (hb : Below wc.heap.size wc w5) (m : Mg) (v u : Value) :
    ∀ Wx : World, Wx.heap = (w5.alloc (msgObj m v u)).heap → Wx.ownsRow base 32 5 vv t.l.length (row5 ps) ∧ Wx.heap[a]? = some (netObj t vv mb) ∧
      (∀ j y, (cells5 ⟨m, v, u⟩)[j]? = some y → Wx.cell? ⟨w5.heap.size, 0 + j, none⟩ = some y) ∧ Wx.heap.size = w5.heap.size + 1 := by
  intro Wx hW
  have o := (Only.ofBelow hb []).alloc (msgObj m v u)
  refine ⟨rows_heap (rows_only k2 o (by simp)) hW, ?_, ?_, by rw [hW]; simp⟩
  · rw [hW]; exact o.keeps k1 (by simp)
  · intro j y hj
    have := World.cell?_of_block (w := w5.alloc (msgObj m v u)) (w' := Wx) (a := ⟨w5.heap.size, 0 + j, none⟩) (by rw [hW])
    rw [this, msgObj, World.cell?_alloc_mark, Nat.zero_add]
    simpa [cells5] using hj
theorem IsNet.kinds {w : World} {base a mb : Nat} {g : Option Nat} {s : Nt} {es : List ((Int × Int) × Bool)} (h : IsNet w base a mb g s es) : NoRow w (a :: g.toList) := by
  obtain ⟨⟨v, ps, h1, h2, h3, h4⟩, _⟩ := h
  intro j hj cur
  simp at hj
  rcases hj with rfl | hj
  · rw [h1]; simp
  · obtain ⟨_, cur, hc⟩ := rows_block h2 (h3.trans hj)
    rw [hc]; simp
theorem IsNet.types {w : World} {base a mb : Nat} {g : Option Nat} {s : Nt} {es : List ((Int × Int) × Bool)} (h : IsNet w base a mb g s es) : ∀ j ∈ a :: g.toList, ∀ cs t fr, w.heap[j]? = some (.cells cs t fr) → t = 60 ∨ t = 32 := by
  obtain ⟨⟨v, ps, h1, h2, h3, h4⟩, _⟩ := h
  intro j hj cs t fr hh
  simp at hj
  rcases hj with rfl | hj
  · rw [h1] at hh; simp at hh; exact .inl hh.2.1.symm
  · obtain ⟨_, cur, hc⟩ := rows_block h2 (h3.trans hj)
    rw [hc] at hh; simp at hh; exact .inr hh.2.1.symm
theorem IsNet.glt {w : World} {base a mb : Nat} {g : Option Nat} {s : Nt} {es : List ((Int × Int) × Bool)} (h : IsNet w base a mb g s es) : ∀ j, g = some j → j < w.heap.size := by
  obtain ⟨⟨v', ps', h1, h2, h3, h4⟩, _⟩ := h
  intro j hj
  obtain ⟨_, cur, hc⟩ := rows_block h2 (h3.trans hj)
  exact lt_of_heap hc
/-- what stands when one more message waits -/
theorem send_fin {wc w5 W9 w9 : World} {base a mb : Nat} {g : Option Nat} {t : Nt} {es : List ((Int × Int) × Bool)} {vv : Value} {ps : List Mv} (hN : IsNet wc base a mb g t es) (k1 : wc.heap[a]? = some (netObj t vv mb)) (k3 : vv.ownBlock = g) (k4 : Holds5 wc base ps t.l)
    (hb : Below wc.heap.size wc w5) (m : Mg) (v u : Value) (hv : OwnM w5 wc.heap.size m v u) (hv1 : v.oneCell' = true ∧ u.oneCell' = true) (hbase : base ≤ wc.heap.size)
    (hW : W9.heap = (w5.alloc (msgObj m v u)).heap) (wo : W9.os = w5.os) (wt : W9.tape = w5.tape) (wp : W9.output = w5.output) {g2 cap : Nat}
    (hown : w9.ownsRow base 32 5 (.slice (some ⟨g2, 0, none⟩) (t.l.length + 1) cap) (t.l.length + 1) (row5 (ps ++ [⟨m, v, u⟩]))) (hgr : W9.grownBy w9 vv.ownBlock) (hat : vv.ownBlock = some g2 ∨ g2 = W9.heap.size) (hA : w9.heap[a]? = some (netObj t vv mb)) :
    IsNet (w9.setCell ⟨a, 2, none⟩ (.slice (some ⟨g2, 0, none⟩) (t.l.length + 1) cap)) base a mb (some g2) { t with l := t.l ++ [m] } es ∧ (some g2 = g ∨ wc.heap.size ≤ g2) ∧ Only (a :: g.toList) wc (w9.setCell ⟨a, 2, none⟩ (.slice (some ⟨g2, 0, none⟩) (t.l.length + 1) cap)) := by
  have hap := hN.apart
  have hs9 : W9.heap.size = w5.heap.size + 1 := by rw [hW]; simp
  have hs5 := hb.size
  have hla := lt_of_heap k1
  have hga : g2 ≠ a := by
    rcases hat with hh | hh
    · intro e; exact hap.2.1 (by rw [← k3, hh, e])
    · omega
  have hgl : ∀ j, g = some j → j < wc.heap.size := by
    obtain ⟨⟨v', ps', h1, h2, h3, h4⟩, _⟩ := hN
    intro j hj
    obtain ⟨_, cur, hc⟩ := rows_block h2 (h3.trans hj)
    exact lt_of_heap hc
  have o5 : Only (a :: g.toList) w5 (w9.setCell ⟨a, 2, none⟩ (.slice (some ⟨g2, 0, none⟩) (t.l.length + 1) cap)) :=
    ((only_heap ((Only.refl _ w5).alloc _) hW wo wt wp).grown hgr (fun k hk => by rw [← k3, hk]; simp)).setCell (by simp) _
  have oc := (Only.ofBelow hb (a :: g.toList)).trans o5
  have hk5 : NoRow w5 (a :: g.toList) := by
    intro j hj cur
    have hlt : j < wc.heap.size := by
      simp at hj
      rcases hj with rfl | hj
      · exact hla
      · exact hgl j hj
    rw [hb.block j hlt]
    exact hN.kinds j hj cur
  refine ⟨⟨⟨_, ps ++ [⟨m, v, u⟩], heap_set hA 2 _, ?_, rfl, ?_⟩, hN.cut.only oc ?_, hN.ge, hN.gm⟩, ?_, oc⟩
  · have := rows_only hown ((Only.refl [a] w9).setCell (p := ⟨a, 2, none⟩) (by simp) (.slice (some ⟨g2, 0, none⟩) (t.l.length + 1) cap)) (fun j hj => by simp only [Value.ownBlock, Option.some.injEq] at hj; subst hj; simpa using hga)
    simpa using this
  · refine ⟨by rw [List.map_append, k4.ms]; rfl, ?_, ?_⟩
    · intro x hx
      rcases List.mem_append.1 hx with hx | hx
      · exact (k4.own x hx).only oc hN.kinds
      · obtain rfl : x = ⟨m, v, u⟩ := by simpa using hx
        exact (hv.mono hbase).only o5 hk5
    · intro x hx
      rcases List.mem_append.1 hx with hx | hx
      · exact k4.one x hx
      · obtain rfl : x = ⟨m, v, u⟩ := by simpa using hx
        exact hv1
  · intro hm
    simp at hm
    rcases hm with hm | hm
    · exact hap.1 hm.symm
    · exact hap.2.2 hm
  · rcases hat with hh | hh
    · exact .inl (by rw [← k3, hh])
    · exact .inr (by omega)

set_option maxHeartbeats 8000000 in
set_option maxRecDepth 100000 in
theorem send_walk {w0 w : World} {base a mb0 : Nat} {g0 : Option Nat} {s : Nt} {es : List ((Int × Int) × Bool)} (hN0 : IsNet w base a mb0 g0 s es) (hb0 : Below base w0 w) (hs0 : base ≤ w.heap.size) (hk0 : KeepsD w0 w) (b off : Nat) (l : List Mg) (hm : ∀ w', Below base w0 w' → IsMsgs w' b off l)
    (hl : s.l.length + l.length ≤ 100000) (c : Nat) (hc : l.length ≤ c) (hnn : s.nodes ≤ 64) (hr : s.room ≤ 65536) :
    Calls Try.prog 11 #[.pointer (some ⟨a, 0, none⟩), .slice (some ⟨b, off, none⟩) l.length c] w fun e w' => e = .returned (.int .i64 (((sendAll s es l).l.length - s.l.length : Nat) : Int)) ∧ OursN w0 w' base a (sendAll s es l) es := by
  have HM := Lib.hid hm
  have HN0 := Lib.hid hN0
  clear hm hN0
  generalize hq : l.length = q at *
  have HQ := Lib.hid hq; clear hq
  go_enter Try.func11, Try.ntmps11
  go_wp2_with fail
  go_loopw [5, 10] (fun v i wr => ∃ (k : Nat) (t : Nt) (g : Option Nat) (mb : Nat), k ≤ q ∧ i = .int .i64 (k : Int) ∧ t = sendAll s es (l.take k) ∧ v = .int .i64 ((t.l.length - s.l.length : Nat) : Int) ∧ IsNet wr base a mb g t es ∧ Below base w0 wr ∧ base ≤ wr.heap.size ∧ Hid (KeepsD w0 wr)) (fun _ i _ => q - (intOf i).toNat)
  case atStart => exact ⟨0, s, g0, mb0, by omega, rfl, rfl, by simp, HN0.out, hb0, hs0, Lib.hid hk0⟩
  case round =>
    obtain ⟨k, t, g, mb, hk, rfl, ht, rfl, hN, hbl, hsz, HKW⟩ := hrel
    have hms := HM.out _ hbl
    obtain ⟨hs1, hs2, hs3, hs4⟩ := sendAll_same es (l.take k) s
    rw [← ht] at hs1 hs2 hs3 hs4
    rw [List.length_take] at hs4
    have HT := Lib.hid ht
    have HNT := Lib.hid hN
    have HBL := Lib.hid hbl
    by_cases hlt : k < q
    · obtain ⟨xv, xu, c0, c1, c2, c3, c4, hi⟩ := hms.at_ k (by rw [HQ.out]; exact hlt)
      have hfew := hms.few k (by rw [HQ.out]; exact hlt)
      have HFEW := Lib.hid hfew; clear hfew
      have HNX := Lib.hid (sendAll_next s es l k (by rw [HQ.out]; exact hlt))
      have htl : t.l.length ≤ 100000 := by omega
      clear ht hms hN hbl
      generalize l.getD k m0 = x at *
      obtain ⟨mf, mt, mk, ns, bs⟩ := x
      have HI := Lib.hid hi
      obtain ⟨⟨ao, cN, rfl, _⟩, ⟨bo, cB, rfl, _⟩⟩ := hi
      simp only at c0 c1 c2 c3 c4
      have hx0 : (wr.alloc (.cells #[.int .i64 mf, .int .i64 mt, .int .i64 mk, .slice ao ns.length cN, .slice bo bs.length cB] 32)).cell? ⟨wr.heap.size, 0, none⟩ = some (.int .i64 mf) := by rw [World.cell?_alloc_mark]; rfl
      have hx1 : (wr.alloc (.cells #[.int .i64 mf, .int .i64 mt, .int .i64 mk, .slice ao ns.length cN, .slice bo bs.length cB] 32)).cell? ⟨wr.heap.size, 1, none⟩ = some (.int .i64 mt) := by rw [World.cell?_alloc_mark]; rfl
      have hNW := HNT.out.below ((Below.refl _ _).alloc (Nat.le_refl _) (.cells #[.int .i64 mf, .int .i64 mt, .int .i64 mk, .slice ao ns.length cN, .slice bo bs.length cB] 32))
      have HBX := Lib.hid (heap_new wr (.cells #[.int .i64 mf, .int .i64 mt, .int .i64 mk, .slice ao ns.length cN, .slice bo bs.length cB] 32))
      have HBW : Hid (Below wr.heap.size wr (wr.alloc (.cells #[.int .i64 mf, .int .i64 mt, .int .i64 mk, .slice ao ns.length cN, .slice bo bs.length cB] 32))) := Lib.hid ((Below.refl _ _).alloc (Nat.le_refl _) _)
      have HWS : Hid ((wr.alloc (.cells #[.int .i64 mf, .int .i64 mt, .int .i64 mk, .slice ao ns.length cN, .slice bo bs.length cB] 32)).heap.size = wr.heap.size + 1) := Lib.hid (by simp)
      have HNW := Lib.hid hNW
      obtain ⟨⟨vv, ps, k1, k2, k3, k4⟩, _, _, _⟩ := hNW
      obtain ⟨ao2, cap2, rfl, _, _⟩ := row_shape k2
      have ha1 : (wr.alloc (.cells #[.int .i64 mf, .int .i64 mt, .int .i64 mk, .slice ao ns.length cN, .slice bo bs.length cB] 32)).cell? ⟨a, 1, none⟩ = some (.int .i64 t.room) := by rw [cell_heap k1]; rfl
      have ha2 : (wr.alloc (.cells #[.int .i64 mf, .int .i64 mt, .int .i64 mk, .slice ao ns.length cN, .slice bo bs.length cB] 32)).cell? ⟨a, 2, none⟩ = some (.slice ao2 t.l.length cap2) := by rw [cell_heap k1]; rfl
      have ha3 : (wr.alloc (.cells #[.int .i64 mf, .int .i64 mt, .int .i64 mk, .slice ao ns.length cN, .slice bo bs.length cB] 32)).cell? ⟨a, 3, none⟩ = some (.map (some mb)) := by rw [cell_heap k1]; rfl
      clear k1 k2 k3 k4
      have HS2 := Lib.hid hs2; have HS1 := Lib.hid hs1
      have ht64 : t.nodes ≤ 64 := by rw [HS1.out]; exact hnn
      clear hs1 hs2
      go_upto_region 5 with (fail)
      generalize hWW : wr.alloc (.cells #[.int .i64 mf, .int .i64 mt, .int .i64 mk, .slice ao ns.length cN, .slice bo bs.length cB] 32) = W at *
      have HWW := Lib.hid hWW; clear hWW
      generalize hXX : wr.heap.size = X at *
      have HXX := Lib.hid hXX; clear hXX
      go_cut [48] (fun u wx => u = .bool (goes t es ⟨mf, mt, mk, ns, bs⟩) ∧ Below W.heap.size W wx)
      case first =>
        have HF : Hid (∀ w', Below W.heap.size W w' → Calls Try.prog 25 #[.pointer (some ⟨a, 0, none⟩), .int .i64 mf] w' fun e w'' => e = .returned (.bool (isNode t mf)) ∧ w' = w'') := Lib.hid fun w' hb => node_any (HNW.out.below hb) mf
        have HTO : Hid (∀ w', Below W.heap.size W w' → Calls Try.prog 25 #[.pointer (some ⟨a, 0, none⟩), .int .i64 mt] w' fun e w'' => e = .returned (.bool (isNode t mt)) ∧ w' = w'') := Lib.hid fun w' hb => node_any (HNW.out.below hb) mt
        have hwf : isNode t mf = true → isNode t mt = true → wfK (way mf mt) := by
          intro hx hy
          unfold isNode at hx hy
          simp only [Bool.and_eq_true, decide_eq_true_eq] at hx hy
          unfold wfK way
          split <;> split <;> simp <;> omega
        have HC : Hid (isNode t mf = true → isNode t mt = true → ∀ w', Below W.heap.size W w' → (Instr.lookup 58 (.map (some mb)) (keyV (way mf mt)) false).run Try.prog w' = .ok (.bool (cutOf es (way mf mt))) w') := Lib.hid fun h1 h2 w' hb => run_cut (HNW.out.below hb).cut _ (hwf h1 h2)
        have hgoes : goes t es ⟨mf, mt, mk, ns, bs⟩ = (isNode t mf && (isNode t mt && (!cutOf es (way mf mt) && decide ((t.l.length : Int) < t.room)))) := rfl
        clear hwf
        generalize hA : isNode t mf = bA at *
        generalize hB : isNode t mt = bB at *
        generalize hCC : cutOf es (way mf mt) = cb at *
        generalize hrm : t.room = room at *
        generalize htll : t.l.length = tl at *
        have HGO := Lib.hid hgoes
        clear hA hB hCC hgoes
        cases bA with
        | false =>
          have hgo : goes t es ⟨mf, mt, mk, ns, bs⟩ = false := by rw [HGO.out]; rfl
          refine wp_region_held_drew (S := fun w' => w'.cell? ⟨X, 0, none⟩ = some (.int .i64 mf) ∧ w'.cell? ⟨X, 1, none⟩ = some (.int .i64 mt)) (by kernel_rfl) ⟨hx0, hx1⟩ (fun hHeld => ?_)
          refine wpAnyH_take (i := 0) (oi := { dst := some 14, op := Op.move (Operand.tmp 0), type := 23, pos := _, after := #[], guard := none }) (v := ?_) rfl (by kernel_rfl) (by kernel_rfl) (by kernel_rfl) (fun _ _ _ h => h) (Or.inl ⟨by rfl, ?_⟩) (by exact hHeld) ?_
          rotate_left
          · (intro w hSw; (try dsimp only at hSw); go_simp <;> with_reducible rfl)
          try simp only [Act.put, List.setIfInBounds_toArray, List.set_cons_zero, List.set_cons_succ]
          refine wpAnyH_take (i := 1) (oi := { dst := some 15, op := Op.fieldAddr 32 (Operand.tmp 7) 0, type := 0, pos := _, after := #[], guard := none }) (v := ?_) rfl (by kernel_rfl) (by kernel_rfl) (by kernel_rfl) (fun _ _ _ h => h) (Or.inl ⟨by rfl, ?_⟩) (by exact hHeld) ?_
          rotate_left
          · (intro w hSw; (try dsimp only at hSw); go_simp <;> with_reducible rfl)
          try simp only [Act.put, List.setIfInBounds_toArray, List.set_cons_zero, List.set_cons_succ]
          refine wpAnyH_take (i := 2) (oi := { dst := some 16, op := Op.load 3 (Operand.tmp 15), type := 3, pos := _, after := #[{ on := 1, ground := Ground.data }], guard := none }) (v := ?_) rfl (by kernel_rfl) (by kernel_rfl) (by kernel_rfl) (fun _ _ _ h => h) (Or.inl ⟨by rfl, ?_⟩) (by exact hHeld) ?_
          rotate_left
          · (intro w hSw; (try dsimp only at hSw); go_simp <;> with_reducible rfl)
          try simp only [Act.put, List.setIfInBounds_toArray, List.set_cons_zero, List.set_cons_succ]
          refine wpAnyH_ready (rs := [3]) (by kernel_rfl) (by simp) ?_
          refine AllReadyH.cons (o := { dst := some 17, op := Op.call { callee := Callee.value (Operand.func 25), args := #[Operand.tmp 14, Operand.tmp 16], argTypes := #[23, 3] }, type := 4, pos := _, after := #[{ on := 0, ground := Ground.data }, { on := 2, ground := Ground.data }], guard := none }) rfl (fun K hK => ?_) AllReadyH.nil
          go_simp
          refine (HF.out _ (by exact below_drew (Below.refl W.heap.size W) 1)).mono ?_
          rintro e w1 ⟨rfl, rfl⟩
          go_wp2_with fail
          refine hK.out _ _ hHeld (fun hHeld => ?_)
          clear hK K
          try simp only [Act.put, List.setIfInBounds_toArray, List.set_cons_zero, List.set_cons_succ]
          refine wpAnyH_take (i := 4) (oi := { dst := some 18, op := Op.move (Operand.tmp 17), type := 4, pos := _, after := #[{ on := 3, ground := Ground.data }, { on := 3, ground := Ground.chain }], guard := none }) (v := ?_) rfl (by kernel_rfl) (by kernel_rfl) (by kernel_rfl) (fun _ _ _ h => h) (Or.inl ⟨by rfl, ?_⟩) (by exact hHeld) ?_
          rotate_left
          · (intro w hSw; (try dsimp only at hSw); go_simp <;> with_reducible rfl)
          try simp only [Act.put, List.setIfInBounds_toArray, List.set_cons_zero, List.set_cons_succ]
          refine wpAnyH_take (i := 5) (oi := { dst := some 19, op := Op.move (Operand.tmp 0), type := 23, pos := _, after := #[{ on := 4, ground := Ground.guard }], guard := some (4, true) }) (v := undef) rfl (by kernel_rfl) (by kernel_rfl) (by kernel_rfl) (fun _ _ _ h => h) (Or.inr ⟨by rfl, rfl⟩) (by exact hHeld) ?_
          try simp only [Act.put, List.setIfInBounds_toArray, List.set_cons_zero, List.set_cons_succ]
          refine wpAnyH_take (i := 6) (oi := { dst := some 20, op := Op.fieldAddr 32 (Operand.tmp 7) 1, type := 0, pos := _, after := #[{ on := 4, ground := Ground.guard }], guard := some (4, true) }) (v := undef) rfl (by kernel_rfl) (by kernel_rfl) (by kernel_rfl) (fun _ _ _ h => h) (Or.inr ⟨by rfl, rfl⟩) (by exact hHeld) ?_
          try simp only [Act.put, List.setIfInBounds_toArray, List.set_cons_zero, List.set_cons_succ]
          refine wpAnyH_take (i := 7) (oi := { dst := some 21, op := Op.load 3 (Operand.tmp 20), type := 3, pos := _, after := #[{ on := 6, ground := Ground.data }, { on := 4, ground := Ground.guard }], guard := some (4, true) }) (v := undef) rfl (by kernel_rfl) (by kernel_rfl) (by kernel_rfl) (fun _ _ _ h => h) (Or.inr ⟨by rfl, rfl⟩) (by exact hHeld) ?_
          try simp only [Act.put, List.setIfInBounds_toArray, List.set_cons_zero, List.set_cons_succ]
          refine wpAnyH_take (i := 8) (oi := { dst := some 22, op := Op.call { callee := Callee.value (Operand.func 25), args := #[Operand.tmp 19, Operand.tmp 21], argTypes := #[23, 3] }, type := 4, pos := _, after := #[{ on := 5, ground := Ground.data }, { on := 7, ground := Ground.data }, { on := 4, ground := Ground.chain }, { on := 4, ground := Ground.guard }], guard := some (4, true) }) (v := undef) rfl (by kernel_rfl) (by kernel_rfl) (by kernel_rfl) (fun _ _ _ h => h) (Or.inr ⟨by rfl, rfl⟩) (by exact hHeld) ?_
          try simp only [Act.put, List.setIfInBounds_toArray, List.set_cons_zero, List.set_cons_succ]
          refine wpAnyH_take (i := 9) (oi := { dst := some 23, op := Op.pick (Operand.tmp 18) (Operand.tmp 22) (Operand.const (Value.bool false)), type := 4, pos := _, after := #[{ on := 4, ground := Ground.data }, { on := 8, ground := Ground.data }], guard := none }) (v := ?_) rfl (by kernel_rfl) (by kernel_rfl) (by kernel_rfl) (fun _ _ _ h => h) (Or.inl ⟨by rfl, ?_⟩) (by exact hHeld) ?_
          rotate_left
          · (intro w hSw; (try dsimp only at hSw); go_simp <;> with_reducible rfl)
          try simp only [Act.put, List.setIfInBounds_toArray, List.set_cons_zero, List.set_cons_succ]
          refine wpAnyH_take (i := 10) (oi := { dst := some 24, op := Op.move (Operand.tmp 23), type := 4, pos := _, after := #[{ on := 9, ground := Ground.data }, { on := 8, ground := Ground.chain }], guard := none }) (v := ?_) rfl (by kernel_rfl) (by kernel_rfl) (by kernel_rfl) (fun _ _ _ h => h) (Or.inl ⟨by rfl, ?_⟩) (by exact hHeld) ?_
          rotate_left
          · (intro w hSw; (try dsimp only at hSw); go_simp <;> with_reducible rfl)
          try simp only [Act.put, List.setIfInBounds_toArray, List.set_cons_zero, List.set_cons_succ]
          refine wpAnyH_take (i := 11) (oi := { dst := some 25, op := Op.move (Operand.tmp 0), type := 23, pos := _, after := #[{ on := 10, ground := Ground.guard }], guard := some (10, true) }) (v := undef) rfl (by kernel_rfl) (by kernel_rfl) (by kernel_rfl) (fun _ _ _ h => h) (Or.inr ⟨by rfl, rfl⟩) (by exact hHeld) ?_
          try simp only [Act.put, List.setIfInBounds_toArray, List.set_cons_zero, List.set_cons_succ]
          refine wpAnyH_take (i := 12) (oi := { dst := some 26, op := Op.nilCheck (Operand.tmp 25), type := 0, pos := _, after := #[{ on := 11, ground := Ground.data }, { on := 10, ground := Ground.guard }], guard := some (10, true) }) (v := undef) rfl (by kernel_rfl) (by kernel_rfl) (by kernel_rfl) (fun _ _ _ h => h) (Or.inr ⟨by rfl, rfl⟩) (by exact hHeld) ?_
          try simp only [Act.put, List.setIfInBounds_toArray, List.set_cons_zero, List.set_cons_succ]
          refine wpAnyH_take (i := 13) (oi := { dst := some 27, op := Op.fieldAddr 60 (Operand.tmp 26) 3, type := 0, pos := _, after := #[{ on := 12, ground := Ground.data }, { on := 10, ground := Ground.guard }], guard := some (10, true) }) (v := undef) rfl (by kernel_rfl) (by kernel_rfl) (by kernel_rfl) (fun _ _ _ h => h) (Or.inr ⟨by rfl, rfl⟩) (by exact hHeld) ?_
          try simp only [Act.put, List.setIfInBounds_toArray, List.set_cons_zero, List.set_cons_succ]
          refine wpAnyH_take (i := 14) (oi := { dst := some 28, op := Op.load 58 (Operand.tmp 27), type := 58, pos := _, after := #[{ on := 13, ground := Ground.data }, { on := 10, ground := Ground.guard }], guard := some (10, true) }) (v := undef) rfl (by kernel_rfl) (by kernel_rfl) (by kernel_rfl) (fun _ _ _ h => h) (Or.inr ⟨by rfl, rfl⟩) (by exact hHeld) ?_
          try simp only [Act.put, List.setIfInBounds_toArray, List.set_cons_zero, List.set_cons_succ]
          refine wpAnyH_take (i := 15) (oi := { dst := some 29, op := Op.fieldAddr 32 (Operand.tmp 7) 0, type := 0, pos := _, after := #[{ on := 10, ground := Ground.guard }], guard := some (10, true) }) (v := undef) rfl (by kernel_rfl) (by kernel_rfl) (by kernel_rfl) (fun _ _ _ h => h) (Or.inr ⟨by rfl, rfl⟩) (by exact hHeld) ?_
          try simp only [Act.put, List.setIfInBounds_toArray, List.set_cons_zero, List.set_cons_succ]
          refine wpAnyH_take (i := 16) (oi := { dst := some 30, op := Op.load 3 (Operand.tmp 29), type := 3, pos := _, after := #[{ on := 15, ground := Ground.data }, { on := 10, ground := Ground.guard }], guard := some (10, true) }) (v := undef) rfl (by kernel_rfl) (by kernel_rfl) (by kernel_rfl) (fun _ _ _ h => h) (Or.inr ⟨by rfl, rfl⟩) (by exact hHeld) ?_
          try simp only [Act.put, List.setIfInBounds_toArray, List.set_cons_zero, List.set_cons_succ]
          refine wpAnyH_take (i := 17) (oi := { dst := some 31, op := Op.fieldAddr 32 (Operand.tmp 7) 1, type := 0, pos := _, after := #[{ on := 10, ground := Ground.guard }], guard := some (10, true) }) (v := undef) rfl (by kernel_rfl) (by kernel_rfl) (by kernel_rfl) (fun _ _ _ h => h) (Or.inr ⟨by rfl, rfl⟩) (by exact hHeld) ?_
          try simp only [Act.put, List.setIfInBounds_toArray, List.set_cons_zero, List.set_cons_succ]
          refine wpAnyH_take (i := 18) (oi := { dst := some 32, op := Op.load 3 (Operand.tmp 31), type := 3, pos := _, after := #[{ on := 17, ground := Ground.data }, { on := 10, ground := Ground.guard }], guard := some (10, true) }) (v := undef) rfl (by kernel_rfl) (by kernel_rfl) (by kernel_rfl) (fun _ _ _ h => h) (Or.inr ⟨by rfl, rfl⟩) (by exact hHeld) ?_
          try simp only [Act.put, List.setIfInBounds_toArray, List.set_cons_zero, List.set_cons_succ]
          refine wpAnyH_take (i := 19) (oi := { dst := some 33, op := Op.call { callee := Callee.value (Operand.func 26), args := #[Operand.tmp 30, Operand.tmp 32], argTypes := #[3, 3] }, type := 61, pos := _, after := #[{ on := 16, ground := Ground.data }, { on := 18, ground := Ground.data }, { on := 10, ground := Ground.chain }, { on := 10, ground := Ground.guard }], guard := some (10, true) }) (v := undef) rfl (by kernel_rfl) (by kernel_rfl) (by kernel_rfl) (fun _ _ _ h => h) (Or.inr ⟨by rfl, rfl⟩) (by exact hHeld) ?_
          try simp only [Act.put, List.setIfInBounds_toArray, List.set_cons_zero, List.set_cons_succ]
          refine wpAnyH_take (i := 20) (oi := { dst := some 34, op := Op.lookup 58 (Operand.tmp 28) (Operand.tmp 33) false, type := 4, pos := _, after := #[{ on := 14, ground := Ground.data }, { on := 19, ground := Ground.data }, { on := 10, ground := Ground.guard }], guard := some (10, true) }) (v := undef) rfl (by kernel_rfl) (by kernel_rfl) (by kernel_rfl) (fun _ _ _ h => h) (Or.inr ⟨by rfl, rfl⟩) (by exact hHeld) ?_
          try simp only [Act.put, List.setIfInBounds_toArray, List.set_cons_zero, List.set_cons_succ]
          refine wpAnyH_take (i := 21) (oi := { dst := some 35, op := Op.unOp UnOp.not 4 (Operand.tmp 34), type := 4, pos := _, after := #[{ on := 20, ground := Ground.data }, { on := 10, ground := Ground.guard }], guard := some (10, true) }) (v := undef) rfl (by kernel_rfl) (by kernel_rfl) (by kernel_rfl) (fun _ _ _ h => h) (Or.inr ⟨by rfl, rfl⟩) (by exact hHeld) ?_
          try simp only [Act.put, List.setIfInBounds_toArray, List.set_cons_zero, List.set_cons_succ]
          refine wpAnyH_take (i := 22) (oi := { dst := some 36, op := Op.pick (Operand.tmp 24) (Operand.tmp 35) (Operand.const (Value.bool false)), type := 4, pos := _, after := #[{ on := 10, ground := Ground.data }, { on := 21, ground := Ground.data }], guard := none }) (v := ?_) rfl (by kernel_rfl) (by kernel_rfl) (by kernel_rfl) (fun _ _ _ h => h) (Or.inl ⟨by rfl, ?_⟩) (by exact hHeld) ?_
          rotate_left
          · (intro w hSw; (try dsimp only at hSw); go_simp <;> with_reducible rfl)
          try simp only [Act.put, List.setIfInBounds_toArray, List.set_cons_zero, List.set_cons_succ]
          refine wpAnyH_take (i := 23) (oi := { dst := some 37, op := Op.move (Operand.tmp 36), type := 4, pos := _, after := #[{ on := 22, ground := Ground.data }, { on := 19, ground := Ground.chain }], guard := none }) (v := ?_) rfl (by kernel_rfl) (by kernel_rfl) (by kernel_rfl) (fun _ _ _ h => h) (Or.inl ⟨by rfl, ?_⟩) (by exact hHeld) ?_
          rotate_left
          · (intro w hSw; (try dsimp only at hSw); go_simp <;> with_reducible rfl)
          try simp only [Act.put, List.setIfInBounds_toArray, List.set_cons_zero, List.set_cons_succ]
          refine wpAnyH_take (i := 24) (oi := { dst := some 38, op := Op.move (Operand.tmp 0), type := 23, pos := _, after := #[{ on := 23, ground := Ground.guard }], guard := some (23, true) }) (v := undef) rfl (by kernel_rfl) (by kernel_rfl) (by kernel_rfl) (fun _ _ _ h => h) (Or.inr ⟨by rfl, rfl⟩) (by exact hHeld) ?_
          try simp only [Act.put, List.setIfInBounds_toArray, List.set_cons_zero, List.set_cons_succ]
          refine wpAnyH_take (i := 25) (oi := { dst := some 39, op := Op.nilCheck (Operand.tmp 38), type := 0, pos := _, after := #[{ on := 24, ground := Ground.data }, { on := 23, ground := Ground.guard }], guard := some (23, true) }) (v := undef) rfl (by kernel_rfl) (by kernel_rfl) (by kernel_rfl) (fun _ _ _ h => h) (Or.inr ⟨by rfl, rfl⟩) (by exact hHeld) ?_
          try simp only [Act.put, List.setIfInBounds_toArray, List.set_cons_zero, List.set_cons_succ]
          refine wpAnyH_take (i := 26) (oi := { dst := some 40, op := Op.fieldAddr 60 (Operand.tmp 39) 2, type := 0, pos := _, after := #[{ on := 25, ground := Ground.data }, { on := 23, ground := Ground.guard }], guard := some (23, true) }) (v := undef) rfl (by kernel_rfl) (by kernel_rfl) (by kernel_rfl) (fun _ _ _ h => h) (Or.inr ⟨by rfl, rfl⟩) (by exact hHeld) ?_
          try simp only [Act.put, List.setIfInBounds_toArray, List.set_cons_zero, List.set_cons_succ]
          refine wpAnyH_take (i := 27) (oi := { dst := some 41, op := Op.load 45 (Operand.tmp 40), type := 45, pos := _, after := #[{ on := 26, ground := Ground.data }, { on := 23, ground := Ground.guard }], guard := some (23, true) }) (v := undef) rfl (by kernel_rfl) (by kernel_rfl) (by kernel_rfl) (fun _ _ _ h => h) (Or.inr ⟨by rfl, rfl⟩) (by exact hHeld) ?_
          try simp only [Act.put, List.setIfInBounds_toArray, List.set_cons_zero, List.set_cons_succ]
          refine wpAnyH_take (i := 28) (oi := { dst := some 42, op := Op.call { callee := Callee.builtin Builtin.len, args := #[Operand.tmp 41], argTypes := #[45] }, type := 3, pos := _, after := #[{ on := 27, ground := Ground.data }, { on := 23, ground := Ground.guard }], guard := some (23, true) }) (v := undef) rfl (by kernel_rfl) (by kernel_rfl) (by kernel_rfl) (fun _ _ _ h => h) (Or.inr ⟨by rfl, rfl⟩) (by exact hHeld) ?_
          try simp only [Act.put, List.setIfInBounds_toArray, List.set_cons_zero, List.set_cons_succ]
          refine wpAnyH_take (i := 29) (oi := { dst := some 43, op := Op.move (Operand.tmp 0), type := 23, pos := _, after := #[{ on := 23, ground := Ground.guard }], guard := some (23, true) }) (v := undef) rfl (by kernel_rfl) (by kernel_rfl) (by kernel_rfl) (fun _ _ _ h => h) (Or.inr ⟨by rfl, rfl⟩) (by exact hHeld) ?_
          try simp only [Act.put, List.setIfInBounds_toArray, List.set_cons_zero, List.set_cons_succ]
          refine wpAnyH_take (i := 30) (oi := { dst := some 44, op := Op.nilCheck (Operand.tmp 43), type := 0, pos := _, after := #[{ on := 29, ground := Ground.data }, { on := 23, ground := Ground.guard }], guard := some (23, true) }) (v := undef) rfl (by kernel_rfl) (by kernel_rfl) (by kernel_rfl) (fun _ _ _ h => h) (Or.inr ⟨by rfl, rfl⟩) (by exact hHeld) ?_
          try simp only [Act.put, List.setIfInBounds_toArray, List.set_cons_zero, List.set_cons_succ]
          refine wpAnyH_take (i := 31) (oi := { dst := some 45, op := Op.fieldAddr 60 (Operand.tmp 44) 1, type := 0, pos := _, after := #[{ on := 30, ground := Ground.data }, { on := 23, ground := Ground.guard }], guard := some (23, true) }) (v := undef) rfl (by kernel_rfl) (by kernel_rfl) (by kernel_rfl) (fun _ _ _ h => h) (Or.inr ⟨by rfl, rfl⟩) (by exact hHeld) ?_
          try simp only [Act.put, List.setIfInBounds_toArray, List.set_cons_zero, List.set_cons_succ]
          refine wpAnyH_take (i := 32) (oi := { dst := some 46, op := Op.load 3 (Operand.tmp 45), type := 3, pos := _, after := #[{ on := 31, ground := Ground.data }, { on := 23, ground := Ground.guard }], guard := some (23, true) }) (v := undef) rfl (by kernel_rfl) (by kernel_rfl) (by kernel_rfl) (fun _ _ _ h => h) (Or.inr ⟨by rfl, rfl⟩) (by exact hHeld) ?_
          try simp only [Act.put, List.setIfInBounds_toArray, List.set_cons_zero, List.set_cons_succ]
          refine wpAnyH_take (i := 33) (oi := { dst := some 47, op := Op.binOp BinOp.lss 3 (Operand.tmp 42) (Operand.tmp 46) 3, type := 4, pos := _, after := #[{ on := 28, ground := Ground.data }, { on := 32, ground := Ground.data }, { on := 23, ground := Ground.guard }], guard := some (23, true) }) (v := undef) rfl (by kernel_rfl) (by kernel_rfl) (by kernel_rfl) (fun _ _ _ h => h) (Or.inr ⟨by rfl, rfl⟩) (by exact hHeld) ?_
          try simp only [Act.put, List.setIfInBounds_toArray, List.set_cons_zero, List.set_cons_succ]
          refine wpAnyH_take (i := 34) (oi := { dst := some 48, op := Op.pick (Operand.tmp 37) (Operand.tmp 47) (Operand.const (Value.bool false)), type := 4, pos := _, after := #[{ on := 23, ground := Ground.data }, { on := 33, ground := Ground.data }], guard := none }) (v := ?_) rfl (by kernel_rfl) (by kernel_rfl) (by kernel_rfl) (fun _ _ _ h => h) (Or.inl ⟨by rfl, ?_⟩) (by exact hHeld) ?_
          rotate_left
          · (intro w hSw; (try dsimp only at hSw); go_simp <;> with_reducible rfl)
          try simp only [Act.put, List.setIfInBounds_toArray, List.set_cons_zero, List.set_cons_succ]
          refine wpAnyH_done (by kernel_rfl) ?_ _
          go_wp2_with fail
          go_meet
          exact ⟨by rw [hgo], below_drew (Below.refl W.heap.size W) 1⟩
        | true =>
        cases bB with
        | false =>
          have hgo : goes t es ⟨mf, mt, mk, ns, bs⟩ = false := by rw [HGO.out]; rfl
          refine wp_region_held_drew (S := fun w' => w'.cell? ⟨X, 0, none⟩ = some (.int .i64 mf) ∧ w'.cell? ⟨X, 1, none⟩ = some (.int .i64 mt)) (by kernel_rfl) ⟨hx0, hx1⟩ (fun hHeld => ?_)
          refine wpAnyH_take (i := 0) (oi := { dst := some 14, op := Op.move (Operand.tmp 0), type := 23, pos := _, after := #[], guard := none }) (v := ?_) rfl (by kernel_rfl) (by kernel_rfl) (by kernel_rfl) (fun _ _ _ h => h) (Or.inl ⟨by rfl, ?_⟩) (by exact hHeld) ?_
          rotate_left
          · (intro w hSw; (try dsimp only at hSw); go_simp <;> with_reducible rfl)
          try simp only [Act.put, List.setIfInBounds_toArray, List.set_cons_zero, List.set_cons_succ]
          refine wpAnyH_take (i := 1) (oi := { dst := some 15, op := Op.fieldAddr 32 (Operand.tmp 7) 0, type := 0, pos := _, after := #[], guard := none }) (v := ?_) rfl (by kernel_rfl) (by kernel_rfl) (by kernel_rfl) (fun _ _ _ h => h) (Or.inl ⟨by rfl, ?_⟩) (by exact hHeld) ?_
          rotate_left
          · (intro w hSw; (try dsimp only at hSw); go_simp <;> with_reducible rfl)
          try simp only [Act.put, List.setIfInBounds_toArray, List.set_cons_zero, List.set_cons_succ]
          refine wpAnyH_take (i := 2) (oi := { dst := some 16, op := Op.load 3 (Operand.tmp 15), type := 3, pos := _, after := #[{ on := 1, ground := Ground.data }], guard := none }) (v := ?_) rfl (by kernel_rfl) (by kernel_rfl) (by kernel_rfl) (fun _ _ _ h => h) (Or.inl ⟨by rfl, ?_⟩) (by exact hHeld) ?_
          rotate_left
          · (intro w hSw; (try dsimp only at hSw); go_simp <;> with_reducible rfl)
          try simp only [Act.put, List.setIfInBounds_toArray, List.set_cons_zero, List.set_cons_succ]
          refine wpAnyH_ready (rs := [3]) (by kernel_rfl) (by simp) ?_
          refine AllReadyH.cons (o := { dst := some 17, op := Op.call { callee := Callee.value (Operand.func 25), args := #[Operand.tmp 14, Operand.tmp 16], argTypes := #[23, 3] }, type := 4, pos := _, after := #[{ on := 0, ground := Ground.data }, { on := 2, ground := Ground.data }], guard := none }) rfl (fun K hK => ?_) AllReadyH.nil
          go_simp
          refine (HF.out _ (by exact below_drew (Below.refl W.heap.size W) 1)).mono ?_
          rintro e w1 ⟨rfl, rfl⟩
          go_wp2_with fail
          refine hK.out _ _ hHeld (fun hHeld => ?_)
          clear hK K
          try simp only [Act.put, List.setIfInBounds_toArray, List.set_cons_zero, List.set_cons_succ]
          refine wpAnyH_take (i := 4) (oi := { dst := some 18, op := Op.move (Operand.tmp 17), type := 4, pos := _, after := #[{ on := 3, ground := Ground.data }, { on := 3, ground := Ground.chain }], guard := none }) (v := ?_) rfl (by kernel_rfl) (by kernel_rfl) (by kernel_rfl) (fun _ _ _ h => h) (Or.inl ⟨by rfl, ?_⟩) (by exact hHeld) ?_
          rotate_left
          · (intro w hSw; (try dsimp only at hSw); go_simp <;> with_reducible rfl)
          try simp only [Act.put, List.setIfInBounds_toArray, List.set_cons_zero, List.set_cons_succ]
          refine wpAnyH_take (i := 5) (oi := { dst := some 19, op := Op.move (Operand.tmp 0), type := 23, pos := _, after := #[{ on := 4, ground := Ground.guard }], guard := some (4, true) }) (v := ?_) rfl (by kernel_rfl) (by kernel_rfl) (by kernel_rfl) (fun _ _ _ h => h) (Or.inl ⟨by rfl, ?_⟩) (by exact hHeld) ?_
          rotate_left
          · (intro w hSw; (try dsimp only at hSw); go_simp <;> with_reducible rfl)
          try simp only [Act.put, List.setIfInBounds_toArray, List.set_cons_zero, List.set_cons_succ]
          refine wpAnyH_take (i := 6) (oi := { dst := some 20, op := Op.fieldAddr 32 (Operand.tmp 7) 1, type := 0, pos := _, after := #[{ on := 4, ground := Ground.guard }], guard := some (4, true) }) (v := ?_) rfl (by kernel_rfl) (by kernel_rfl) (by kernel_rfl) (fun _ _ _ h => h) (Or.inl ⟨by rfl, ?_⟩) (by exact hHeld) ?_
          rotate_left
          · (intro w hSw; (try dsimp only at hSw); go_simp <;> with_reducible rfl)
          try simp only [Act.put, List.setIfInBounds_toArray, List.set_cons_zero, List.set_cons_succ]
          refine wpAnyH_take (i := 7) (oi := { dst := some 21, op := Op.load 3 (Operand.tmp 20), type := 3, pos := _, after := #[{ on := 6, ground := Ground.data }, { on := 4, ground := Ground.guard }], guard := some (4, true) }) (v := ?_) rfl (by kernel_rfl) (by kernel_rfl) (by kernel_rfl) (fun _ _ _ h => h) (Or.inl ⟨by rfl, ?_⟩) (by exact hHeld) ?_
          rotate_left
          · (intro w hSw; (try dsimp only at hSw); go_simp <;> with_reducible rfl)
          try simp only [Act.put, List.setIfInBounds_toArray, List.set_cons_zero, List.set_cons_succ]
          refine wpAnyH_ready (rs := [8]) (by kernel_rfl) (by simp) ?_
          refine AllReadyH.cons (o := { dst := some 22, op := Op.call { callee := Callee.value (Operand.func 25), args := #[Operand.tmp 19, Operand.tmp 21], argTypes := #[23, 3] }, type := 4, pos := _, after := #[{ on := 5, ground := Ground.data }, { on := 7, ground := Ground.data }, { on := 4, ground := Ground.chain }, { on := 4, ground := Ground.guard }], guard := some (4, true) }) rfl (fun K hK => ?_) AllReadyH.nil
          go_simp
          refine (HTO.out _ (by exact below_drew (Below.refl W.heap.size W) 1)).mono ?_
          rintro e w1 ⟨rfl, rfl⟩
          go_wp2_with fail
          refine hK.out _ _ hHeld (fun hHeld => ?_)
          clear hK K
          try simp only [Act.put, List.setIfInBounds_toArray, List.set_cons_zero, List.set_cons_succ]
          refine wpAnyH_take (i := 9) (oi := { dst := some 23, op := Op.pick (Operand.tmp 18) (Operand.tmp 22) (Operand.const (Value.bool false)), type := 4, pos := _, after := #[{ on := 4, ground := Ground.data }, { on := 8, ground := Ground.data }], guard := none }) (v := ?_) rfl (by kernel_rfl) (by kernel_rfl) (by kernel_rfl) (fun _ _ _ h => h) (Or.inl ⟨by rfl, ?_⟩) (by exact hHeld) ?_
          rotate_left
          · (intro w hSw; (try dsimp only at hSw); go_simp <;> with_reducible rfl)
          try simp only [Act.put, List.setIfInBounds_toArray, List.set_cons_zero, List.set_cons_succ]
          refine wpAnyH_take (i := 10) (oi := { dst := some 24, op := Op.move (Operand.tmp 23), type := 4, pos := _, after := #[{ on := 9, ground := Ground.data }, { on := 8, ground := Ground.chain }], guard := none }) (v := ?_) rfl (by kernel_rfl) (by kernel_rfl) (by kernel_rfl) (fun _ _ _ h => h) (Or.inl ⟨by rfl, ?_⟩) (by exact hHeld) ?_
          rotate_left
          · (intro w hSw; (try dsimp only at hSw); go_simp <;> with_reducible rfl)
          try simp only [Act.put, List.setIfInBounds_toArray, List.set_cons_zero, List.set_cons_succ]
          refine wpAnyH_take (i := 11) (oi := { dst := some 25, op := Op.move (Operand.tmp 0), type := 23, pos := _, after := #[{ on := 10, ground := Ground.guard }], guard := some (10, true) }) (v := undef) rfl (by kernel_rfl) (by kernel_rfl) (by kernel_rfl) (fun _ _ _ h => h) (Or.inr ⟨by rfl, rfl⟩) (by exact hHeld) ?_
          try simp only [Act.put, List.setIfInBounds_toArray, List.set_cons_zero, List.set_cons_succ]
          refine wpAnyH_take (i := 12) (oi := { dst := some 26, op := Op.nilCheck (Operand.tmp 25), type := 0, pos := _, after := #[{ on := 11, ground := Ground.data }, { on := 10, ground := Ground.guard }], guard := some (10, true) }) (v := undef) rfl (by kernel_rfl) (by kernel_rfl) (by kernel_rfl) (fun _ _ _ h => h) (Or.inr ⟨by rfl, rfl⟩) (by exact hHeld) ?_
          try simp only [Act.put, List.setIfInBounds_toArray, List.set_cons_zero, List.set_cons_succ]
          refine wpAnyH_take (i := 13) (oi := { dst := some 27, op := Op.fieldAddr 60 (Operand.tmp 26) 3, type := 0, pos := _, after := #[{ on := 12, ground := Ground.data }, { on := 10, ground := Ground.guard }], guard := some (10, true) }) (v := undef) rfl (by kernel_rfl) (by kernel_rfl) (by kernel_rfl) (fun _ _ _ h => h) (Or.inr ⟨by rfl, rfl⟩) (by exact hHeld) ?_
          try simp only [Act.put, List.setIfInBounds_toArray, List.set_cons_zero, List.set_cons_succ]
          refine wpAnyH_take (i := 14) (oi := { dst := some 28, op := Op.load 58 (Operand.tmp 27), type := 58, pos := _, after := #[{ on := 13, ground := Ground.data }, { on := 10, ground := Ground.guard }], guard := some (10, true) }) (v := undef) rfl (by kernel_rfl) (by kernel_rfl) (by kernel_rfl) (fun _ _ _ h => h) (Or.inr ⟨by rfl, rfl⟩) (by exact hHeld) ?_
          try simp only [Act.put, List.setIfInBounds_toArray, List.set_cons_zero, List.set_cons_succ]
          refine wpAnyH_take (i := 15) (oi := { dst := some 29, op := Op.fieldAddr 32 (Operand.tmp 7) 0, type := 0, pos := _, after := #[{ on := 10, ground := Ground.guard }], guard := some (10, true) }) (v := undef) rfl (by kernel_rfl) (by kernel_rfl) (by kernel_rfl) (fun _ _ _ h => h) (Or.inr ⟨by rfl, rfl⟩) (by exact hHeld) ?_
          try simp only [Act.put, List.setIfInBounds_toArray, List.set_cons_zero, List.set_cons_succ]
          refine wpAnyH_take (i := 16) (oi := { dst := some 30, op := Op.load 3 (Operand.tmp 29), type := 3, pos := _, after := #[{ on := 15, ground := Ground.data }, { on := 10, ground := Ground.guard }], guard := some (10, true) }) (v := undef) rfl (by kernel_rfl) (by kernel_rfl) (by kernel_rfl) (fun _ _ _ h => h) (Or.inr ⟨by rfl, rfl⟩) (by exact hHeld) ?_
          try simp only [Act.put, List.setIfInBounds_toArray, List.set_cons_zero, List.set_cons_succ]
          refine wpAnyH_take (i := 17) (oi := { dst := some 31, op := Op.fieldAddr 32 (Operand.tmp 7) 1, type := 0, pos := _, after := #[{ on := 10, ground := Ground.guard }], guard := some (10, true) }) (v := undef) rfl (by kernel_rfl) (by kernel_rfl) (by kernel_rfl) (fun _ _ _ h => h) (Or.inr ⟨by rfl, rfl⟩) (by exact hHeld) ?_
          try simp only [Act.put, List.setIfInBounds_toArray, List.set_cons_zero, List.set_cons_succ]
          refine wpAnyH_take (i := 18) (oi := { dst := some 32, op := Op.load 3 (Operand.tmp 31), type := 3, pos := _, after := #[{ on := 17, ground := Ground.data }, { on := 10, ground := Ground.guard }], guard := some (10, true) }) (v := undef) rfl (by kernel_rfl) (by kernel_rfl) (by kernel_rfl) (fun _ _ _ h => h) (Or.inr ⟨by rfl, rfl⟩) (by exact hHeld) ?_
          try simp only [Act.put, List.setIfInBounds_toArray, List.set_cons_zero, List.set_cons_succ]
          refine wpAnyH_take (i := 19) (oi := { dst := some 33, op := Op.call { callee := Callee.value (Operand.func 26), args := #[Operand.tmp 30, Operand.tmp 32], argTypes := #[3, 3] }, type := 61, pos := _, after := #[{ on := 16, ground := Ground.data }, { on := 18, ground := Ground.data }, { on := 10, ground := Ground.chain }, { on := 10, ground := Ground.guard }], guard := some (10, true) }) (v := undef) rfl (by kernel_rfl) (by kernel_rfl) (by kernel_rfl) (fun _ _ _ h => h) (Or.inr ⟨by rfl, rfl⟩) (by exact hHeld) ?_
          try simp only [Act.put, List.setIfInBounds_toArray, List.set_cons_zero, List.set_cons_succ]
          refine wpAnyH_take (i := 20) (oi := { dst := some 34, op := Op.lookup 58 (Operand.tmp 28) (Operand.tmp 33) false, type := 4, pos := _, after := #[{ on := 14, ground := Ground.data }, { on := 19, ground := Ground.data }, { on := 10, ground := Ground.guard }], guard := some (10, true) }) (v := undef) rfl (by kernel_rfl) (by kernel_rfl) (by kernel_rfl) (fun _ _ _ h => h) (Or.inr ⟨by rfl, rfl⟩) (by exact hHeld) ?_
          try simp only [Act.put, List.setIfInBounds_toArray, List.set_cons_zero, List.set_cons_succ]
          refine wpAnyH_take (i := 21) (oi := { dst := some 35, op := Op.unOp UnOp.not 4 (Operand.tmp 34), type := 4, pos := _, after := #[{ on := 20, ground := Ground.data }, { on := 10, ground := Ground.guard }], guard := some (10, true) }) (v := undef) rfl (by kernel_rfl) (by kernel_rfl) (by kernel_rfl) (fun _ _ _ h => h) (Or.inr ⟨by rfl, rfl⟩) (by exact hHeld) ?_
          try simp only [Act.put, List.setIfInBounds_toArray, List.set_cons_zero, List.set_cons_succ]
          refine wpAnyH_take (i := 22) (oi := { dst := some 36, op := Op.pick (Operand.tmp 24) (Operand.tmp 35) (Operand.const (Value.bool false)), type := 4, pos := _, after := #[{ on := 10, ground := Ground.data }, { on := 21, ground := Ground.data }], guard := none }) (v := ?_) rfl (by kernel_rfl) (by kernel_rfl) (by kernel_rfl) (fun _ _ _ h => h) (Or.inl ⟨by rfl, ?_⟩) (by exact hHeld) ?_
          rotate_left
          · (intro w hSw; (try dsimp only at hSw); go_simp <;> with_reducible rfl)
          try simp only [Act.put, List.setIfInBounds_toArray, List.set_cons_zero, List.set_cons_succ]
          refine wpAnyH_take (i := 23) (oi := { dst := some 37, op := Op.move (Operand.tmp 36), type := 4, pos := _, after := #[{ on := 22, ground := Ground.data }, { on := 19, ground := Ground.chain }], guard := none }) (v := ?_) rfl (by kernel_rfl) (by kernel_rfl) (by kernel_rfl) (fun _ _ _ h => h) (Or.inl ⟨by rfl, ?_⟩) (by exact hHeld) ?_
          rotate_left
          · (intro w hSw; (try dsimp only at hSw); go_simp <;> with_reducible rfl)
          try simp only [Act.put, List.setIfInBounds_toArray, List.set_cons_zero, List.set_cons_succ]
          refine wpAnyH_take (i := 24) (oi := { dst := some 38, op := Op.move (Operand.tmp 0), type := 23, pos := _, after := #[{ on := 23, ground := Ground.guard }], guard := some (23, true) }) (v := undef) rfl (by kernel_rfl) (by kernel_rfl) (by kernel_rfl) (fun _ _ _ h => h) (Or.inr ⟨by rfl, rfl⟩) (by exact hHeld) ?_
          try simp only [Act.put, List.setIfInBounds_toArray, List.set_cons_zero, List.set_cons_succ]
          refine wpAnyH_take (i := 25) (oi := { dst := some 39, op := Op.nilCheck (Operand.tmp 38), type := 0, pos := _, after := #[{ on := 24, ground := Ground.data }, { on := 23, ground := Ground.guard }], guard := some (23, true) }) (v := undef) rfl (by kernel_rfl) (by kernel_rfl) (by kernel_rfl) (fun _ _ _ h => h) (Or.inr ⟨by rfl, rfl⟩) (by exact hHeld) ?_
          try simp only [Act.put, List.setIfInBounds_toArray, List.set_cons_zero, List.set_cons_succ]
          refine wpAnyH_take (i := 26) (oi := { dst := some 40, op := Op.fieldAddr 60 (Operand.tmp 39) 2, type := 0, pos := _, after := #[{ on := 25, ground := Ground.data }, { on := 23, ground := Ground.guard }], guard := some (23, true) }) (v := undef) rfl (by kernel_rfl) (by kernel_rfl) (by kernel_rfl) (fun _ _ _ h => h) (Or.inr ⟨by rfl, rfl⟩) (by exact hHeld) ?_
          try simp only [Act.put, List.setIfInBounds_toArray, List.set_cons_zero, List.set_cons_succ]
          refine wpAnyH_take (i := 27) (oi := { dst := some 41, op := Op.load 45 (Operand.tmp 40), type := 45, pos := _, after := #[{ on := 26, ground := Ground.data }, { on := 23, ground := Ground.guard }], guard := some (23, true) }) (v := undef) rfl (by kernel_rfl) (by kernel_rfl) (by kernel_rfl) (fun _ _ _ h => h) (Or.inr ⟨by rfl, rfl⟩) (by exact hHeld) ?_
          try simp only [Act.put, List.setIfInBounds_toArray, List.set_cons_zero, List.set_cons_succ]
          refine wpAnyH_take (i := 28) (oi := { dst := some 42, op := Op.call { callee := Callee.builtin Builtin.len, args := #[Operand.tmp 41], argTypes := #[45] }, type := 3, pos := _, after := #[{ on := 27, ground := Ground.data }, { on := 23, ground := Ground.guard }], guard := some (23, true) }) (v := undef) rfl (by kernel_rfl) (by kernel_rfl) (by kernel_rfl) (fun _ _ _ h => h) (Or.inr ⟨by rfl, rfl⟩) (by exact hHeld) ?_
          try simp only [Act.put, List.setIfInBounds_toArray, List.set_cons_zero, List.set_cons_succ]
          refine wpAnyH_take (i := 29) (oi := { dst := some 43, op := Op.move (Operand.tmp 0), type := 23, pos := _, after := #[{ on := 23, ground := Ground.guard }], guard := some (23, true) }) (v := undef) rfl (by kernel_rfl) (by kernel_rfl) (by kernel_rfl) (fun _ _ _ h => h) (Or.inr ⟨by rfl, rfl⟩) (by exact hHeld) ?_
          try simp only [Act.put, List.setIfInBounds_toArray, List.set_cons_zero, List.set_cons_succ]
          refine wpAnyH_take (i := 30) (oi := { dst := some 44, op := Op.nilCheck (Operand.tmp 43), type := 0, pos := _, after := #[{ on := 29, ground := Ground.data }, { on := 23, ground := Ground.guard }], guard := some (23, true) }) (v := undef) rfl (by kernel_rfl) (by kernel_rfl) (by kernel_rfl) (fun _ _ _ h => h) (Or.inr ⟨by rfl, rfl⟩) (by exact hHeld) ?_
          try simp only [Act.put, List.setIfInBounds_toArray, List.set_cons_zero, List.set_cons_succ]
          refine wpAnyH_take (i := 31) (oi := { dst := some 45, op := Op.fieldAddr 60 (Operand.tmp 44) 1, type := 0, pos := _, after := #[{ on := 30, ground := Ground.data }, { on := 23, ground := Ground.guard }], guard := some (23, true) }) (v := undef) rfl (by kernel_rfl) (by kernel_rfl) (by kernel_rfl) (fun _ _ _ h => h) (Or.inr ⟨by rfl, rfl⟩) (by exact hHeld) ?_
          try simp only [Act.put, List.setIfInBounds_toArray, List.set_cons_zero, List.set_cons_succ]
          refine wpAnyH_take (i := 32) (oi := { dst := some 46, op := Op.load 3 (Operand.tmp 45), type := 3, pos := _, after := #[{ on := 31, ground := Ground.data }, { on := 23, ground := Ground.guard }], guard := some (23, true) }) (v := undef) rfl (by kernel_rfl) (by kernel_rfl) (by kernel_rfl) (fun _ _ _ h => h) (Or.inr ⟨by rfl, rfl⟩) (by exact hHeld) ?_
          try simp only [Act.put, List.setIfInBounds_toArray, List.set_cons_zero, List.set_cons_succ]
          refine wpAnyH_take (i := 33) (oi := { dst := some 47, op := Op.binOp BinOp.lss 3 (Operand.tmp 42) (Operand.tmp 46) 3, type := 4, pos := _, after := #[{ on := 28, ground := Ground.data }, { on := 32, ground := Ground.data }, { on := 23, ground := Ground.guard }], guard := some (23, true) }) (v := undef) rfl (by kernel_rfl) (by kernel_rfl) (by kernel_rfl) (fun _ _ _ h => h) (Or.inr ⟨by rfl, rfl⟩) (by exact hHeld) ?_
          try simp only [Act.put, List.setIfInBounds_toArray, List.set_cons_zero, List.set_cons_succ]
          refine wpAnyH_take (i := 34) (oi := { dst := some 48, op := Op.pick (Operand.tmp 37) (Operand.tmp 47) (Operand.const (Value.bool false)), type := 4, pos := _, after := #[{ on := 23, ground := Ground.data }, { on := 33, ground := Ground.data }], guard := none }) (v := ?_) rfl (by kernel_rfl) (by kernel_rfl) (by kernel_rfl) (fun _ _ _ h => h) (Or.inl ⟨by rfl, ?_⟩) (by exact hHeld) ?_
          rotate_left
          · (intro w hSw; (try dsimp only at hSw); go_simp <;> with_reducible rfl)
          try simp only [Act.put, List.setIfInBounds_toArray, List.set_cons_zero, List.set_cons_succ]
          refine wpAnyH_done (by kernel_rfl) ?_ _
          go_wp2_with fail
          go_meet
          exact ⟨by rw [hgo], below_drew (Below.refl W.heap.size W) 1⟩
        | true =>
        replace HC := Lib.hid (HC.out rfl rfl)
        cases cb with
        | true =>
          have hgo : goes t es ⟨mf, mt, mk, ns, bs⟩ = false := by rw [HGO.out]; rfl
          refine wp_region_held_drew (S := fun w' => w'.cell? ⟨X, 0, none⟩ = some (.int .i64 mf) ∧ w'.cell? ⟨X, 1, none⟩ = some (.int .i64 mt) ∧ w'.cell? ⟨a, 1, none⟩ = some (.int .i64 room) ∧ w'.cell? ⟨a, 2, none⟩ = some (.slice ao2 tl cap2) ∧ w'.cell? ⟨a, 3, none⟩ = some (.map (some mb)) ∧ (Instr.lookup 58 (.map (some mb)) (keyV (way mf mt)) false).run Try.prog w' = .ok (.bool true) w') (by kernel_rfl) ⟨hx0, hx1, ha1, ha2, ha3, HC.out _ (by exact below_drew (Below.refl W.heap.size W) 1)⟩ (fun hHeld => ?_)
          refine wpAnyH_take (i := 0) (oi := { dst := some 14, op := Op.move (Operand.tmp 0), type := 23, pos := _, after := #[], guard := none }) (v := ?_) rfl (by kernel_rfl) (by kernel_rfl) (by kernel_rfl) (fun _ _ _ h => h) (Or.inl ⟨by rfl, ?_⟩) (by exact hHeld) ?_
          rotate_left
          · (intro w hSw; (try dsimp only at hSw); go_simp <;> with_reducible rfl)
          try simp only [Act.put, List.setIfInBounds_toArray, List.set_cons_zero, List.set_cons_succ]
          refine wpAnyH_take (i := 1) (oi := { dst := some 15, op := Op.fieldAddr 32 (Operand.tmp 7) 0, type := 0, pos := _, after := #[], guard := none }) (v := ?_) rfl (by kernel_rfl) (by kernel_rfl) (by kernel_rfl) (fun _ _ _ h => h) (Or.inl ⟨by rfl, ?_⟩) (by exact hHeld) ?_
          rotate_left
          · (intro w hSw; (try dsimp only at hSw); go_simp <;> with_reducible rfl)
          try simp only [Act.put, List.setIfInBounds_toArray, List.set_cons_zero, List.set_cons_succ]
          refine wpAnyH_take (i := 2) (oi := { dst := some 16, op := Op.load 3 (Operand.tmp 15), type := 3, pos := _, after := #[{ on := 1, ground := Ground.data }], guard := none }) (v := ?_) rfl (by kernel_rfl) (by kernel_rfl) (by kernel_rfl) (fun _ _ _ h => h) (Or.inl ⟨by rfl, ?_⟩) (by exact hHeld) ?_
          rotate_left
          · (intro w hSw; (try dsimp only at hSw); go_simp <;> with_reducible rfl)
          try simp only [Act.put, List.setIfInBounds_toArray, List.set_cons_zero, List.set_cons_succ]
          refine wpAnyH_ready (rs := [3]) (by kernel_rfl) (by simp) ?_
          refine AllReadyH.cons (o := { dst := some 17, op := Op.call { callee := Callee.value (Operand.func 25), args := #[Operand.tmp 14, Operand.tmp 16], argTypes := #[23, 3] }, type := 4, pos := _, after := #[{ on := 0, ground := Ground.data }, { on := 2, ground := Ground.data }], guard := none }) rfl (fun K hK => ?_) AllReadyH.nil
          go_simp
          refine (HF.out _ (by exact below_drew (Below.refl W.heap.size W) 1)).mono ?_
          rintro e w1 ⟨rfl, rfl⟩
          go_wp2_with fail
          refine hK.out _ _ hHeld (fun hHeld => ?_)
          clear hK K
          try simp only [Act.put, List.setIfInBounds_toArray, List.set_cons_zero, List.set_cons_succ]
          refine wpAnyH_take (i := 4) (oi := { dst := some 18, op := Op.move (Operand.tmp 17), type := 4, pos := _, after := #[{ on := 3, ground := Ground.data }, { on := 3, ground := Ground.chain }], guard := none }) (v := ?_) rfl (by kernel_rfl) (by kernel_rfl) (by kernel_rfl) (fun _ _ _ h => h) (Or.inl ⟨by rfl, ?_⟩) (by exact hHeld) ?_
          rotate_left
          · (intro w hSw; (try dsimp only at hSw); go_simp <;> with_reducible rfl)
          try simp only [Act.put, List.setIfInBounds_toArray, List.set_cons_zero, List.set_cons_succ]
          refine wpAnyH_take (i := 5) (oi := { dst := some 19, op := Op.move (Operand.tmp 0), type := 23, pos := _, after := #[{ on := 4, ground := Ground.guard }], guard := some (4, true) }) (v := ?_) rfl (by kernel_rfl) (by kernel_rfl) (by kernel_rfl) (fun _ _ _ h => h) (Or.inl ⟨by rfl, ?_⟩) (by exact hHeld) ?_
          rotate_left
          · (intro w hSw; (try dsimp only at hSw); go_simp <;> with_reducible rfl)
          try simp only [Act.put, List.setIfInBounds_toArray, List.set_cons_zero, List.set_cons_succ]
          refine wpAnyH_take (i := 6) (oi := { dst := some 20, op := Op.fieldAddr 32 (Operand.tmp 7) 1, type := 0, pos := _, after := #[{ on := 4, ground := Ground.guard }], guard := some (4, true) }) (v := ?_) rfl (by kernel_rfl) (by kernel_rfl) (by kernel_rfl) (fun _ _ _ h => h) (Or.inl ⟨by rfl, ?_⟩) (by exact hHeld) ?_
          rotate_left
          · (intro w hSw; (try dsimp only at hSw); go_simp <;> with_reducible rfl)
          try simp only [Act.put, List.setIfInBounds_toArray, List.set_cons_zero, List.set_cons_succ]
          refine wpAnyH_take (i := 7) (oi := { dst := some 21, op := Op.load 3 (Operand.tmp 20), type := 3, pos := _, after := #[{ on := 6, ground := Ground.data }, { on := 4, ground := Ground.guard }], guard := some (4, true) }) (v := ?_) rfl (by kernel_rfl) (by kernel_rfl) (by kernel_rfl) (fun _ _ _ h => h) (Or.inl ⟨by rfl, ?_⟩) (by exact hHeld) ?_
          rotate_left
          · (intro w hSw; (try dsimp only at hSw); go_simp <;> with_reducible rfl)
          try simp only [Act.put, List.setIfInBounds_toArray, List.set_cons_zero, List.set_cons_succ]
          refine wpAnyH_ready (rs := [8]) (by kernel_rfl) (by simp) ?_
          refine AllReadyH.cons (o := { dst := some 22, op := Op.call { callee := Callee.value (Operand.func 25), args := #[Operand.tmp 19, Operand.tmp 21], argTypes := #[23, 3] }, type := 4, pos := _, after := #[{ on := 5, ground := Ground.data }, { on := 7, ground := Ground.data }, { on := 4, ground := Ground.chain }, { on := 4, ground := Ground.guard }], guard := some (4, true) }) rfl (fun K hK => ?_) AllReadyH.nil
          go_simp
          refine (HTO.out _ (by exact below_drew (Below.refl W.heap.size W) 1)).mono ?_
          rintro e w1 ⟨rfl, rfl⟩
          go_wp2_with fail
          refine hK.out _ _ hHeld (fun hHeld => ?_)
          clear hK K
          try simp only [Act.put, List.setIfInBounds_toArray, List.set_cons_zero, List.set_cons_succ]
          refine wpAnyH_take (i := 9) (oi := { dst := some 23, op := Op.pick (Operand.tmp 18) (Operand.tmp 22) (Operand.const (Value.bool false)), type := 4, pos := _, after := #[{ on := 4, ground := Ground.data }, { on := 8, ground := Ground.data }], guard := none }) (v := ?_) rfl (by kernel_rfl) (by kernel_rfl) (by kernel_rfl) (fun _ _ _ h => h) (Or.inl ⟨by rfl, ?_⟩) (by exact hHeld) ?_
          rotate_left
          · (intro w hSw; (try dsimp only at hSw); go_simp <;> with_reducible rfl)
          try simp only [Act.put, List.setIfInBounds_toArray, List.set_cons_zero, List.set_cons_succ]
          refine wpAnyH_take (i := 10) (oi := { dst := some 24, op := Op.move (Operand.tmp 23), type := 4, pos := _, after := #[{ on := 9, ground := Ground.data }, { on := 8, ground := Ground.chain }], guard := none }) (v := ?_) rfl (by kernel_rfl) (by kernel_rfl) (by kernel_rfl) (fun _ _ _ h => h) (Or.inl ⟨by rfl, ?_⟩) (by exact hHeld) ?_
          rotate_left
          · (intro w hSw; (try dsimp only at hSw); go_simp <;> with_reducible rfl)
          try simp only [Act.put, List.setIfInBounds_toArray, List.set_cons_zero, List.set_cons_succ]
          refine wpAnyH_take (i := 11) (oi := { dst := some 25, op := Op.move (Operand.tmp 0), type := 23, pos := _, after := #[{ on := 10, ground := Ground.guard }], guard := some (10, true) }) (v := ?_) rfl (by kernel_rfl) (by kernel_rfl) (by kernel_rfl) (fun _ _ _ h => h) (Or.inl ⟨by rfl, ?_⟩) (by exact hHeld) ?_
          rotate_left
          · (intro w hSw; (try dsimp only at hSw); go_simp <;> with_reducible rfl)
          try simp only [Act.put, List.setIfInBounds_toArray, List.set_cons_zero, List.set_cons_succ]
          refine wpAnyH_take (i := 12) (oi := { dst := some 26, op := Op.nilCheck (Operand.tmp 25), type := 0, pos := _, after := #[{ on := 11, ground := Ground.data }, { on := 10, ground := Ground.guard }], guard := some (10, true) }) (v := ?_) rfl (by kernel_rfl) (by kernel_rfl) (by kernel_rfl) (fun _ _ _ h => h) (Or.inl ⟨by rfl, ?_⟩) (by exact hHeld) ?_
          rotate_left
          · (intro w hSw; (try dsimp only at hSw); go_simp <;> with_reducible rfl)
          try simp only [Act.put, List.setIfInBounds_toArray, List.set_cons_zero, List.set_cons_succ]
          refine wpAnyH_take (i := 13) (oi := { dst := some 27, op := Op.fieldAddr 60 (Operand.tmp 26) 3, type := 0, pos := _, after := #[{ on := 12, ground := Ground.data }, { on := 10, ground := Ground.guard }], guard := some (10, true) }) (v := ?_) rfl (by kernel_rfl) (by kernel_rfl) (by kernel_rfl) (fun _ _ _ h => h) (Or.inl ⟨by rfl, ?_⟩) (by exact hHeld) ?_
          rotate_left
          · (intro w hSw; (try dsimp only at hSw); go_simp <;> with_reducible rfl)
          try simp only [Act.put, List.setIfInBounds_toArray, List.set_cons_zero, List.set_cons_succ]
          refine wpAnyH_take (i := 14) (oi := { dst := some 28, op := Op.load 58 (Operand.tmp 27), type := 58, pos := _, after := #[{ on := 13, ground := Ground.data }, { on := 10, ground := Ground.guard }], guard := some (10, true) }) (v := ?_) rfl (by kernel_rfl) (by kernel_rfl) (by kernel_rfl) (fun _ _ _ h => h) (Or.inl ⟨by rfl, ?_⟩) (by exact hHeld) ?_
          rotate_left
          · (intro w hSw; (try dsimp only at hSw); go_simp <;> with_reducible rfl)
          try simp only [Act.put, List.setIfInBounds_toArray, List.set_cons_zero, List.set_cons_succ]
          refine wpAnyH_take (i := 15) (oi := { dst := some 29, op := Op.fieldAddr 32 (Operand.tmp 7) 0, type := 0, pos := _, after := #[{ on := 10, ground := Ground.guard }], guard := some (10, true) }) (v := ?_) rfl (by kernel_rfl) (by kernel_rfl) (by kernel_rfl) (fun _ _ _ h => h) (Or.inl ⟨by rfl, ?_⟩) (by exact hHeld) ?_
          rotate_left
          · (intro w hSw; (try dsimp only at hSw); go_simp <;> with_reducible rfl)
          try simp only [Act.put, List.setIfInBounds_toArray, List.set_cons_zero, List.set_cons_succ]
          refine wpAnyH_take (i := 16) (oi := { dst := some 30, op := Op.load 3 (Operand.tmp 29), type := 3, pos := _, after := #[{ on := 15, ground := Ground.data }, { on := 10, ground := Ground.guard }], guard := some (10, true) }) (v := ?_) rfl (by kernel_rfl) (by kernel_rfl) (by kernel_rfl) (fun _ _ _ h => h) (Or.inl ⟨by rfl, ?_⟩) (by exact hHeld) ?_
          rotate_left
          · (intro w hSw; (try dsimp only at hSw); go_simp <;> with_reducible rfl)
          try simp only [Act.put, List.setIfInBounds_toArray, List.set_cons_zero, List.set_cons_succ]
          refine wpAnyH_take (i := 17) (oi := { dst := some 31, op := Op.fieldAddr 32 (Operand.tmp 7) 1, type := 0, pos := _, after := #[{ on := 10, ground := Ground.guard }], guard := some (10, true) }) (v := ?_) rfl (by kernel_rfl) (by kernel_rfl) (by kernel_rfl) (fun _ _ _ h => h) (Or.inl ⟨by rfl, ?_⟩) (by exact hHeld) ?_
          rotate_left
          · (intro w hSw; (try dsimp only at hSw); go_simp <;> with_reducible rfl)
          try simp only [Act.put, List.setIfInBounds_toArray, List.set_cons_zero, List.set_cons_succ]
          refine wpAnyH_take (i := 18) (oi := { dst := some 32, op := Op.load 3 (Operand.tmp 31), type := 3, pos := _, after := #[{ on := 17, ground := Ground.data }, { on := 10, ground := Ground.guard }], guard := some (10, true) }) (v := ?_) rfl (by kernel_rfl) (by kernel_rfl) (by kernel_rfl) (fun _ _ _ h => h) (Or.inl ⟨by rfl, ?_⟩) (by exact hHeld) ?_
          rotate_left
          · (intro w hSw; (try dsimp only at hSw); go_simp <;> with_reducible rfl)
          try simp only [Act.put, List.setIfInBounds_toArray, List.set_cons_zero, List.set_cons_succ]
          refine wpAnyH_ready (rs := [19]) (by kernel_rfl) (by simp) ?_
          refine AllReadyH.cons (o := { dst := some 33, op := Op.call { callee := Callee.value (Operand.func 26), args := #[Operand.tmp 30, Operand.tmp 32], argTypes := #[3, 3] }, type := 61, pos := _, after := #[{ on := 16, ground := Ground.data }, { on := 18, ground := Ground.data }, { on := 10, ground := Ground.chain }, { on := 10, ground := Ground.guard }], guard := some (10, true) }) rfl (fun K hK => ?_) AllReadyH.nil
          go_simp
          refine (way_any mf mt _).mono ?_
          rintro e w3 ⟨rfl, hb3⟩
          have hb3' : Below W.heap.size W w3 := ⟨hb3.os, hb3.tape, hb3.output, hb3.size, hb3.block⟩
          have hcl := HC.out _ hb3'
          go_wp2_with fail
          refine hK.out _ _ ⟨cell_later hb3 hHeld.1, cell_later hb3 hHeld.2.1, cell_later hb3 hHeld.2.2.1, cell_later hb3 hHeld.2.2.2.1, cell_later hb3 hHeld.2.2.2.2.1, hcl⟩ (fun hHeld => ?_)
          clear hK K
          try simp only [Act.put, List.setIfInBounds_toArray, List.set_cons_zero, List.set_cons_succ]
          refine wpAnyH_take (i := 20) (oi := { dst := some 34, op := Op.lookup 58 (Operand.tmp 28) (Operand.tmp 33) false, type := 4, pos := _, after := #[{ on := 14, ground := Ground.data }, { on := 19, ground := Ground.data }, { on := 10, ground := Ground.guard }], guard := some (10, true) }) (v := ?_) rfl (by kernel_rfl) (by kernel_rfl) (by kernel_rfl) (fun _ _ _ h => h) (Or.inl ⟨by rfl, ?_⟩) (by exact hHeld) ?_
          rotate_left
          · (intro w hSw; (try dsimp only at hSw); go_simp <;> with_reducible rfl)
          try simp only [Act.put, List.setIfInBounds_toArray, List.set_cons_zero, List.set_cons_succ]
          refine wpAnyH_take (i := 21) (oi := { dst := some 35, op := Op.unOp UnOp.not 4 (Operand.tmp 34), type := 4, pos := _, after := #[{ on := 20, ground := Ground.data }, { on := 10, ground := Ground.guard }], guard := some (10, true) }) (v := ?_) rfl (by kernel_rfl) (by kernel_rfl) (by kernel_rfl) (fun _ _ _ h => h) (Or.inl ⟨by rfl, ?_⟩) (by exact hHeld) ?_
          rotate_left
          · (intro w hSw; (try dsimp only at hSw); go_simp <;> with_reducible rfl)
          try simp only [Act.put, List.setIfInBounds_toArray, List.set_cons_zero, List.set_cons_succ]
          refine wpAnyH_take (i := 22) (oi := { dst := some 36, op := Op.pick (Operand.tmp 24) (Operand.tmp 35) (Operand.const (Value.bool false)), type := 4, pos := _, after := #[{ on := 10, ground := Ground.data }, { on := 21, ground := Ground.data }], guard := none }) (v := ?_) rfl (by kernel_rfl) (by kernel_rfl) (by kernel_rfl) (fun _ _ _ h => h) (Or.inl ⟨by rfl, ?_⟩) (by exact hHeld) ?_
          rotate_left
          · (intro w hSw; (try dsimp only at hSw); go_simp <;> with_reducible rfl)
          try simp only [Act.put, List.setIfInBounds_toArray, List.set_cons_zero, List.set_cons_succ]
          refine wpAnyH_take (i := 23) (oi := { dst := some 37, op := Op.move (Operand.tmp 36), type := 4, pos := _, after := #[{ on := 22, ground := Ground.data }, { on := 19, ground := Ground.chain }], guard := none }) (v := ?_) rfl (by kernel_rfl) (by kernel_rfl) (by kernel_rfl) (fun _ _ _ h => h) (Or.inl ⟨by rfl, ?_⟩) (by exact hHeld) ?_
          rotate_left
          · (intro w hSw; (try dsimp only at hSw); go_simp <;> with_reducible rfl)
          try simp only [Act.put, List.setIfInBounds_toArray, List.set_cons_zero, List.set_cons_succ]
          refine wpAnyH_take (i := 24) (oi := { dst := some 38, op := Op.move (Operand.tmp 0), type := 23, pos := _, after := #[{ on := 23, ground := Ground.guard }], guard := some (23, true) }) (v := undef) rfl (by kernel_rfl) (by kernel_rfl) (by kernel_rfl) (fun _ _ _ h => h) (Or.inr ⟨by rfl, rfl⟩) (by exact hHeld) ?_
          try simp only [Act.put, List.setIfInBounds_toArray, List.set_cons_zero, List.set_cons_succ]
          refine wpAnyH_take (i := 25) (oi := { dst := some 39, op := Op.nilCheck (Operand.tmp 38), type := 0, pos := _, after := #[{ on := 24, ground := Ground.data }, { on := 23, ground := Ground.guard }], guard := some (23, true) }) (v := undef) rfl (by kernel_rfl) (by kernel_rfl) (by kernel_rfl) (fun _ _ _ h => h) (Or.inr ⟨by rfl, rfl⟩) (by exact hHeld) ?_
          try simp only [Act.put, List.setIfInBounds_toArray, List.set_cons_zero, List.set_cons_succ]
          refine wpAnyH_take (i := 26) (oi := { dst := some 40, op := Op.fieldAddr 60 (Operand.tmp 39) 2, type := 0, pos := _, after := #[{ on := 25, ground := Ground.data }, { on := 23, ground := Ground.guard }], guard := some (23, true) }) (v := undef) rfl (by kernel_rfl) (by kernel_rfl) (by kernel_rfl) (fun _ _ _ h => h) (Or.inr ⟨by rfl, rfl⟩) (by exact hHeld) ?_
          try simp only [Act.put, List.setIfInBounds_toArray, List.set_cons_zero, List.set_cons_succ]
          refine wpAnyH_take (i := 27) (oi := { dst := some 41, op := Op.load 45 (Operand.tmp 40), type := 45, pos := _, after := #[{ on := 26, ground := Ground.data }, { on := 23, ground := Ground.guard }], guard := some (23, true) }) (v := undef) rfl (by kernel_rfl) (by kernel_rfl) (by kernel_rfl) (fun _ _ _ h => h) (Or.inr ⟨by rfl, rfl⟩) (by exact hHeld) ?_
          try simp only [Act.put, List.setIfInBounds_toArray, List.set_cons_zero, List.set_cons_succ]
          refine wpAnyH_take (i := 28) (oi := { dst := some 42, op := Op.call { callee := Callee.builtin Builtin.len, args := #[Operand.tmp 41], argTypes := #[45] }, type := 3, pos := _, after := #[{ on := 27, ground := Ground.data }, { on := 23, ground := Ground.guard }], guard := some (23, true) }) (v := undef) rfl (by kernel_rfl) (by kernel_rfl) (by kernel_rfl) (fun _ _ _ h => h) (Or.inr ⟨by rfl, rfl⟩) (by exact hHeld) ?_
          try simp only [Act.put, List.setIfInBounds_toArray, List.set_cons_zero, List.set_cons_succ]
          refine wpAnyH_take (i := 29) (oi := { dst := some 43, op := Op.move (Operand.tmp 0), type := 23, pos := _, after := #[{ on := 23, ground := Ground.guard }], guard := some (23, true) }) (v := undef) rfl (by kernel_rfl) (by kernel_rfl) (by kernel_rfl) (fun _ _ _ h => h) (Or.inr ⟨by rfl, rfl⟩) (by exact hHeld) ?_
          try simp only [Act.put, List.setIfInBounds_toArray, List.set_cons_zero, List.set_cons_succ]
          refine wpAnyH_take (i := 30) (oi := { dst := some 44, op := Op.nilCheck (Operand.tmp 43), type := 0, pos := _, after := #[{ on := 29, ground := Ground.data }, { on := 23, ground := Ground.guard }], guard := some (23, true) }) (v := undef) rfl (by kernel_rfl) (by kernel_rfl) (by kernel_rfl) (fun _ _ _ h => h) (Or.inr ⟨by rfl, rfl⟩) (by exact hHeld) ?_
          try simp only [Act.put, List.setIfInBounds_toArray, List.set_cons_zero, List.set_cons_succ]
          refine wpAnyH_take (i := 31) (oi := { dst := some 45, op := Op.fieldAddr 60 (Operand.tmp 44) 1, type := 0, pos := _, after := #[{ on := 30, ground := Ground.data }, { on := 23, ground := Ground.guard }], guard := some (23, true) }) (v := undef) rfl (by kernel_rfl) (by kernel_rfl) (by kernel_rfl) (fun _ _ _ h => h) (Or.inr ⟨by rfl, rfl⟩) (by exact hHeld) ?_
          try simp only [Act.put, List.setIfInBounds_toArray, List.set_cons_zero, List.set_cons_succ]
          refine wpAnyH_take (i := 32) (oi := { dst := some 46, op := Op.load 3 (Operand.tmp 45), type := 3, pos := _, after := #[{ on := 31, ground := Ground.data }, { on := 23, ground := Ground.guard }], guard := some (23, true) }) (v := undef) rfl (by kernel_rfl) (by kernel_rfl) (by kernel_rfl) (fun _ _ _ h => h) (Or.inr ⟨by rfl, rfl⟩) (by exact hHeld) ?_
          try simp only [Act.put, List.setIfInBounds_toArray, List.set_cons_zero, List.set_cons_succ]
          refine wpAnyH_take (i := 33) (oi := { dst := some 47, op := Op.binOp BinOp.lss 3 (Operand.tmp 42) (Operand.tmp 46) 3, type := 4, pos := _, after := #[{ on := 28, ground := Ground.data }, { on := 32, ground := Ground.data }, { on := 23, ground := Ground.guard }], guard := some (23, true) }) (v := undef) rfl (by kernel_rfl) (by kernel_rfl) (by kernel_rfl) (fun _ _ _ h => h) (Or.inr ⟨by rfl, rfl⟩) (by exact hHeld) ?_
          try simp only [Act.put, List.setIfInBounds_toArray, List.set_cons_zero, List.set_cons_succ]
          refine wpAnyH_take (i := 34) (oi := { dst := some 48, op := Op.pick (Operand.tmp 37) (Operand.tmp 47) (Operand.const (Value.bool false)), type := 4, pos := _, after := #[{ on := 23, ground := Ground.data }, { on := 33, ground := Ground.data }], guard := none }) (v := ?_) rfl (by kernel_rfl) (by kernel_rfl) (by kernel_rfl) (fun _ _ _ h => h) (Or.inl ⟨by rfl, ?_⟩) (by exact hHeld) ?_
          rotate_left
          · (intro w hSw; (try dsimp only at hSw); go_simp <;> with_reducible rfl)
          try simp only [Act.put, List.setIfInBounds_toArray, List.set_cons_zero, List.set_cons_succ]
          refine wpAnyH_done (by kernel_rfl) ?_ _
          go_wp2_with fail
          go_meet
          exact ⟨by rw [hgo], hb3'⟩
        | false =>
          have hgo : goes t es ⟨mf, mt, mk, ns, bs⟩ = decide ((tl : Int) < room) := by rw [HGO.out]; rfl
          refine wp_region_held_drew (S := fun w' => w'.cell? ⟨X, 0, none⟩ = some (.int .i64 mf) ∧ w'.cell? ⟨X, 1, none⟩ = some (.int .i64 mt) ∧ w'.cell? ⟨a, 1, none⟩ = some (.int .i64 room) ∧ w'.cell? ⟨a, 2, none⟩ = some (.slice ao2 tl cap2) ∧ w'.cell? ⟨a, 3, none⟩ = some (.map (some mb)) ∧ (Instr.lookup 58 (.map (some mb)) (keyV (way mf mt)) false).run Try.prog w' = .ok (.bool false) w') (by kernel_rfl) ⟨hx0, hx1, ha1, ha2, ha3, HC.out _ (by exact below_drew (Below.refl W.heap.size W) 1)⟩ (fun hHeld => ?_)
          refine wpAnyH_take (i := 0) (oi := { dst := some 14, op := Op.move (Operand.tmp 0), type := 23, pos := _, after := #[], guard := none }) (v := ?_) rfl (by kernel_rfl) (by kernel_rfl) (by kernel_rfl) (fun _ _ _ h => h) (Or.inl ⟨by rfl, ?_⟩) (by exact hHeld) ?_
          rotate_left
          · (intro w hSw; (try dsimp only at hSw); go_simp <;> with_reducible rfl)
          try simp only [Act.put, List.setIfInBounds_toArray, List.set_cons_zero, List.set_cons_succ]
          refine wpAnyH_take (i := 1) (oi := { dst := some 15, op := Op.fieldAddr 32 (Operand.tmp 7) 0, type := 0, pos := _, after := #[], guard := none }) (v := ?_) rfl (by kernel_rfl) (by kernel_rfl) (by kernel_rfl) (fun _ _ _ h => h) (Or.inl ⟨by rfl, ?_⟩) (by exact hHeld) ?_
          rotate_left
          · (intro w hSw; (try dsimp only at hSw); go_simp <;> with_reducible rfl)
          try simp only [Act.put, List.setIfInBounds_toArray, List.set_cons_zero, List.set_cons_succ]
          refine wpAnyH_take (i := 2) (oi := { dst := some 16, op := Op.load 3 (Operand.tmp 15), type := 3, pos := _, after := #[{ on := 1, ground := Ground.data }], guard := none }) (v := ?_) rfl (by kernel_rfl) (by kernel_rfl) (by kernel_rfl) (fun _ _ _ h => h) (Or.inl ⟨by rfl, ?_⟩) (by exact hHeld) ?_
          rotate_left
          · (intro w hSw; (try dsimp only at hSw); go_simp <;> with_reducible rfl)
          try simp only [Act.put, List.setIfInBounds_toArray, List.set_cons_zero, List.set_cons_succ]
          refine wpAnyH_ready (rs := [3]) (by kernel_rfl) (by simp) ?_
          refine AllReadyH.cons (o := { dst := some 17, op := Op.call { callee := Callee.value (Operand.func 25), args := #[Operand.tmp 14, Operand.tmp 16], argTypes := #[23, 3] }, type := 4, pos := _, after := #[{ on := 0, ground := Ground.data }, { on := 2, ground := Ground.data }], guard := none }) rfl (fun K hK => ?_) AllReadyH.nil
          go_simp
          refine (HF.out _ (by exact below_drew (Below.refl W.heap.size W) 1)).mono ?_
          rintro e w1 ⟨rfl, rfl⟩
          go_wp2_with fail
          refine hK.out _ _ hHeld (fun hHeld => ?_)
          clear hK K
          try simp only [Act.put, List.setIfInBounds_toArray, List.set_cons_zero, List.set_cons_succ]
          refine wpAnyH_take (i := 4) (oi := { dst := some 18, op := Op.move (Operand.tmp 17), type := 4, pos := _, after := #[{ on := 3, ground := Ground.data }, { on := 3, ground := Ground.chain }], guard := none }) (v := ?_) rfl (by kernel_rfl) (by kernel_rfl) (by kernel_rfl) (fun _ _ _ h => h) (Or.inl ⟨by rfl, ?_⟩) (by exact hHeld) ?_
          rotate_left
          · (intro w hSw; (try dsimp only at hSw); go_simp <;> with_reducible rfl)
          try simp only [Act.put, List.setIfInBounds_toArray, List.set_cons_zero, List.set_cons_succ]
          refine wpAnyH_take (i := 5) (oi := { dst := some 19, op := Op.move (Operand.tmp 0), type := 23, pos := _, after := #[{ on := 4, ground := Ground.guard }], guard := some (4, true) }) (v := ?_) rfl (by kernel_rfl) (by kernel_rfl) (by kernel_rfl) (fun _ _ _ h => h) (Or.inl ⟨by rfl, ?_⟩) (by exact hHeld) ?_
          rotate_left
          · (intro w hSw; (try dsimp only at hSw); go_simp <;> with_reducible rfl)
          try simp only [Act.put, List.setIfInBounds_toArray, List.set_cons_zero, List.set_cons_succ]
          refine wpAnyH_take (i := 6) (oi := { dst := some 20, op := Op.fieldAddr 32 (Operand.tmp 7) 1, type := 0, pos := _, after := #[{ on := 4, ground := Ground.guard }], guard := some (4, true) }) (v := ?_) rfl (by kernel_rfl) (by kernel_rfl) (by kernel_rfl) (fun _ _ _ h => h) (Or.inl ⟨by rfl, ?_⟩) (by exact hHeld) ?_
          rotate_left
          · (intro w hSw; (try dsimp only at hSw); go_simp <;> with_reducible rfl)
          try simp only [Act.put, List.setIfInBounds_toArray, List.set_cons_zero, List.set_cons_succ]
          refine wpAnyH_take (i := 7) (oi := { dst := some 21, op := Op.load 3 (Operand.tmp 20), type := 3, pos := _, after := #[{ on := 6, ground := Ground.data }, { on := 4, ground := Ground.guard }], guard := some (4, true) }) (v := ?_) rfl (by kernel_rfl) (by kernel_rfl) (by kernel_rfl) (fun _ _ _ h => h) (Or.inl ⟨by rfl, ?_⟩) (by exact hHeld) ?_
          rotate_left
          · (intro w hSw; (try dsimp only at hSw); go_simp <;> with_reducible rfl)
          try simp only [Act.put, List.setIfInBounds_toArray, List.set_cons_zero, List.set_cons_succ]
          refine wpAnyH_ready (rs := [8]) (by kernel_rfl) (by simp) ?_
          refine AllReadyH.cons (o := { dst := some 22, op := Op.call { callee := Callee.value (Operand.func 25), args := #[Operand.tmp 19, Operand.tmp 21], argTypes := #[23, 3] }, type := 4, pos := _, after := #[{ on := 5, ground := Ground.data }, { on := 7, ground := Ground.data }, { on := 4, ground := Ground.chain }, { on := 4, ground := Ground.guard }], guard := some (4, true) }) rfl (fun K hK => ?_) AllReadyH.nil
          go_simp
          refine (HTO.out _ (by exact below_drew (Below.refl W.heap.size W) 1)).mono ?_
          rintro e w1 ⟨rfl, rfl⟩
          go_wp2_with fail
          refine hK.out _ _ hHeld (fun hHeld => ?_)
          clear hK K
          try simp only [Act.put, List.setIfInBounds_toArray, List.set_cons_zero, List.set_cons_succ]
          refine wpAnyH_take (i := 9) (oi := { dst := some 23, op := Op.pick (Operand.tmp 18) (Operand.tmp 22) (Operand.const (Value.bool false)), type := 4, pos := _, after := #[{ on := 4, ground := Ground.data }, { on := 8, ground := Ground.data }], guard := none }) (v := ?_) rfl (by kernel_rfl) (by kernel_rfl) (by kernel_rfl) (fun _ _ _ h => h) (Or.inl ⟨by rfl, ?_⟩) (by exact hHeld) ?_
          rotate_left
          · (intro w hSw; (try dsimp only at hSw); go_simp <;> with_reducible rfl)
          try simp only [Act.put, List.setIfInBounds_toArray, List.set_cons_zero, List.set_cons_succ]
          refine wpAnyH_take (i := 10) (oi := { dst := some 24, op := Op.move (Operand.tmp 23), type := 4, pos := _, after := #[{ on := 9, ground := Ground.data }, { on := 8, ground := Ground.chain }], guard := none }) (v := ?_) rfl (by kernel_rfl) (by kernel_rfl) (by kernel_rfl) (fun _ _ _ h => h) (Or.inl ⟨by rfl, ?_⟩) (by exact hHeld) ?_
          rotate_left
          · (intro w hSw; (try dsimp only at hSw); go_simp <;> with_reducible rfl)
          try simp only [Act.put, List.setIfInBounds_toArray, List.set_cons_zero, List.set_cons_succ]
          refine wpAnyH_take (i := 11) (oi := { dst := some 25, op := Op.move (Operand.tmp 0), type := 23, pos := _, after := #[{ on := 10, ground := Ground.guard }], guard := some (10, true) }) (v := ?_) rfl (by kernel_rfl) (by kernel_rfl) (by kernel_rfl) (fun _ _ _ h => h) (Or.inl ⟨by rfl, ?_⟩) (by exact hHeld) ?_
          rotate_left
          · (intro w hSw; (try dsimp only at hSw); go_simp <;> with_reducible rfl)
          try simp only [Act.put, List.setIfInBounds_toArray, List.set_cons_zero, List.set_cons_succ]
          refine wpAnyH_take (i := 12) (oi := { dst := some 26, op := Op.nilCheck (Operand.tmp 25), type := 0, pos := _, after := #[{ on := 11, ground := Ground.data }, { on := 10, ground := Ground.guard }], guard := some (10, true) }) (v := ?_) rfl (by kernel_rfl) (by kernel_rfl) (by kernel_rfl) (fun _ _ _ h => h) (Or.inl ⟨by rfl, ?_⟩) (by exact hHeld) ?_
          rotate_left
          · (intro w hSw; (try dsimp only at hSw); go_simp <;> with_reducible rfl)
          try simp only [Act.put, List.setIfInBounds_toArray, List.set_cons_zero, List.set_cons_succ]
          refine wpAnyH_take (i := 13) (oi := { dst := some 27, op := Op.fieldAddr 60 (Operand.tmp 26) 3, type := 0, pos := _, after := #[{ on := 12, ground := Ground.data }, { on := 10, ground := Ground.guard }], guard := some (10, true) }) (v := ?_) rfl (by kernel_rfl) (by kernel_rfl) (by kernel_rfl) (fun _ _ _ h => h) (Or.inl ⟨by rfl, ?_⟩) (by exact hHeld) ?_
          rotate_left
          · (intro w hSw; (try dsimp only at hSw); go_simp <;> with_reducible rfl)
          try simp only [Act.put, List.setIfInBounds_toArray, List.set_cons_zero, List.set_cons_succ]
          refine wpAnyH_take (i := 14) (oi := { dst := some 28, op := Op.load 58 (Operand.tmp 27), type := 58, pos := _, after := #[{ on := 13, ground := Ground.data }, { on := 10, ground := Ground.guard }], guard := some (10, true) }) (v := ?_) rfl (by kernel_rfl) (by kernel_rfl) (by kernel_rfl) (fun _ _ _ h => h) (Or.inl ⟨by rfl, ?_⟩) (by exact hHeld) ?_
          rotate_left
          · (intro w hSw; (try dsimp only at hSw); go_simp <;> with_reducible rfl)
          try simp only [Act.put, List.setIfInBounds_toArray, List.set_cons_zero, List.set_cons_succ]
          refine wpAnyH_take (i := 15) (oi := { dst := some 29, op := Op.fieldAddr 32 (Operand.tmp 7) 0, type := 0, pos := _, after := #[{ on := 10, ground := Ground.guard }], guard := some (10, true) }) (v := ?_) rfl (by kernel_rfl) (by kernel_rfl) (by kernel_rfl) (fun _ _ _ h => h) (Or.inl ⟨by rfl, ?_⟩) (by exact hHeld) ?_
          rotate_left
          · (intro w hSw; (try dsimp only at hSw); go_simp <;> with_reducible rfl)
          try simp only [Act.put, List.setIfInBounds_toArray, List.set_cons_zero, List.set_cons_succ]
          refine wpAnyH_take (i := 16) (oi := { dst := some 30, op := Op.load 3 (Operand.tmp 29), type := 3, pos := _, after := #[{ on := 15, ground := Ground.data }, { on := 10, ground := Ground.guard }], guard := some (10, true) }) (v := ?_) rfl (by kernel_rfl) (by kernel_rfl) (by kernel_rfl) (fun _ _ _ h => h) (Or.inl ⟨by rfl, ?_⟩) (by exact hHeld) ?_
          rotate_left
          · (intro w hSw; (try dsimp only at hSw); go_simp <;> with_reducible rfl)
          try simp only [Act.put, List.setIfInBounds_toArray, List.set_cons_zero, List.set_cons_succ]
          refine wpAnyH_take (i := 17) (oi := { dst := some 31, op := Op.fieldAddr 32 (Operand.tmp 7) 1, type := 0, pos := _, after := #[{ on := 10, ground := Ground.guard }], guard := some (10, true) }) (v := ?_) rfl (by kernel_rfl) (by kernel_rfl) (by kernel_rfl) (fun _ _ _ h => h) (Or.inl ⟨by rfl, ?_⟩) (by exact hHeld) ?_
          rotate_left
          · (intro w hSw; (try dsimp only at hSw); go_simp <;> with_reducible rfl)
          try simp only [Act.put, List.setIfInBounds_toArray, List.set_cons_zero, List.set_cons_succ]
          refine wpAnyH_take (i := 18) (oi := { dst := some 32, op := Op.load 3 (Operand.tmp 31), type := 3, pos := _, after := #[{ on := 17, ground := Ground.data }, { on := 10, ground := Ground.guard }], guard := some (10, true) }) (v := ?_) rfl (by kernel_rfl) (by kernel_rfl) (by kernel_rfl) (fun _ _ _ h => h) (Or.inl ⟨by rfl, ?_⟩) (by exact hHeld) ?_
          rotate_left
          · (intro w hSw; (try dsimp only at hSw); go_simp <;> with_reducible rfl)
          try simp only [Act.put, List.setIfInBounds_toArray, List.set_cons_zero, List.set_cons_succ]
          refine wpAnyH_ready (rs := [19]) (by kernel_rfl) (by simp) ?_
          refine AllReadyH.cons (o := { dst := some 33, op := Op.call { callee := Callee.value (Operand.func 26), args := #[Operand.tmp 30, Operand.tmp 32], argTypes := #[3, 3] }, type := 61, pos := _, after := #[{ on := 16, ground := Ground.data }, { on := 18, ground := Ground.data }, { on := 10, ground := Ground.chain }, { on := 10, ground := Ground.guard }], guard := some (10, true) }) rfl (fun K hK => ?_) AllReadyH.nil
          go_simp
          refine (way_any mf mt _).mono ?_
          rintro e w3 ⟨rfl, hb3⟩
          have hb3' : Below W.heap.size W w3 := ⟨hb3.os, hb3.tape, hb3.output, hb3.size, hb3.block⟩
          have hcl := HC.out _ hb3'
          go_wp2_with fail
          refine hK.out _ _ ⟨cell_later hb3 hHeld.1, cell_later hb3 hHeld.2.1, cell_later hb3 hHeld.2.2.1, cell_later hb3 hHeld.2.2.2.1, cell_later hb3 hHeld.2.2.2.2.1, hcl⟩ (fun hHeld => ?_)
          clear hK K
          try simp only [Act.put, List.setIfInBounds_toArray, List.set_cons_zero, List.set_cons_succ]
          refine wpAnyH_take (i := 20) (oi := { dst := some 34, op := Op.lookup 58 (Operand.tmp 28) (Operand.tmp 33) false, type := 4, pos := _, after := #[{ on := 14, ground := Ground.data }, { on := 19, ground := Ground.data }, { on := 10, ground := Ground.guard }], guard := some (10, true) }) (v := ?_) rfl (by kernel_rfl) (by kernel_rfl) (by kernel_rfl) (fun _ _ _ h => h) (Or.inl ⟨by rfl, ?_⟩) (by exact hHeld) ?_
          rotate_left
          · (intro w hSw; (try dsimp only at hSw); go_simp <;> with_reducible rfl)
          try simp only [Act.put, List.setIfInBounds_toArray, List.set_cons_zero, List.set_cons_succ]
          refine wpAnyH_take (i := 21) (oi := { dst := some 35, op := Op.unOp UnOp.not 4 (Operand.tmp 34), type := 4, pos := _, after := #[{ on := 20, ground := Ground.data }, { on := 10, ground := Ground.guard }], guard := some (10, true) }) (v := ?_) rfl (by kernel_rfl) (by kernel_rfl) (by kernel_rfl) (fun _ _ _ h => h) (Or.inl ⟨by rfl, ?_⟩) (by exact hHeld) ?_
          rotate_left
          · (intro w hSw; (try dsimp only at hSw); go_simp <;> with_reducible rfl)
          try simp only [Act.put, List.setIfInBounds_toArray, List.set_cons_zero, List.set_cons_succ]
          refine wpAnyH_take (i := 22) (oi := { dst := some 36, op := Op.pick (Operand.tmp 24) (Operand.tmp 35) (Operand.const (Value.bool false)), type := 4, pos := _, after := #[{ on := 10, ground := Ground.data }, { on := 21, ground := Ground.data }], guard := none }) (v := ?_) rfl (by kernel_rfl) (by kernel_rfl) (by kernel_rfl) (fun _ _ _ h => h) (Or.inl ⟨by rfl, ?_⟩) (by exact hHeld) ?_
          rotate_left
          · (intro w hSw; (try dsimp only at hSw); go_simp <;> with_reducible rfl)
          try simp only [Act.put, List.setIfInBounds_toArray, List.set_cons_zero, List.set_cons_succ]
          refine wpAnyH_take (i := 23) (oi := { dst := some 37, op := Op.move (Operand.tmp 36), type := 4, pos := _, after := #[{ on := 22, ground := Ground.data }, { on := 19, ground := Ground.chain }], guard := none }) (v := ?_) rfl (by kernel_rfl) (by kernel_rfl) (by kernel_rfl) (fun _ _ _ h => h) (Or.inl ⟨by rfl, ?_⟩) (by exact hHeld) ?_
          rotate_left
          · (intro w hSw; (try dsimp only at hSw); go_simp <;> with_reducible rfl)
          try simp only [Act.put, List.setIfInBounds_toArray, List.set_cons_zero, List.set_cons_succ]
          refine wpAnyH_take (i := 24) (oi := { dst := some 38, op := Op.move (Operand.tmp 0), type := 23, pos := _, after := #[{ on := 23, ground := Ground.guard }], guard := some (23, true) }) (v := ?_) rfl (by kernel_rfl) (by kernel_rfl) (by kernel_rfl) (fun _ _ _ h => h) (Or.inl ⟨by rfl, ?_⟩) (by exact hHeld) ?_
          rotate_left
          · (intro w hSw; (try dsimp only at hSw); go_simp <;> with_reducible rfl)
          try simp only [Act.put, List.setIfInBounds_toArray, List.set_cons_zero, List.set_cons_succ]
          refine wpAnyH_take (i := 25) (oi := { dst := some 39, op := Op.nilCheck (Operand.tmp 38), type := 0, pos := _, after := #[{ on := 24, ground := Ground.data }, { on := 23, ground := Ground.guard }], guard := some (23, true) }) (v := ?_) rfl (by kernel_rfl) (by kernel_rfl) (by kernel_rfl) (fun _ _ _ h => h) (Or.inl ⟨by rfl, ?_⟩) (by exact hHeld) ?_
          rotate_left
          · (intro w hSw; (try dsimp only at hSw); go_simp <;> with_reducible rfl)
          try simp only [Act.put, List.setIfInBounds_toArray, List.set_cons_zero, List.set_cons_succ]
          refine wpAnyH_take (i := 26) (oi := { dst := some 40, op := Op.fieldAddr 60 (Operand.tmp 39) 2, type := 0, pos := _, after := #[{ on := 25, ground := Ground.data }, { on := 23, ground := Ground.guard }], guard := some (23, true) }) (v := ?_) rfl (by kernel_rfl) (by kernel_rfl) (by kernel_rfl) (fun _ _ _ h => h) (Or.inl ⟨by rfl, ?_⟩) (by exact hHeld) ?_
          rotate_left
          · (intro w hSw; (try dsimp only at hSw); go_simp <;> with_reducible rfl)
          try simp only [Act.put, List.setIfInBounds_toArray, List.set_cons_zero, List.set_cons_succ]
          refine wpAnyH_take (i := 27) (oi := { dst := some 41, op := Op.load 45 (Operand.tmp 40), type := 45, pos := _, after := #[{ on := 26, ground := Ground.data }, { on := 23, ground := Ground.guard }], guard := some (23, true) }) (v := ?_) rfl (by kernel_rfl) (by kernel_rfl) (by kernel_rfl) (fun _ _ _ h => h) (Or.inl ⟨by rfl, ?_⟩) (by exact hHeld) ?_
          rotate_left
          · (intro w hSw; (try dsimp only at hSw); go_simp <;> with_reducible rfl)
          try simp only [Act.put, List.setIfInBounds_toArray, List.set_cons_zero, List.set_cons_succ]
          refine wpAnyH_take (i := 28) (oi := { dst := some 42, op := Op.call { callee := Callee.builtin Builtin.len, args := #[Operand.tmp 41], argTypes := #[45] }, type := 3, pos := _, after := #[{ on := 27, ground := Ground.data }, { on := 23, ground := Ground.guard }], guard := some (23, true) }) (v := ?_) rfl (by kernel_rfl) (by kernel_rfl) (by kernel_rfl) (fun _ _ _ h => h) (Or.inl ⟨by rfl, ?_⟩) (by exact hHeld) ?_
          rotate_left
          · (intro w hSw; (try dsimp only at hSw); go_simp <;> with_reducible rfl)
          try simp only [Act.put, List.setIfInBounds_toArray, List.set_cons_zero, List.set_cons_succ]
          refine wpAnyH_take (i := 29) (oi := { dst := some 43, op := Op.move (Operand.tmp 0), type := 23, pos := _, after := #[{ on := 23, ground := Ground.guard }], guard := some (23, true) }) (v := ?_) rfl (by kernel_rfl) (by kernel_rfl) (by kernel_rfl) (fun _ _ _ h => h) (Or.inl ⟨by rfl, ?_⟩) (by exact hHeld) ?_
          rotate_left
          · (intro w hSw; (try dsimp only at hSw); go_simp <;> with_reducible rfl)
          try simp only [Act.put, List.setIfInBounds_toArray, List.set_cons_zero, List.set_cons_succ]
          refine wpAnyH_take (i := 30) (oi := { dst := some 44, op := Op.nilCheck (Operand.tmp 43), type := 0, pos := _, after := #[{ on := 29, ground := Ground.data }, { on := 23, ground := Ground.guard }], guard := some (23, true) }) (v := ?_) rfl (by kernel_rfl) (by kernel_rfl) (by kernel_rfl) (fun _ _ _ h => h) (Or.inl ⟨by rfl, ?_⟩) (by exact hHeld) ?_
          rotate_left
          · (intro w hSw; (try dsimp only at hSw); go_simp <;> with_reducible rfl)
          try simp only [Act.put, List.setIfInBounds_toArray, List.set_cons_zero, List.set_cons_succ]
          refine wpAnyH_take (i := 31) (oi := { dst := some 45, op := Op.fieldAddr 60 (Operand.tmp 44) 1, type := 0, pos := _, after := #[{ on := 30, ground := Ground.data }, { on := 23, ground := Ground.guard }], guard := some (23, true) }) (v := ?_) rfl (by kernel_rfl) (by kernel_rfl) (by kernel_rfl) (fun _ _ _ h => h) (Or.inl ⟨by rfl, ?_⟩) (by exact hHeld) ?_
          rotate_left
          · (intro w hSw; (try dsimp only at hSw); go_simp <;> with_reducible rfl)
          try simp only [Act.put, List.setIfInBounds_toArray, List.set_cons_zero, List.set_cons_succ]
          refine wpAnyH_take (i := 32) (oi := { dst := some 46, op := Op.load 3 (Operand.tmp 45), type := 3, pos := _, after := #[{ on := 31, ground := Ground.data }, { on := 23, ground := Ground.guard }], guard := some (23, true) }) (v := ?_) rfl (by kernel_rfl) (by kernel_rfl) (by kernel_rfl) (fun _ _ _ h => h) (Or.inl ⟨by rfl, ?_⟩) (by exact hHeld) ?_
          rotate_left
          · (intro w hSw; (try dsimp only at hSw); go_simp <;> with_reducible rfl)
          try simp only [Act.put, List.setIfInBounds_toArray, List.set_cons_zero, List.set_cons_succ]
          refine wpAnyH_take (i := 33) (oi := { dst := some 47, op := Op.binOp BinOp.lss 3 (Operand.tmp 42) (Operand.tmp 46) 3, type := 4, pos := _, after := #[{ on := 28, ground := Ground.data }, { on := 32, ground := Ground.data }, { on := 23, ground := Ground.guard }], guard := some (23, true) }) (v := ?_) rfl (by kernel_rfl) (by kernel_rfl) (by kernel_rfl) (fun _ _ _ h => h) (Or.inl ⟨by rfl, ?_⟩) (by exact hHeld) ?_
          rotate_left
          · (intro w hSw; (try dsimp only at hSw); go_simp <;> with_reducible rfl)
          try simp only [Act.put, List.setIfInBounds_toArray, List.set_cons_zero, List.set_cons_succ]
          refine wpAnyH_take (i := 34) (oi := { dst := some 48, op := Op.pick (Operand.tmp 37) (Operand.tmp 47) (Operand.const (Value.bool false)), type := 4, pos := _, after := #[{ on := 23, ground := Ground.data }, { on := 33, ground := Ground.data }], guard := none }) (v := ?_) rfl (by kernel_rfl) (by kernel_rfl) (by kernel_rfl) (fun _ _ _ h => h) (Or.inl ⟨by rfl, ?_⟩) (by exact hHeld) ?_
          rotate_left
          · (intro w hSw; (try dsimp only at hSw); go_simp <;> with_reducible rfl)
          try simp only [Act.put, List.setIfInBounds_toArray, List.set_cons_zero, List.set_cons_succ]
          refine wpAnyH_done (by kernel_rfl) ?_ _
          go_wp2_with fail
          go_meet
          exact ⟨by rw [hgo], hb3'⟩
      case rest =>
        obtain ⟨rfl, hbx⟩ := hcut
        have HBC := Lib.hid hbx; clear hbx
        generalize hgo : goes t es ⟨mf, mt, mk, ns, bs⟩ = go at *
        have HGO := Lib.hid hgo; clear hgo
        clear ha1 ha2 ha3 hx0 hx1
        cases go with
        | false =>
          go_wp2_with fail
          go_roundw
          case rel =>
            have h1 : Below wr.heap.size wr wc := by rw [HXX.out]; exact HBW.out.trans (HBC.out.mono (by rw [HWS.out]; omega))
            have hsx := HXX.out
            exact ⟨k + 1, t, g, mb, by omega, by go_num, by rw [HNX.out, ← HT.out]; unfold sendOne; rw [if_neg (by rw [HGO.out]; decide)], rfl, HNT.out.below h1, HBL.out.trans (h1.mono (by omega)), by have := h1.size; omega, Lib.hid (HKW.out.trans (KeepsD.ofBelow h1))⟩
          case measure => simp [intOf]; omega
        | true =>
          have hNc := HNW.out.below HBC.out
          have HNC := Lib.hid hNc
          obtain ⟨⟨vv, ps, k1, k2, k3, k4⟩, kc, k6, k7⟩ := hNc
          obtain ⟨ao2, cap2, rfl, _, _⟩ := row_shape k2
          have ha2 : wc.cell? ⟨a, 2, none⟩ = some (.slice ao2 t.l.length cap2) := by rw [cell_heap k1]; rfl
          have hbx : wc.heap[X]? = some (.cells #[.int .i64 mf, .int .i64 mt, .int .i64 mk, .slice ao ns.length cN, .slice bo bs.length cB] 32 (0, 0)) := heap_below HBC.out (by rw [HWS.out]; omega) HBX.out
          have hx0 : wc.cell? ⟨X, 0, none⟩ = some (.int .i64 mf) := by rw [cell_heap hbx]; rfl
          have hx1 : wc.cell? ⟨X, 1, none⟩ = some (.int .i64 mt) := by rw [cell_heap hbx]; rfl
          have hx2 : wc.cell? ⟨X, 2, none⟩ = some (.int .i64 mk) := by rw [cell_heap hbx]; rfl
          have hx3 : wc.cell? ⟨X, 3, none⟩ = some (.slice ao ns.length cN) := by rw [cell_heap hbx]; rfl
          have hx4 : wc.cell? ⟨X, 4, none⟩ = some (.slice bo bs.length cB) := by rw [cell_heap hbx]; rfl
          have hf2 := free_heap k1 2
          have HK1 : Hid (wc.heap[a]? = some (netObj t (.slice ao2 t.l.length cap2) mb)) := Lib.hid k1
          have HK2 := Lib.hid k2; have HK3 := Lib.hid k3; have HK4 := Lib.hid k4
          have HAP := Lib.hid HNC.out.apart
          have h1c : Below wr.heap.size wr wc := by rw [HXX.out]; exact HBW.out.trans (HBC.out.mono (by rw [HWS.out]; omega))
          have HIC := Lib.hid (HI.out.below h1c)
          have HCP : Hid (∀ w', Below wc.heap.size wc w' → Calls Try.prog 27 #[.agg #[.int .i64 mf, .int .i64 mt, .int .i64 mk, .slice ao ns.length cN, .slice bo bs.length cB]] w' fun e w'' => ∃ v u, e = .returned (.agg #[.int .i64 mf, .int .i64 mt, .int .i64 mk, v, u]) ∧ OwnM w'' w'.heap.size ⟨mf, mt, mk, ns, bs⟩ v u ∧ Below w'.heap.size w' w'') := Lib.hid fun w' hb => copiedM_any ⟨mf, mt, mk, ns, bs⟩ _ _ w' (HIC.out.below hb) HFEW.out
          have hbytes : t.l.length + 1 ≤ 1000000000 := by omega
          have HSC : Hid (base ≤ wc.heap.size) := Lib.hid (by have := h1c.size; have := HXX.out; omega)
          clear k1 k2 k3 k4 hbx kc k6 k7
          go_wp2_with fail
          generalize htn : t.l.length = tn at *
          have HTN := Lib.hid htn; clear htn
          go_region_law (first
            | (refine step_append_mv (by rfl) (.tmp 53) (.tmp 56) (by rfl) base _ ps tn (by rfl) (by exact (HW.out _ rfl).1) w5.heap.size ⟨⟨mf, mt, mk, ns, bs⟩, .slice av ns.length cv, .slice bv bs.length cw⟩ (by exact ⟨rfl, rfl⟩) (by rfl) (by exact (HW.out _ rfl).2.2.1) hbytes (by exact Nat.le_trans HB5.out (Nat.le_of_eq (HW.out _ rfl).2.2.2.symm)) ?_; intro g2 cap3 w9 hown9 hgr9 hat9; have hA9 : w9.heap[a]? = some (netObj t (.slice ao2 tn cap2) mb) := (hgr9.block a (lt_of_heap (HW.out _ rfl).2.1) (fun e => HAP.out.2.1 (by rw [← HK3.out]; exact e.symm))).trans (HW.out _ rfl).2.1; have hcb9 : w9.cell? ⟨a, 2, none⟩ = some (.slice ao2 tn cap2) := (cell_heap hA9 2).trans rfl; have hfb9 := free_heap hA9 2)
            | (go_simp; go_at_call 27; refine (HCP.out _ (by exact below_drew (Below.refl wc.heap.size wc) 1)).mono ?_; rintro e w5 ⟨v5, u5, rfl, hv5, hb5⟩; obtain ⟨⟨av, cv, rfl, _⟩, ⟨bv, cw, rfl, _⟩⟩ := hv5.is HFEW.out; try dsimp only; have hb5' : Below wc.heap.size wc w5 := ⟨hb5.os, hb5.tape, hb5.output, hb5.size, hb5.block⟩; have ha25 := cell_later hb5' ha2; have ha25a := cell_later ((Below.refl w5.heap.size w5).alloc (Nat.le_refl _) (.cells #[.int .i64 mf, .int .i64 mt, .int .i64 mk, .slice av ns.length cv, .slice bv bs.length cw] 32)) ha25; have HW := Lib.hid (send_prep HK1.out (by rw [HTN.out]; exact HK2.out) hb5' ⟨mf, mt, mk, ns, bs⟩ (.slice av ns.length cv) (.slice bv bs.length cw)); rw [HTN.out] at HW; have HV5 := Lib.hid hv5; have HB5' := Lib.hid hb5'; have HB5 : Hid (base ≤ w5.heap.size + 1) := Lib.hid (by have := hb5'.size; have := HSC.out; omega); clear hb5 hv5 hb5'))
          all_goals
            have htn := HTN.out
            subst htn
            have hfin := send_fin HNC.out HK1.out HK3.out HK4.out HB5'.out ⟨mf, mt, mk, ns, bs⟩ (.slice av ns.length cv) (.slice bv bs.length cw) HV5.out ⟨rfl, rfl⟩ HSC.out (by rfl) (by rfl) (by rfl) (by rfl) hown9 hgr9 (by exact hat9) hA9
            have HF := Lib.hid hfin
            clear hfin hown9 hgr9 hat9 hA9 hcb9 hfb9 HW ha25 ha25a
            go_wp2_with fail
            go_roundw
            case rel =>
              obtain ⟨f1, f2, f3⟩ := HF.out
              have hsx := HXX.out
              refine ⟨k + 1, _, some g2, mb, by omega, by go_num, ?_, ?_, f1, ?_, ?_, Lib.hid (HKW.out.trans ((KeepsD.ofBelow h1c).trans (KeepsD.ofOnly f3 HNC.out.types)))⟩
              · rw [HNX.out, ← HT.out]; unfold sendOne; rw [if_pos HGO.out]
              · congr 1; simp; omega
              · refine (HBL.out.trans (h1c.mono (by omega))).trans (f3.below HSC.out ?_)
                intro j hj
                simp at hj
                rcases hj with rfl | hj
                · exact HNC.out.ge
                · exact HNC.out.gge j hj
              · exact Nat.le_trans HSC.out f3.size
            case measure => simp [intOf]; omega
    · obtain rfl : k = q := by omega
      rw [List.take_of_length_le (by rw [HQ.out]; exact Nat.le_refl _)] at ht
      subst ht
      go_wp2_with fail
      go_ret
      exact ⟨rfl, ⟨⟨g, mb, HNT.out⟩, HBL.out, hsz, HKW.out⟩⟩
end Go.Proofs.Ytmehgkbhpfcmpaa.G
