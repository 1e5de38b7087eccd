/-
  Sessions that were written are read.
-/
import Derived.Test.YtmlgggcdjknlfaaGood
import Derived.Deep.RegionLaw
namespace Go.Proofs.Ytmlgggcdjknlfaa
open Go.RowKit

/-- in the midst of reading: the reader, the sessions so far, the one that is read -/
structure GetMid (w W : World) (a b X : Nat) (g : Option Nat) (s : Ss) (rest : List UInt8) (x y z : Int) : Prop where
  sess : IsSess W b b g s
  rd : IsR W a (fun k => w.heap.size ≤ k ∧ k < a) rest false
  box : W.heap[X]? = some (.cells #[.int .i64 x, .int .i64 y, .int .i64 z] 54 (0, 0))
  below : Below w.heap.size w W
  ab : a < b
  wa : w.heap.size ≤ a
  gX : ∀ j, g = some j → j < X
  bX : b < X
section
variable {w W W' : World} {a b X : Nat} {g : Option Nat} {s : Ss} {rest rest' : List UInt8} {x y z : Int}
theorem GetMid.gge (h : GetMid w W a b X g s rest x y z) : ∀ j, g = some j → b ≤ j := fun j hj => (h.sess.glt j hj).1
theorem GetMid.read (h : GetMid w W a b X g s rest x y z) (ho : Only [a] W W') (hr : IsR W' a (fun k => w.heap.size ≤ k ∧ k < a) rest' false) : GetMid w W' a b X g s rest' x y z := by
  have h1 := h.ab; have h2 := h.bX; have h3 := h.wa
  refine ⟨h.sess.keep ho (by simp; omega) (fun j hj => by have := h.gge j hj; simp; omega), hr, ho.keeps h.box (by simp; omega), h.below.trans (ho.below h.below.size (by simpa using h3)), h1, h3, h.gX, h2⟩
theorem GetMid.put (h : GetMid w W a b X g s rest x y z) (i : Nat) (u : Value) (x' y' z' : Int) (hc : (#[Value.int .i64 x, .int .i64 y, .int .i64 z].setIfInBounds i u) = #[.int .i64 x', .int .i64 y', .int .i64 z']) : GetMid w (W.setCell ⟨X, i, none⟩ u) a b X g s rest x' y' z' := by
  have h1 := h.ab; have h2 := h.bX; have h3 := h.wa
  have ho : Only [X] W (W.setCell ⟨X, i, none⟩ u) := (Only.refl _ _).setCell (by simp) _
  refine ⟨h.sess.keep ho (by simp; omega) (fun j hj => by have := h.gX j hj; simp; omega), h.rd.keep ho (by simp; omega) (fun k hk => by simp; omega), ?_, h.below.trans (ho.below h.below.size (by simp; omega)), h1, h3, h.gX, h2⟩
  rw [← hc]
  exact heap_set h.box i u
/-- what stands when one more has been read -/
theorem GetMid.fin (h : GetMid w W a b X g s rest x y z) {v : Value} (k3 : v.ownBlock = g) {W1 w1 : World} (hW : W1.heap = (W.alloc (.cells #[.int .i64 x, .int .i64 y, .int .i64 z] 54)).heap) (wo : W1.os = W.os) (wt : W1.tape = W.tape) (wp : W1.output = W.output) {g2 cap2 : Nat} (hgr : W1.grownBy w1 v.ownBlock)
    (hown : w1.ownsRow b 54 3 (.slice (some ⟨g2, 0, none⟩) (s.l ++ [(⟨x, y, z⟩ : Se)]).length cap2) (s.l ++ [(⟨x, y, z⟩ : Se)]).length (row3 (s.l ++ [(⟨x, y, z⟩ : Se)])))
    (hat : v.ownBlock = some g2 ∨ g2 = W.heap.size + 1) (hA1 : w1.heap[b]? = some (.cells #[.int .i64 s.room, .int .i64 s.now, .int .i64 s.next, v] 52 (0, 0))) :
    IsSess (w1.setCell ⟨b, 3, none⟩ (.slice (some ⟨g2, 0, none⟩) (s.l.length + 1) cap2)) b b (some g2) { s with l := s.l ++ [⟨x, y, z⟩] } ∧
    IsR (w1.setCell ⟨b, 3, none⟩ (.slice (some ⟨g2, 0, none⟩) (s.l.length + 1) cap2)) a (fun k => w.heap.size ≤ k ∧ k < a) rest false ∧
    Below w.heap.size w (w1.setCell ⟨b, 3, none⟩ (.slice (some ⟨g2, 0, none⟩) (s.l.length + 1) cap2)) := by
  have q1 := h.ab; have q2 := h.bX; have q3 := h.wa
  have hbW := h.sess.lt
  have hga : g2 ≠ b := by
    rcases hat with hh | hh
    · intro e; subst e; exact h.sess.ne (k3 ▸ hh)
    · omega
  have ho : Only (b :: g.toList) W (w1.setCell ⟨b, 3, none⟩ (.slice (some ⟨g2, 0, none⟩) (s.l.length + 1) cap2)) :=
    ((only_heap ((Only.refl _ W).alloc _) hW wo wt wp).grown hgr (fun k hk => by rw [← k3, hk]; simp)).setCell (by simp) _
  have hge : ∀ k ∈ b :: g.toList, b ≤ k := by
    intro k hk
    simp at hk
    rcases hk with rfl | hk
    · exact Nat.le_refl _
    · exact h.gge k hk
  refine ⟨⟨⟨_, heap_set hA1 3 _, ?_, rfl⟩, Nat.le_refl _, by simpa using hga⟩, h.rd.keep ho (fun hm => by have := hge _ hm; omega) (fun k hk hm => by have := hge _ hm; omega), h.below.trans (ho.below h.below.size (fun k hk => by have := hge k hk; omega))⟩
  have := rows_only hown ((Only.refl [b] w1).setCell (p := ⟨b, 3, none⟩) (by simp) (.slice (some ⟨g2, 0, none⟩) (s.l.length + 1) cap2)) (fun j hj => by simp only [Value.ownBlock, Option.some.injEq] at hj; subst hj; simpa using hga)
  simpa using this
end

theorem putB_eq (s : Ss) : putB s = be8 s.room ++ (be8 s.now ++ (be8 s.next ++ (be8 (s.l.length : Int) ++ s.l.flatMap seB))) := by
  simp [putB, be8s]
theorem rows_next (l : List Se) (k : Nat) (hk : k < l.length) : (l.drop k).flatMap seB = be8 (l.getD k ⟨0, 0, 0⟩).id ++ (be8 (l.getD k ⟨0, 0, 0⟩).span ++ (be8 (l.getD k ⟨0, 0, 0⟩).till ++ (l.drop (k + 1)).flatMap seB)) := by
  have e : l.getD k ⟨0, 0, 0⟩ = l[k] := by simp [hk]
  rw [e, List.drop_eq_getElem_cons hk, List.flatMap_cons]
  generalize (l.drop (k + 1)).flatMap seB = m
  simp [seB, be8s]
theorem rows_mono {w : World} {base base' : Nat} {e : TypeId} {k : Nat} {v : Value} {n : Nat} {xs : List Value} (h : w.ownsRow base e k v n xs) (hb : base' ≤ base) : w.ownsRow base' e k v n xs := by
  refine ⟨h.1, ?_⟩
  rcases h.2 with h2 | ⟨g, cap, cur, rfl, hg, hh, r⟩
  · exact .inl h2
  · exact .inr ⟨g, cap, cur, rfl, Nat.le_trans hb hg, hh, r⟩

theorem prev_ge (l : List Se) (h : ∀ k, k < l.length → prevId l k < (l.getD k ⟨0, 0, 0⟩).id) : ∀ k, k ≤ l.length → 0 ≤ prevId l k := by
  intro k
  induction k with
  | zero => intro _; show (0 : Int) ≤ 0; omega
  | succ k ih =>
    intro hk
    have h1 := ih (by omega)
    have h2 := h k (by omega)
    have e : prevId l (k + 1) = (l.getD k ⟨0, 0, 0⟩).id := by unfold prevId; rw [if_neg (by omega)]; rfl
    omega
set_option maxHeartbeats 8000000 in
set_option maxRecDepth 100000 in
theorem get_put (s : Ss) (hg : Good s) (ao : Option Addr) (n c : Nat) (w : World) (h : IsB w ao n c (putB s)) :
    Calls Try.prog 17 #[.slice ao n c] w fun e w' => ∃ a g, e = .returned (.tuple #[.pointer (some ⟨a, 0, none⟩), .int .i64 0]) ∧ IsSess w' w.heap.size a g s ∧ Below w.heap.size w w' := by
  have hgood := Lib.hid hg
  have hlen : n = 32 + 24 * s.l.length := by rw [← h.len, putB_len]
  obtain ⟨r1, r2, n1, n2, x1, x2, hll, _, hfi⟩ := hg
  have HFI := Lib.hid hfi
  have hup : ∀ k, k < s.l.length → prevId s.l k < (s.l.getD k ⟨0, 0, 0⟩).id := hgood.out.up
  have HUP := Lib.hid hup
  have hn : n ≤ 1099511627776 := by omega
  have HRD := Lib.hid (read_any ao n c _ w h hn)
  have ez : (0 : Int) ≤ (s.l.length : Int) := by omega
  have ez2 : (s.l.length : Int) ≤ 64 := by omega
  have E0 : Hid (∀ a w' (T : Nat → Prop), IsR w' a T (putB s) false → Calls Try.prog 33 #[.pointer (some ⟨a, 0, none⟩), .int .i64 64] w' fun e w'' => e = .returned (.int .i64 s.room) ∧ IsR w'' a T (be8 s.now ++ (be8 s.next ++ (be8 (s.l.length : Int) ++ s.l.flatMap seB))) false ∧ Only [a] w' w'') := Lib.hid (by
    intro a w' T hr
    have := rdCount_any a _ _ 64 _ hr (by rw [putB_len]; omega)
    rwa [putB_eq, rC_be8 _ _ _ _ (by omega) (by omega) (by decide)] at this)
  have EI : Hid (∀ a w' (T : Nat → Prop) (z : Int) (rest : List UInt8), -9223372036854775808 ≤ z → z ≤ 9223372036854775807 → rest.length ≤ 100000 → IsR w' a T (be8 z ++ rest) false → Calls Try.prog 34 #[.pointer (some ⟨a, 0, none⟩)] w' fun e w'' => e = .returned (.int .i64 z) ∧ IsR w'' a T rest false ∧ Only [a] w' w'') := Lib.hid (by
    intro a w' T z rest h1 h2 h3 hr
    have := rdI64_any a _ _ _ hr (by rw [List.length_append, be8_len]; omega)
    rwa [rI_be8 _ _ _ h1 h2] at this)
  have EC : Hid (∀ a w' (T : Nat → Prop), IsR w' a T (be8 (s.l.length : Int) ++ s.l.flatMap seB) false → Calls Try.prog 33 #[.pointer (some ⟨a, 0, none⟩), .int .i64 64] w' fun e w'' => e = .returned (.int .i64 (s.l.length : Int)) ∧ IsR w'' a T (s.l.flatMap seB) false ∧ Only [a] w' w'') := Lib.hid (by
    intro a w' T hr
    have := rdCount_any a _ _ 64 _ hr (by rw [List.length_append, be8_len, seB_len]; omega)
    rwa [rC_be8 _ _ _ _ ez ez2 (by decide)] at this)
  have hl2 : (be8 s.next ++ (be8 (s.l.length : Int) ++ s.l.flatMap seB)).length ≤ 100000 := by simp only [List.length_append, be8_len, seB_len]; omega
  have hl3 : (be8 (s.l.length : Int) ++ s.l.flatMap seB).length ≤ 100000 := by simp only [List.length_append, be8_len, seB_len]; omega
  have hrl : ∀ k, ((s.l.drop k).flatMap seB).length ≤ 90000 := fun k => by rw [seB_len, List.length_drop]; omega
  have HRL := Lib.hid hrl
  have hs0 : s = ⟨s.room, s.now, s.next, s.l⟩ := rfl
  clear h hlen hfi hup hrl
  obtain ⟨room, now, next, l⟩ := s
  simp only at *
  clear hs0
  go_enter Try.func17, Try.ntmps17
  go_wp2_with fail
  refine HRD.out.mono ?_
  rintro e w1 ⟨a, rfl, hr1, ha1, ha2, hb1⟩
  have HR1 := Lib.hid hr1; clear hr1
  go_wp2_with fail
  refine (E0.out _ _ _ HR1.out).mono ?_
  rintro e w2 ⟨rfl, hr2, ho2⟩
  have hb2 : Below w.heap.size w w2 := hb1.trans (ho2.below hb1.size (by simpa using ha1))
  have hs2 := ho2.size
  clear hb1 ho2 HR1
  have HR2 := Lib.hid hr2; clear hr2
  have hB : w.heap.size ≤ w2.heap.size := hb2.size
  have HB2 := Lib.hid hb2; clear hb2
  go_wp2_with fail
  have hrow : (w2.alloc (.cells #[.int .i64 room, .int .i64 0, .int .i64 0, .slice none 0 0] 52)).heap[w2.heap.size]? = some (.cells #[.int .i64 room, .int .i64 0, .int .i64 0, .slice none 0 0] 52 (0, 0)) := heap_new _ _
  have hr3 := HR2.out.only ((Below.refl w2.heap.size w2).alloc (Nat.le_refl _) (.cells #[.int .i64 room, .int .i64 0, .int .i64 0, .slice none 0 0] 52))
  have hb3 := HB2.out.alloc hB (.cells #[.int .i64 room, .int .i64 0, .int .i64 0, .slice none 0 0] 52)
  have hab : a < w2.heap.size := by omega
  clear HR2 HB2
  generalize (World.alloc _ _ : World) = X at *
  generalize w2.heap.size = b at *
  have HB3 := Lib.hid hb3; clear hb3
  refine (EI.out a _ _ now _ (by omega) (by omega) hl2 hr3).mono ?_
  rintro e w3 ⟨rfl, hr4, ho4⟩
  have hrow4 := ho4.keeps hrow (by simp; omega)
  have HB4 := Lib.hid (HB3.out.trans (ho4.below HB3.out.size (by simpa using ha1)))
  have hc1 : w3.cell? ⟨b, 1, none⟩ = some (.int .i64 0) := by rw [cell_heap hrow4]; rfl
  have hf1 := free_heap hrow4 1
  have HRW4 := Lib.hid hrow4
  have HR4 := Lib.hid hr4
  clear hr3 ho4 hrow4 hr4 HB3 hrow
  go_wp2_with fail
  have hset5 : Only [b] w3 (w3.setCell ⟨b, 1, none⟩ (.int .i64 now)) := (Only.refl _ _).setCell (by simp) _
  have hr5 := HR4.out.keep hset5 (by simp; omega) (fun k hk => by simp; omega)
  have hrow5 := heap_set HRW4.out 1 (.int .i64 now)
  have HB5 := Lib.hid (HB4.out.trans (hset5.below HB4.out.size (by simp; omega)))
  clear HR4 HRW4 hc1 hf1 hset5
  generalize (World.setCell _ _ _ : World) = X5 at *
  refine (EI.out a _ _ next _ (by omega) (by omega) hl3 hr5).mono ?_
  rintro e w6 ⟨rfl, hr6, ho6⟩
  have hrow6 := ho6.keeps hrow5 (by simp; omega)
  have HB6 := Lib.hid (HB5.out.trans (ho6.below HB5.out.size (by simpa using ha1)))
  have hc2 : w6.cell? ⟨b, 2, none⟩ = some (.int .i64 0) := by rw [cell_heap hrow6]; rfl
  have hf2 := free_heap hrow6 2
  have HR6 := Lib.hid hr6
  clear hr5 ho6 hr6 hrow5
  go_wp2_with fail
  have hset7 : Only [b] w6 (w6.setCell ⟨b, 2, none⟩ (.int .i64 next)) := (Only.refl _ _).setCell (by simp) _
  have hr7 := HR6.out.keep hset7 (by simp; omega) (fun k hk => by simp; omega)
  have hrow7 := heap_set hrow6 2 (.int .i64 next)
  have HB7 := Lib.hid (HB6.out.trans (hset7.below HB6.out.size (by simp; omega)))
  clear HR6 hc2 hf2 hset7 hrow6
  generalize (World.setCell _ _ _ : World) = X7 at *
  refine (EC.out a _ _ hr7).mono ?_
  rintro e w8 ⟨rfl, hr8, ho8⟩
  have hrow8 := ho8.keeps hrow7 (by simp; omega)
  have HB8 := Lib.hid (HB7.out.trans (ho8.below HB7.out.size (by simpa using ha1)))
  have HS8 : Hid (IsSess w8 b b none ⟨room, now, next, []⟩) := Lib.hid ⟨⟨_, hrow8, World.ownsRow_nil _ _ _ _, rfl⟩, Nat.le_refl _, by simp⟩
  have HR8 := Lib.hid hr8
  clear ho8 hr7 hr8 hrow8 hrow7 E0 EC
  generalize hnn : l.length = nn at *
  have HNN := Lib.hid hnn; clear hnn
  go_wp2_with fail
  go_loopw [25] (fun i wr => ∃ (k : Nat) (g : Option Nat), k ≤ nn ∧ i = .int .i64 (k : Int) ∧ IsSess wr b b g ⟨room, now, next, l.take k⟩ ∧ IsR wr a (fun k => w.heap.size ≤ k ∧ k < a) ((l.drop k).flatMap seB) false ∧ Below w.heap.size w wr) (fun i _ => nn - (intOf i).toNat)
  case atStart => exact ⟨0, none, by omega, rfl, HS8.out, HR8.out, HB8.out⟩
  case round =>
    obtain ⟨k, g, hk, rfl, hs, hr, hbl⟩ := hrel
    have HSR := Lib.hid hs
    have HBR := Lib.hid hbl
    by_cases hlt : k < nn
    · have hkl : k < l.length := by rw [HNN.out]; exact hlt
      have hrn := rows_next l k hkl
      have hln := HRL.out (k + 1)
      have hfine := HFI.out k hlt
      have hup := HUP.out k hlt
      have hp0 : 0 ≤ prevId l k := prev_ge l (by rw [HNN.out]; exact HUP.out) k (by omega)
      have htk : l.take (k + 1) = l.take k ++ [l.getD k ⟨0, 0, 0⟩] := take_next l k hkl
      have htl : (l.take k).length = k := by rw [List.length_take]; omega
      have HTK := Lib.hid htk
      rw [hrn] at hr
      generalize hre : (l.drop (k + 1)).flatMap seB = rest at *
      have HRE := Lib.hid hre; clear hre
      generalize l.getD k ⟨0, 0, 0⟩ = u at *
      obtain ⟨x, y, z⟩ := u
      obtain ⟨f1, f2, f3, f4, f5, f6⟩ := hfine
      simp only at hr f1 f2 f3 f4 f5 f6 hup
      have HRR := Lib.hid hr
      have hbw := hs.lt
      have hgl := hs.glt
      have HGL := Lib.hid hgl
      clear hs hr hbl hrn htk hgl hkl
      generalize l.take k = m at *
      subst htl
      go_wp2_with fail
      refine (EI.out a _ _ x _ (by omega) (by omega) (by simp only [List.length_append, be8_len]; omega) HRR.out).mono ?_
      rintro e v1 ⟨rfl, hq1, ho1⟩
      have hv1 := HSR.out.keep ho1 (by simp; omega) (fun j hj => by have := (HGL.out j hj).1; simp; omega)
      have hv1b := HBR.out.trans (ho1.below HBR.out.size (by simpa using ha1))
      have hv1s := ho1.size
      have M0 : Hid (GetMid w (v1.alloc (.cells #[.int .i64 x, .int .i64 0, .int .i64 0] 54)) a b v1.heap.size g ⟨room, now, next, m⟩ (be8 y ++ (be8 z ++ rest)) x 0 0) := Lib.hid
        ⟨hv1.below ((Below.refl _ _).alloc (Nat.le_refl _) _), hq1.only ((Below.refl _ _).alloc (Nat.le_refl _) _), heap_new _ _, hv1b.alloc hv1b.size _, hab, ha1, fun j hj => by have := (HGL.out j hj).2; omega, by omega⟩
      clear hq1 ho1 hv1 hv1b HRR HSR HBR
      go_wp2_with fail
      generalize hX : v1.heap.size = X at *
      clear hX
      generalize (World.alloc _ _ : World) = y1 at *
      refine (EI.out a _ _ y _ (by omega) (by omega) (by simp only [List.length_append, be8_len]; omega) M0.out.rd).mono ?_
      rintro e v2 ⟨rfl, hq2, ho2⟩
      have M1 := Lib.hid (M0.out.read ho2 hq2)
      clear hq2 ho2 M0
      have hcx : v2.cell? ⟨X, 1, none⟩ = some (.int .i64 0) := by rw [cell_heap M1.out.box]; rfl
      have hfx := free_heap M1.out.box 1
      go_wp2_with fail
      have M2 := Lib.hid (M1.out.put 1 (.int .i64 y) x y 0 rfl)
      clear hcx hfx M1
      generalize (World.setCell _ _ _ : World) = y2 at *
      refine (EI.out a _ _ z _ (by omega) (by omega) (by omega) M2.out.rd).mono ?_
      rintro e v3 ⟨rfl, hq3, ho3⟩
      have M3 := Lib.hid (M2.out.read ho3 hq3)
      clear hq3 ho3 M2
      have hcx : v3.cell? ⟨X, 2, none⟩ = some (.int .i64 0) := by rw [cell_heap M3.out.box]; rfl
      have hfx := free_heap M3.out.box 2
      go_wp2_with fail
      have M4 := Lib.hid (M3.out.put 2 (.int .i64 z) x y z rfl)
      clear hcx hfx M3
      generalize (World.setCell _ _ _ : World) = y3 at *
      obtain ⟨⟨vv, k1, k2, k3⟩, _, hne⟩ := M4.out.sess
      have k1' : y3.heap[b]? = some (.cells #[.int .i64 room, .int .i64 now, .int .i64 next, vv] 52 (0, 0)) := k1
      obtain ⟨ao2, cap2, rfl, _, _⟩ := row_shape k2
      have hcb : y3.cell? ⟨b, 3, none⟩ = some (.slice ao2 m.length cap2) := by rw [cell_heap k1]; rfl
      have hfb := free_heap k1 3
      have m0 : y3.cell? ⟨X, 0, none⟩ = some (.int .i64 x) := by rw [cell_heap M4.out.box]; rfl
      have m1 : y3.cell? ⟨X, 1, none⟩ = some (.int .i64 y) := by rw [cell_heap M4.out.box]; rfl
      have m2 : y3.cell? ⟨X, 2, none⟩ = some (.int .i64 z) := by rw [cell_heap M4.out.box]; rfl
      have hby : b < y3.heap.size := lt_of_heap k1
      have HW : Hid (∀ Wx : World, Wx.heap = (y3.alloc (.cells #[.int .i64 x, .int .i64 y, .int .i64 z] 54)).heap →
          Wx.ownsRow b 54 3 (.slice ao2 m.length cap2) m.length (row3 m) ∧ Wx.heap[b]? = some (.cells #[.int .i64 room, .int .i64 now, .int .i64 next, .slice ao2 m.length cap2] 52 (0, 0)) ∧
          (∀ j u, (cells3 ⟨x, y, z⟩)[j]? = some u → Wx.cell? ⟨y3.heap.size, 0 + j, none⟩ = some u) ∧ Wx.heap.size = y3.heap.size + 1) := Lib.hid (by
        intro Wx hWx
        refine ⟨rows_heap (rows_only k2 ((Only.refl [] _).alloc _) (by simp)) hWx, ?_, ?_, ?_⟩
        · rw [hWx]; exact heap_old k1' _
        · intro j u hj
          have := World.cell?_of_block (w := y3.alloc (.cells #[.int .i64 x, .int .i64 y, .int .i64 z] 54)) (w' := Wx) (a := ⟨y3.heap.size, 0 + j, none⟩) (by rw [hWx])
          rw [this, World.cell?_alloc_mark, Nat.zero_add]
          simpa [cells3] using hj
        · rw [hWx]; simp)
      have HK3 := Lib.hid k3
      have hnb : ∀ q, (Value.slice ao2 m.length cap2).ownBlock = some q → q ≠ b := fun q hq e => hne (by rw [← k3, hq, e])
      have HNB := Lib.hid hnb
      have hlen4 : m.length + 1 ≤ 4398046511104 := by omega
      clear k1 k1' k2 k3 hnb hne
      have hbx : (b == X) = false := by have := M4.out.bX; simp; omega
      go_region_law (refine step_append_se (by rfl) (.tmp 40) (.tmp 42) (by rfl) b _ m (by rfl) (by exact (HW.out _ rfl).1) y3.heap.size ⟨x, y, z⟩ (by rfl) (by exact (HW.out _ rfl).2.2.1) hlen4 (by exact Nat.le_of_lt (lt_of_heap (HW.out _ rfl).2.1)) ?_; intro g2 cap3 w9 hown9 hgr9 hat9 hlt9; have hA9 : w9.heap[b]? = some (.cells #[.int .i64 room, .int .i64 now, .int .i64 next, .slice ao2 m.length cap2] 52 (0, 0)) := (hgr9.block b (lt_of_heap (HW.out _ rfl).2.1) (fun e => HNB.out b e.symm rfl)).trans (HW.out _ rfl).2.1; have hcb9 : w9.cell? ⟨b, 3, none⟩ = some (.slice ao2 m.length cap2) := (cell_heap hA9 3).trans rfl; have hfb9 := free_heap hA9 3)
      all_goals
        have hfin := M4.out.fin HK3.out (by rfl) (by rfl) (by rfl) (by rfl) hgr9 hown9 (by rcases hat9 with hh | hh; exact .inl hh; exact .inr (by rw [hh]; exact (HW.out _ rfl).2.2.2)) hA9
        have HF := Lib.hid hfin
        clear hfin hown9 hgr9 hat9 hlt9 hA9 hcb9 hfb9 HW m0 m1 m2 hcb hfb
        go_wp2_with fail
        go_roundw
        case rel =>
          refine ⟨m.length + 1, some g2, by omega, by go_num, ?_, by rw [HRE.out]; exact HF.out.2.1, HF.out.2.2⟩
          rw [HTK.out]
          exact HF.out.1
        case measure => simp [intOf]; omega
    · obtain rfl : k = nn := by omega
      rw [List.take_of_length_le (by rw [HNN.out]; exact Nat.le_refl _)] at hs
      rw [List.drop_of_length_le (by rw [HNN.out]; exact Nat.le_refl _)] at hr
      have HR9 := Lib.hid hr
      have HS9 := Lib.hid hs
      clear hr hs hbl HSR
      go_wp2_with fail
      refine (end_any a _ _ _ HR9.out).mono ?_
      rintro e w9 ⟨rfl, rfl⟩
      go_wp2_with fail
      refine (good_any b b g _ _ HS9.out hgood.out).mono ?_
      rintro e w9 ⟨rfl, hb9⟩
      have HB9 := Lib.hid hb9; clear hb9
      go_wp2_with fail
      go_ret2
      refine ⟨b, g, rfl, ?_, HBR.out.trans (HB9.out.mono HBR.out.size)⟩
      have h9 := HS9.out.below HB9.out
      obtain ⟨⟨v, k1, k2, k3⟩, k4, k5⟩ := h9
      refine ⟨⟨v, k1, ?_, k3⟩, hB, k5⟩
      exact rows_mono k2 hB
end Go.Proofs.Ytmlgggcdjknlfaa
