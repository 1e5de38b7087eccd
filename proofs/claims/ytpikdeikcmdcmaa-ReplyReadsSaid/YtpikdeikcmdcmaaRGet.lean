/-
  The document reads a reply. No condition.
-/
import Derived.Test.YtpikdeikcmdcmaaRPut
import Derived.Test.YtpikdeikcmdcmaaPLink
import Derived.Deep.RegionLaw
namespace Go.Proofs.Ytpikdeikcmdcmaa
open Go.RowKit
theorem heap_new_at (w : World) (o : Obj) (k : Nat) (hk : w.heap.size = k) : (w.alloc o).heap[k]? = some o := by subst hk; exact heap_new w o
theorem Ext.stick {α : Type} {f : List UInt8 → Bool → Rd α} (h : Ext f) (l : List UInt8) : (f l true).bad = true := by
  cases hb : (f l true).bad with
  | true => rfl
  | false => exact absurd (h l true [] hb).1 (by decide)
theorem rTs_more (n : Nat) (l : List UInt8) (bad : Bool) (h : (rTs n l bad).bad = true) : ∀ m, n ≤ m → (rTs m l bad).bad = true := by
  intro m hm
  induction m with
  | zero => obtain rfl : n = 0 := by omega
            exact h
  | succ m ih =>
    by_cases hnm : n = m + 1
    · rw [← hnm]; exact h
    · have h1 := ih (by omega)
      simp only [rTs]
      rw [h1]
      exact (ext_T 20000).stick _
theorem rAll_more (n : Nat) (l : List UInt8) (bad : Bool) (h : (rAll n l bad).bad = true) : ∀ m, n ≤ m → (rAll m l bad).bad = true := by
  intro m hm
  induction m with
  | zero => obtain rfl : n = 0 := by omega
            exact h
  | succ m ih =>
    by_cases hnm : n = m + 1
    · rw [← hnm]; exact h
    · have h1 := ih (by omega)
      simp only [rAll]
      rw [h1]
      exact ext_One.stick _
/-- the document's reader, as the program's would stand -/
structure IsL (w : World) (p : Nat) (ao : Option Addr) (n c : Nat) (B l : List UInt8) (bad : Bool) : Prop where
  ex : ∃ k, IsF w p ao n c B k bad ∧ Link B l k bad
section
variable {w w' W u : World} {p : Nat} {ao : Option Addr} {n c : Nat} {B l l' : List UInt8} {bad bad' : Bool}
theorem IsL.keep (h : IsL W p ao n c B l bad) (hs : W.heap.size ≤ u.heap.size) (hp : u.heap[p]? = W.heap[p]?) (hb : ∀ a, ao = some a → n = 0 ∨ u.heap[a.block]? = W.heap[a.block]?) : IsL u p ao n c B l bad := by
  obtain ⟨k, hf, hl⟩ := h.ex
  refine ⟨k, ⟨by rw [hp]; exact hf.row, ⟨hf.bytes.len, hf.bytes.nil, ?_⟩, hf.le, hf.ne, hf.at_, hf.room⟩, hl⟩
  rcases hf.bytes.at_ with h0 | ⟨b, off, e, hc⟩
  · exact .inl h0
  · rcases hb _ e with h0 | h1
    · exact .inl h0
    · exact .inr ⟨b, off, e, fun i hi => (World.cell?_of_block (a := ⟨b, off + i, none⟩) (show u.heap[b]? = W.heap[b]? from h1)).trans (hc i hi)⟩
theorem IsL.bad_cell (h : IsL W p ao n c B l bad) : W.cell? ⟨p, 2, none⟩ = some (.bool bad) := by
  obtain ⟨k, hf, _⟩ := h.ex
  rw [cell_heap hf.row]; rfl
theorem lI64 (h : IsL W p ao n c B l bad) : Calls Try.prog 35 #[.pointer (some ⟨p, 0, none⟩)] W fun e w' => e = .returned (.int .i64 (rI l bad).v) ∧ IsL w' p ao n c B (rI l bad).l (rI l bad).bad ∧ Only [p] W w' := by
  obtain ⟨k, hf, hl⟩ := h.ex
  obtain ⟨g1, g2, _, g3⟩ := link_I hl
  refine (fI64_any p ao n c B k bad W hf).mono ?_
  rintro e w' ⟨rfl, h1, h2⟩
  rw [g2] at h1
  exact ⟨by rw [g1], ⟨_, h1, g3⟩, h2⟩
theorem lCount (h : IsL W p ao n c B l bad) (most : Int) : Calls Try.prog 36 #[.pointer (some ⟨p, 0, none⟩), .int .i64 most] W fun e w' => e = .returned (.int .i64 (rC l bad most).v) ∧ IsL w' p ao n c B (rC l bad most).l (rC l bad most).bad ∧ Only [p] W w' := by
  obtain ⟨k, hf, hl⟩ := h.ex
  obtain ⟨g1, g2, _, g3⟩ := link_C hl most
  refine (fCount_any p ao n c B k bad most W hf).mono ?_
  rintro e w' ⟨rfl, h1, h2⟩
  rw [g2] at h1
  exact ⟨by rw [g1], ⟨_, h1, g3⟩, h2⟩
theorem lText (h : IsL W p ao n c B l bad) (most : Int) : Calls Try.prog 37 #[.pointer (some ⟨p, 0, none⟩), .int .i64 most] W fun e w' => e = .returned (.string (rT l bad most).v) ∧ IsL w' p ao n c B (rT l bad most).l (rT l bad most).bad ∧ Only [p] W w' := by
  obtain ⟨k, hf, hl⟩ := h.ex
  obtain ⟨g1, g2, g3⟩ := link_T hl most
  refine (fText_any p ao n c B k bad most W hf).mono ?_
  rintro e w' ⟨rfl, h1, h2⟩
  rw [g2] at h1
  exact ⟨by rw [g1], ⟨_, h1, g3⟩, h2⟩
theorem lEnd (h : IsL W p ao n c B l bad) : Calls Try.prog 38 #[.pointer (some ⟨p, 0, none⟩)] W fun e w' => ∃ d, e = .returned (.bool (!bad && l.isEmpty)) ∧ w' = W.drewN d := by
  obtain ⟨k, hf, hl⟩ := h.ex
  refine (fEnd_any p ao n c B k bad W hf).mono ?_
  rintro e w' ⟨d, rfl, rfl⟩
  exact ⟨d, by rw [link_end hl n hf.bytes.len], rfl⟩
end
/-- where the document's reading stands -/
structure GrS (w W : World) (p R X B : Nat) (ao : Option Addr) (n c : Nat) (Bs : List UInt8) (l : List UInt8) (bad : Bool) (cs : Array Value) (v : Value) (rs : List (Re × Value)) : Prop where
  rd : IsL W p ao n c Bs l bad
  below : Below w.heap.size w W
  at_ : W.heap[X]? = some (.cells cs 40 (0, 0))
  res : W.heap[R]? = some (.cells #[.int .i64 0, .int .i64 0, .int .i64 0, .int .i64 0, .slice none 0 0] 40 (0, 0))
  own : ResOwn W B v rs
  h1 : w.heap.size ≤ R
  h2 : R < p
  h3 : p < X
  h4 : X < B
  h5 : B ≤ W.heap.size
  h6 : ∀ a, ao = some a → n = 0 ∨ a.block < w.heap.size
section
variable {w W u : World} {p : Nat} {ao : Option Addr} {n c : Nat} {Bs : List UInt8} {R X B : Nat} {l l' : List UInt8} {bad bad' : Bool} {cs : Array Value} {v v' : Value} {rs rs' : List (Re × Value)}
theorem GrS.read (h : GrS w W p R X B ao n c Bs l bad cs v rs) (hr : IsL u p ao n c Bs l' bad') (ho : Only [p] W u) : GrS w u p R X B ao n c Bs l' bad' cs v rs := by
  have a1 := h.h1; have a2 := h.h2; have a3 := h.h3; have a4 := h.h4; have a5 := h.h5
  exact ⟨hr, h.below.trans (ho.below h.below.size (by simp; omega)), ho.keeps h.at_ (by simp; omega), ho.keeps h.res (by simp; omega), h.own.only ho (by simp; omega), a1, a2, a3, a4, Nat.le_trans a5 ho.size, h.h6⟩
theorem GrS.set (h : GrS w W p R X B ao n c Bs l bad cs v rs) (j : Nat) (x : Value) : GrS w (W.setCell ⟨X, j, none⟩ x) p R X B ao n c Bs l bad (cs.setIfInBounds j x) v rs := by
  have o : Only [X] W (W.setCell ⟨X, j, none⟩ x) := (Only.refl _ _).setCell (by simp) _
  have a1 := h.h1; have a2 := h.h2; have a3 := h.h3; have a4 := h.h4; have a5 := h.h5; have a6 := h.h6
  have hsz := h.below.size
  refine ⟨h.rd.keep o.size (o.block p (by omega) (by simp; omega)) (fun a ha => ?_), h.below.trans (o.below h.below.size (by simp; omega)), heap_set h.at_ j x, o.keeps h.res (by simp; omega), h.own.only o (by simp; omega), a1, a2, a3, a4, Nat.le_trans a5 o.size, a6⟩
  rcases a6 a ha with h0 | h1
  · exact .inl h0
  · exact .inr (o.block _ (by omega) (by simp; omega))
theorem GrS.app (h : GrS w W p R X B ao n c Bs l bad cs v rs) (hb : Below B W u) (ho : ResOwn u B v' rs') : GrS w u p R X B ao n c Bs l bad cs v' rs' := by
  have a1 := h.h1; have a2 := h.h2; have a3 := h.h3; have a4 := h.h4; have a5 := h.h5; have a6 := h.h6
  refine ⟨h.rd.keep hb.size (hb.block p (by omega)) (fun a ha => ?_), h.below.trans (hb.mono (by omega)), by rw [hb.block X a4]; exact h.at_, by rw [hb.block R (by omega)]; exact h.res, ho, a1, a2, a3, a4, Nat.le_trans a5 hb.size, a6⟩
  rcases a6 a ha with h0 | h1
  · exact .inl h0
  · exact .inr (hb.block _ (by omega))
theorem GrS.alloc (h : GrS w W p R X B ao n c Bs l bad cs v rs) (o : Obj) : GrS w (W.alloc o) p R X B ao n c Bs l bad cs v rs :=
  h.app ((Below.refl _ _).alloc h.h5 o) (h.own.below ((Below.refl _ _).alloc (Nat.le_refl _) o))
theorem GrS.cell (h : GrS w W p R X B ao n c Bs l bad cs v rs) (j : Nat) : W.cell? ⟨X, j, none⟩ = cs[j]? := cell_heap h.at_ j
theorem GrS.free (h : GrS w W p R X B ao n c Bs l bad cs v rs) (j : Nat) : W.frozen? ⟨X, j, none⟩ = false := free_heap h.at_ j
end
/-- where the reading of one result stands: it lies in block Y, its names beyond -/
structure RoS (wY W : World) (p : Nat) (ao : Option Addr) (n c : Nat) (Bs : List UInt8) (Y : Nat) (l : List UInt8) (bad : Bool) (cs : Array Value) (v : Value) (ns : List ByteArray) : Prop where
  rd : IsL W p ao n c Bs l bad
  on : Only [p] wY W
  at_ : W.heap[Y]? = some (.cells cs 35 (0, 0))
  own : OwnS W (Y + 1) 9 v ns
  h0 : wY.heap.size ≤ Y
  h1 : p < wY.heap.size
  h2 : Y + 1 ≤ W.heap.size
  h3 : ∀ a, ao = some a → n = 0 ∨ a.block < wY.heap.size
section
variable {wY W u : World} {p : Nat} {ao : Option Addr} {n c : Nat} {Bs : List UInt8} {Y : Nat} {l l' : List UInt8} {bad bad' : Bool} {cs : Array Value} {v v' : Value} {ns ns' : List ByteArray}
theorem RoS.read (h : RoS wY W p ao n c Bs Y l bad cs v ns) (hr : IsL u p ao n c Bs l' bad') (ho : Only [p] W u) : RoS wY u p ao n c Bs Y l' bad' cs v ns := by
  have a0 := h.h0; have a1 := h.h1
  exact ⟨hr, h.on.trans ho, ho.keeps h.at_ (by simp; omega), rows_only h.own ho (by simp; omega), a0, a1, Nat.le_trans h.h2 ho.size, h.h3⟩
theorem RoS.set (h : RoS wY W p ao n c Bs Y l bad cs v ns) (j : Nat) (x : Value) : RoS wY (W.setCell ⟨Y, j, none⟩ x) p ao n c Bs Y l bad (cs.setIfInBounds j x) v ns := by
  have o : Only [Y] W (W.setCell ⟨Y, j, none⟩ x) := (Only.refl _ _).setCell (by simp) _
  have a0 := h.h0; have a1 := h.h1; have a2 := h.h2; have a3 := h.h3
  have hsz := h.on.size
  refine ⟨h.rd.keep o.size (o.block p (by omega) (by simp; omega)) (fun a ha => ?_), ((h.on.mono (T := [p, Y]) (by simp)).trans (o.mono (by simp))).cut (by simp; omega), heap_set h.at_ j x, rows_only h.own o (by simp), a0, a1, by have := o.size; omega, a3⟩
  rcases a3 a ha with h0 | h1
  · exact .inl h0
  · exact .inr (o.block _ (by omega) (by simp; omega))
theorem RoS.app (h : RoS wY W p ao n c Bs Y l bad cs v ns) (hb : Below (Y + 1) W u) (ho : OwnS u (Y + 1) 9 v' ns') : RoS wY u p ao n c Bs Y l bad cs v' ns' := by
  have a0 := h.h0; have a1 := h.h1; have a2 := h.h2; have a3 := h.h3
  refine ⟨h.rd.keep hb.size (hb.block p (by omega)) (fun a ha => ?_), ⟨hb.os.trans h.on.os, hb.tape.trans h.on.tape, hb.output.trans h.on.output, Nat.le_trans h.on.size hb.size, fun k hk hn => (hb.block k (by omega)).trans (h.on.block k hk hn)⟩, by rw [hb.block Y (by omega)]; exact h.at_, ho, a0, a1, Nat.le_trans a2 hb.size, a3⟩
  rcases a3 a ha with h0 | h1
  · exact .inl h0
  · exact .inr (hb.block _ (by omega))
theorem RoS.drew (h : RoS wY W p ao n c Bs Y l bad cs v ns) : RoS wY W.drew p ao n c Bs Y l bad cs v ns := h.app (below_drew (Below.refl _ _) 1) h.own
theorem RoS.alloc (h : RoS wY W p ao n c Bs Y l bad cs v ns) (o : Obj) : RoS wY (W.alloc o) p ao n c Bs Y l bad cs v ns :=
  h.app ((Below.refl _ _).alloc h.h2 o) (rows_below h.own ((Below.refl _ _).alloc (Nat.le_refl _) o))
theorem RoS.cell (h : RoS wY W p ao n c Bs Y l bad cs v ns) (j : Nat) : W.cell? ⟨Y, j, none⟩ = cs[j]? := cell_heap h.at_ j
theorem RoS.free (h : RoS wY W p ao n c Bs Y l bad cs v ns) (j : Nat) : W.frozen? ⟨Y, j, none⟩ = false := free_heap h.at_ j
end

set_option maxHeartbeats 16000000 in
set_option maxRecDepth 100000 in
theorem rget_any (ao : Option Addr) (n c : Nat) (l0 : List UInt8) (w : World) (h : IsB w ao n c l0) (hnc : n ≤ c) (hn : n ≤ 100000000000) :
    Calls Try.prog 22 #[.slice ao n c] w fun e w' => ∃ v rs, e = .returned (.tuple #[aggP (getR l0).1.num (getR l0).1.zxid (getR l0).1.err (getR l0).1.place v, .bool (decide ((getR l0).2 = 0))]) ∧ ResOwn w' w.heap.size v rs ∧ resL rs = (getR l0).1.res ∧ rs.length ≤ 16 ∧ Below w.heap.size w w' := by
  have hold : ∀ a, ao = some a → n = 0 ∨ a.block < w.heap.size := by
    intro a ha
    rcases h.at_ with h0 | ⟨b, off, e, hc⟩
    · exact .inl h0
    · by_cases hn0 : n = 0
      · exact .inl hn0
      · rw [ha] at e
        cases e
        exact .inr (block_lt_of_cell (hc 0 (by omega)))
  go_enter Try.func22, Try.ntmps22
  go_wp2_with fail
  have hb0 : Below w.heap.size w ((w.alloc (.cells #[.int .i64 0, .int .i64 0, .int .i64 0, .int .i64 0, .slice none 0 0] 40)).alloc (.cells #[.slice ao n c, .int .i64 0, .bool false] 65)) := below_two _ _ _
  have hz0 : ((w.alloc (.cells #[.int .i64 0, .int .i64 0, .int .i64 0, .int .i64 0, .slice none 0 0] 40)).alloc (.cells #[.slice ao n c, .int .i64 0, .bool false] 65)).heap[w.heap.size]? = some (.cells #[.int .i64 0, .int .i64 0, .int .i64 0, .int .i64 0, .slice none 0 0] 40 (0, 0)) := heap_old (heap_new _ _) _
  have hp0 : ((w.alloc (.cells #[.int .i64 0, .int .i64 0, .int .i64 0, .int .i64 0, .slice none 0 0] 40)).alloc (.cells #[.slice ao n c, .int .i64 0, .bool false] 65)).heap[w.heap.size + 1]? = some (.cells #[.slice ao n c, .int .i64 0, .bool false] 65 (0, 0)) := heap_alloc2_new _ _ _
  have hi0 := h.below hb0
  have hl0 : IsL ((w.alloc (.cells #[.int .i64 0, .int .i64 0, .int .i64 0, .int .i64 0, .slice none 0 0] 40)).alloc (.cells #[.slice ao n c, .int .i64 0, .bool false] 65)) (w.heap.size + 1) ao n c l0 l0 false :=
    ⟨0, ⟨hp0, hi0, hnc, by
      by_cases hn0 : n = 0
      · exact .inl hn0
      · right; intro a ha; rcases hold a ha with h1 | h1 <;> omega, Nat.zero_le _, by omega⟩, ⟨by simp, by simp, Nat.zero_le _⟩⟩
  generalize ((w.alloc (.cells #[.int .i64 0, .int .i64 0, .int .i64 0, .int .i64 0, .slice none 0 0] 40)).alloc (.cells #[.slice ao n c, .int .i64 0, .bool false] 65)) = w0 at *
  generalize hP : w.heap.size + 1 = p at *
  have HP := Lib.hid hP; clear hP
  have hpl : p < w0.heap.size := lt_of_heap hp0
  refine (lI64 hl0).mono ?_
  rintro e u1 ⟨rfl, hr1, ho1⟩
  go_wp2_with fail
  refine (lI64 hr1).mono ?_
  rintro e u2 ⟨rfl, hr2, ho2⟩
  go_wp2_with fail
  refine (lI64 hr2).mono ?_
  rintro e u3 ⟨rfl, hr3, ho3⟩
  go_wp2_with fail
  refine (lI64 hr3).mono ?_
  rintro e u4 ⟨rfl, hr4, ho4⟩
  generalize hE1 : rI l0 false = e1 at *
  generalize hE2 : rI e1.l e1.bad = e2 at *
  generalize hE3 : rI e2.l e2.bad = e3 at *
  generalize hE4 : rI e3.l e3.bad = e4 at *
  have HE1 := Lib.hid hE1; have HE2 := Lib.hid hE2; have HE3 := Lib.hid hE3; have HE4 := Lib.hid hE4
  have ho14 := ((ho1.trans ho2).trans ho3).trans ho4
  have hz4 := ho14.keeps hz0 (by have := HP.out; simp; omega)
  have hpl4 : p < u4.heap.size := Nat.lt_of_lt_of_le hpl ho14.size
  have hB4 : Below w.heap.size w u4 := hb0.trans (ho14.below hb0.size (by have := HP.out; simp; omega))
  have halp : Below u4.heap.size u4 (u4.alloc (.cells #[.int .i64 e1.v, .int .i64 e2.v, .int .i64 e3.v, .int .i64 e4.v, .slice none 0 0] 40)) := (Below.refl _ _).alloc (Nat.le_refl _) _
  have hs4 : GrS w (u4.alloc (.cells #[.int .i64 e1.v, .int .i64 e2.v, .int .i64 e3.v, .int .i64 e4.v, .slice none 0 0] 40)) p w.heap.size u4.heap.size (u4.heap.size + 1) ao n c l0 e4.l e4.bad #[.int .i64 e1.v, .int .i64 e2.v, .int .i64 e3.v, .int .i64 e4.v, .slice none 0 0] (.slice none 0 0) [] :=
    ⟨hr4.keep halp.size (halp.block p hpl4) (fun a ha => by rcases hold a ha with h1 | h1; exact .inl h1; exact .inr (halp.block _ (by have := hB4.size; omega))), hB4.alloc hB4.size _, heap_new _ _, heap_old hz4 _, ResOwn.nil _ _, Nat.le_refl _, by have := HP.out; omega, hpl4, Nat.lt_succ_self _, by simp, hold⟩
  have HS4 := Lib.hid hs4
  have HOLD := Lib.hid hold
  clear hs4 halp hB4 hpl4 hz4 ho14 ho1 ho2 ho3 ho4 hr1 hr2 hr3 hr4 hE1 hE2 hE3 hE4 hpl hl0 hi0 hp0 hz0 hb0 h hold
  go_wp2_with fail
  generalize u4.heap.size = X at *
  generalize (u4.alloc (.cells #[.int .i64 e1.v, .int .i64 e2.v, .int .i64 e3.v, .int .i64 e4.v, .slice none 0 0] 40)) = u4 at *
  generalize X + 1 = B at *
  refine (lCount HS4.out.rd 16).mono ?_
  rintro e u5 ⟨rfl, hr5, ho5⟩
  have hs5 := HS4.out.read hr5 ho5
  have hk0 := rC_pos e4.l e4.bad 16
  have hk5 : (rC e4.l e4.bad 16).v ≤ 16 := by unfold rC; split <;> first | omega | (show (0 : Int) ≤ 16; omega)
  generalize hE5 : rC e4.l e4.bad 16 = e5 at *
  have HE5 := Lib.hid hE5
  obtain ⟨kk, hkk⟩ := Int.eq_ofNat_of_zero_le hk0
  rw [hkk] at hk5
  have HS5 := Lib.hid hs5
  have HKK := Lib.hid hkk
  rw [hkk]
  clear hr5 ho5 hE5 hs5 hk0 hkk
  go_wp2_with fail
  go_loopw [7] (fun i wr => ∃ k : Nat, k ≤ kk ∧ i = .int .i64 (k : Int) ∧ ∃ a c2 rs l bad, rs.length = k ∧ bad = (rAll k e5.l e5.bad).bad ∧ (bad = false → resL rs = (rAll k e5.l e5.bad).v ∧ l = (rAll k e5.l e5.bad).l) ∧ GrS w wr p w.heap.size X B ao n c l0 l bad #[.int .i64 e1.v, .int .i64 e2.v, .int .i64 e3.v, .int .i64 e4.v, .slice a k c2] (.slice a k c2) rs) (fun i _ => kk - (intOf i).toNat)
  case atStart => exact ⟨0, by omega, rfl, none, 0, [], e5.l, e5.bad, rfl, rfl, fun _ => ⟨rfl, rfl⟩, HS5.out⟩
  case round =>
    obtain ⟨k, hk, rfl, ga, gc, rs, l, bad, hrl, hbd, heq, hst⟩ := hrel
    have HST := Lib.hid hst; have HRL := Lib.hid hrl; have HBD := Lib.hid hbd; have HEQ := Lib.hid heq
    have hcb := hst.rd.bad_cell
    clear hst hrl hbd heq
    by_cases hgo : k < kk ∧ bad = false
    · obtain ⟨hlt, rfl⟩ := hgo
      obtain ⟨hq1, hq2⟩ := HEQ.out rfl
      have HRS := Lib.hid hq1
      have HTE := Lib.hid (show rAll (k + 1) e5.l e5.bad = ⟨(rAll k e5.l e5.bad).v ++ [(rOne (rAll k e5.l e5.bad).l (rAll k e5.l e5.bad).bad).v], (rOne (rAll k e5.l e5.bad).l (rAll k e5.l e5.bad).bad).l, (rOne (rAll k e5.l e5.bad).l (rAll k e5.l e5.bad).bad).bad⟩ from rfl)
      rw [← HBD.out, ← hq2, ← hq1] at HTE
      generalize hro : rOne l false = ro at HTE
      have HRO := Lib.hid hro
      clear hro
      clear hq1 hq2
      go_wp2_with fail
      refine (lI64 HST.out.rd).mono ?_
      rintro e v1 ⟨rfl, hr6, ho6⟩
      generalize hE6 : rI l false = e6 at *
      have HE6 := Lib.hid hE6
      have hg6 := HST.out.read hr6 ho6
      have HG6 := Lib.hid hg6
      have hal6 : Below v1.heap.size v1 (v1.alloc (.cells #[.int .i64 e6.v, .string ⟨#[]⟩, .string ⟨#[]⟩, .slice none 0 0, .int .i64 0, .int .i64 0, .int .i64 0, .int .i64 0, .int .i64 0, .int .i64 0, .int .i64 0] 35)) := (Below.refl _ _).alloc (Nat.le_refl _) _
      have hpv : p < v1.heap.size := by have := hg6.h3; have := hg6.h4; have := hg6.h5; omega
      have hs6 : RoS v1 (v1.alloc (.cells #[.int .i64 e6.v, .string ⟨#[]⟩, .string ⟨#[]⟩, .slice none 0 0, .int .i64 0, .int .i64 0, .int .i64 0, .int .i64 0, .int .i64 0, .int .i64 0, .int .i64 0] 35)) p ao n c l0 v1.heap.size e6.l e6.bad #[.int .i64 e6.v, .string ⟨#[]⟩, .string ⟨#[]⟩, .slice none 0 0, .int .i64 0, .int .i64 0, .int .i64 0, .int .i64 0, .int .i64 0, .int .i64 0, .int .i64 0] (.slice none 0 0) [] :=
        ⟨hr6.keep hal6.size (hal6.block p hpv) (fun a ha => by rcases HOLD.out a ha with h1 | h1; exact .inl h1; exact .inr (hal6.block _ (by have := hg6.below.size; omega))), Only.ofBelow hal6 _, heap_new _ _, OwnS.nil _ _ _, Nat.le_refl _, hpv, by simp, fun a ha => by rcases HOLD.out a ha with h1 | h1; exact .inl h1; exact .inr (by have := hg6.below.size; omega)⟩
      have HS6 := Lib.hid hs6
      clear hs6 hal6 hpv hg6 hE6 hr6 ho6 hcb
      go_wp2_with fail
      have HYL := Lib.hid (rfl : v1.heap.size = v1.heap.size)
      generalize hYY : v1.heap.size = Y at *
      generalize (v1.alloc (.cells #[.int .i64 e6.v, .string ⟨#[]⟩, .string ⟨#[]⟩, .slice none 0 0, .int .i64 0, .int .i64 0, .int .i64 0, .int .i64 0, .int .i64 0, .int .i64 0, .int .i64 0] 35)) = v2 at *
      refine (lText HS6.out.rd 20000).mono ?_
      rintro e u7 ⟨rfl, hr7, ho7⟩
      have hs7 := HS6.out.read hr7 ho7
      generalize hE7 : rT e6.l e6.bad 20000 = e7 at *
      have HE7 := Lib.hid hE7
      clear hr7 ho7 hE7
      have hf7 := hs7.free 1
      have hq7 : u7.cell? ⟨Y, 1, none⟩ = some (.string ⟨#[]⟩) := hs7.cell 1
      have ht7 : RoS v1 (u7.setCell ⟨Y, 1, none⟩ (.string e7.v)) p ao n c l0 Y e7.l e7.bad #[.int .i64 e6.v, .string e7.v, .string ⟨#[]⟩, .slice none 0 0, .int .i64 0, .int .i64 0, .int .i64 0, .int .i64 0, .int .i64 0, .int .i64 0, .int .i64 0] _ _ := hs7.set 1 (.string e7.v)
      have HT7 := Lib.hid ht7
      clear hs7 ht7
      go_wp2_with fail
      clear hf7 hq7
      have HS7 := HT7
      refine (lText HS7.out.rd 20000).mono ?_
      rintro e u8 ⟨rfl, hr8, ho8⟩
      have hs8 := HS7.out.read hr8 ho8
      generalize hE8 : rT e7.l e7.bad 20000 = e8 at *
      have HE8 := Lib.hid hE8
      clear hr8 ho8 hE8
      have hf8 := hs8.free 2
      have hq8 : u8.cell? ⟨Y, 2, none⟩ = some (.string ⟨#[]⟩) := hs8.cell 2
      have ht8 : RoS v1 (u8.setCell ⟨Y, 2, none⟩ (.string e8.v)) p ao n c l0 Y e8.l e8.bad #[.int .i64 e6.v, .string e7.v, .string e8.v, .slice none 0 0, .int .i64 0, .int .i64 0, .int .i64 0, .int .i64 0, .int .i64 0, .int .i64 0, .int .i64 0] _ _ := hs8.set 2 (.string e8.v)
      have HT8 := Lib.hid ht8
      clear hs8 ht8
      go_wp2_with fail
      clear hf8 hq8
      have HS8 := HT8
      refine (lCount HS8.out.rd 500).mono ?_
      rintro e u9 ⟨rfl, hr9, ho9⟩
      have hs9 := HS8.out.read hr9 ho9
      have hj0 := rC_pos e8.l e8.bad 500
      have hj5 : (rC e8.l e8.bad 500).v ≤ 500 := by unfold rC; split <;> first | omega | (show (0 : Int) ≤ 500; omega)
      generalize hE9 : rC e8.l e8.bad 500 = e9 at *
      have HE9 := Lib.hid hE9
      obtain ⟨jj, hjj⟩ := Int.eq_ofNat_of_zero_le hj0
      rw [hjj] at hj5
      have HS9 := Lib.hid hs9
      have HJJ := Lib.hid hjj
      rw [hjj]
      clear hr9 ho9 hE9 hs9 hj0 hjj
      go_wp2_with fail
      go_loopw [10] (fun i wr => ∃ q : Nat, q ≤ jj ∧ i = .int .i64 (q : Int) ∧ ∃ a c2 ns l bad, ns.length = q ∧ bad = (rTs q e9.l e9.bad).bad ∧ (bad = false → ns = (rTs q e9.l e9.bad).v ∧ l = (rTs q e9.l e9.bad).l) ∧ RoS v1 wr p ao n c l0 Y l bad #[.int .i64 e6.v, .string e7.v, .string e8.v, .slice a q c2, .int .i64 0, .int .i64 0, .int .i64 0, .int .i64 0, .int .i64 0, .int .i64 0, .int .i64 0] (.slice a q c2) ns) (fun i _ => jj - (intOf i).toNat)
      case atStart => exact ⟨0, by omega, rfl, none, 0, [], e9.l, e9.bad, rfl, rfl, fun _ => ⟨rfl, rfl⟩, HS9.out⟩
      case round =>
        obtain ⟨q, hq, rfl, na, nc, ns, ln, badn, hnl, hnb, hne, hst⟩ := hrel
        have HSN := Lib.hid hst; have HNL := Lib.hid hnl; have HNB := Lib.hid hnb; have HNE := Lib.hid hne
        have hcb := hst.rd.bad_cell
        clear hst hnl hnb hne
        by_cases hgo : q < jj ∧ badn = false
        · obtain ⟨hlt2, rfl⟩ := hgo
          obtain ⟨hq1, hq2⟩ := HNE.out rfl
          have HTT := Lib.hid (show rTs (q + 1) e9.l e9.bad = ⟨(rTs q e9.l e9.bad).v ++ [(rT (rTs q e9.l e9.bad).l (rTs q e9.l e9.bad).bad 20000).v], (rT (rTs q e9.l e9.bad).l (rTs q e9.l e9.bad).bad 20000).l, (rT (rTs q e9.l e9.bad).l (rTs q e9.l e9.bad).bad 20000).bad⟩ from rfl)
          rw [← HNB.out, ← hq2, ← hq1] at HTT
          have hc3 : wr.cell? ⟨Y, 3, none⟩ = some (.slice na q nc) := HSN.out.cell 3
          clear hq1 hq2
          go_wp2_with fail
          go_region_law (first
            | (go_simp; go_at_call 37; refine (lText (by exact HSN.out.drew.rd) 20000).mono ?_; rintro e x5 ⟨rfl, hr5, ho5⟩; have hs5 := HSN.out.drew.read hr5 ho5; have HX5 := Lib.hid hs5; clear hr5 ho5; have hc53 : x5.cell? ⟨Y, 3, none⟩ = some (.slice na q nc) := hs5.cell 3; have hca3 : ∀ o : Obj, (x5.alloc o).cell? ⟨Y, 3, none⟩ = some (.slice na q nc) := fun o => (hs5.alloc o).cell 3; clear hs5)
            | (refine wanted_step rfl (wp_append_text (.tmp 61) (.tmp 64) rfl (Y + 1) (.slice na q nc) ns (by rfl) (by exact (HX5.out.alloc _).own) _ x5.heap.size (by rfl) (by rw [cell_heap (heap_new _ _)]; rfl) (by rw [HNL.out]; omega) (by exact (HX5.out.alloc _).h2) ?_); intro a6 c6 x6 ho6 hb6; have hs6 := (HX5.out.alloc _).app hb6 ho6; have HX6 := Lib.hid hs6; have hc63 : x6.cell? ⟨Y, 3, none⟩ = some (.slice na q nc) := hs6.cell 3; have hf6 := hs6.free 3; clear ho6 hb6 hs6))
          all_goals
            have hS7 := HX6.out.set 3 (.slice a6 (ns.length + 1) c6)
            rw [HNL.out] at hS7
            have HX7 := Lib.hid hS7
            clear hS7 hc63 hf6 hc3 hc53 hca3 hcb
            go_wp2_with fail
            go_roundw
            case rel => exact ⟨q + 1, by omega, by go_num, a6, c6, ns ++ [_], _, _, by rw [List.length_append, HNL.out]; rfl, by rw [HTT.out], fun _ => by rw [HTT.out]; exact ⟨rfl, rfl⟩, by rw [HNL.out]; exact HX7.out⟩
            case measure => simp [intOf]; omega
        · have hend : (badn = false → q = jj) ∧ q ≤ jj := ⟨fun hb => by by_cases h1 : q < jj; exact absurd ⟨h1, hb⟩ hgo; omega, hq⟩
          have HEND := Lib.hid hend
          clear hend hgo
          by_cases h1 : q < jj
          · obtain rfl : badn = true := by cases badn with | true => rfl | false => exact absurd (HEND.out.1 rfl) (by omega)
            go_wp2_with fail
            refine (lI64 HSN.out.rd).mono ?_
            rintro e u10 ⟨rfl, hr10, ho10⟩
            have hs10 := HSN.out.read hr10 ho10
            generalize hE10 : rI ln true = e10 at *
            have HE10 := Lib.hid hE10
            clear hr10 ho10 hE10
            have hf10 := hs10.free 4
            have hq10 : u10.cell? ⟨Y, 4, none⟩ = some (.int .i64 0) := hs10.cell 4
            have ht10 : RoS v1 (u10.setCell ⟨Y, 4, none⟩ (.int .i64 e10.v)) p ao n c l0 Y e10.l e10.bad #[.int .i64 e6.v, .string e7.v, .string e8.v, .slice na q nc, .int .i64 e10.v, .int .i64 0, .int .i64 0, .int .i64 0, .int .i64 0, .int .i64 0, .int .i64 0] _ _ := hs10.set 4 (.int .i64 e10.v)
            have HT10 := Lib.hid ht10
            clear hs10 ht10
            go_wp2_with fail
            clear hf10 hq10
            have HS10 := HT10
            refine (lI64 HS10.out.rd).mono ?_
            rintro e u11 ⟨rfl, hr11, ho11⟩
            have hs11 := HS10.out.read hr11 ho11
            generalize hE11 : rI e10.l e10.bad = e11 at *
            have HE11 := Lib.hid hE11
            clear hr11 ho11 hE11
            have hf11 := hs11.free 5
            have hq11 : u11.cell? ⟨Y, 5, none⟩ = some (.int .i64 0) := hs11.cell 5
            have ht11 : RoS v1 (u11.setCell ⟨Y, 5, none⟩ (.int .i64 e11.v)) p ao n c l0 Y e11.l e11.bad #[.int .i64 e6.v, .string e7.v, .string e8.v, .slice na q nc, .int .i64 e10.v, .int .i64 e11.v, .int .i64 0, .int .i64 0, .int .i64 0, .int .i64 0, .int .i64 0] _ _ := hs11.set 5 (.int .i64 e11.v)
            have HT11 := Lib.hid ht11
            clear hs11 ht11
            go_wp2_with fail
            clear hf11 hq11
            have HS11 := HT11
            refine (lI64 HS11.out.rd).mono ?_
            rintro e u12 ⟨rfl, hr12, ho12⟩
            have hs12 := HS11.out.read hr12 ho12
            generalize hE12 : rI e11.l e11.bad = e12 at *
            have HE12 := Lib.hid hE12
            clear hr12 ho12 hE12
            have hf12 := hs12.free 6
            have hq12 : u12.cell? ⟨Y, 6, none⟩ = some (.int .i64 0) := hs12.cell 6
            have ht12 : RoS v1 (u12.setCell ⟨Y, 6, none⟩ (.int .i64 e12.v)) p ao n c l0 Y e12.l e12.bad #[.int .i64 e6.v, .string e7.v, .string e8.v, .slice na q nc, .int .i64 e10.v, .int .i64 e11.v, .int .i64 e12.v, .int .i64 0, .int .i64 0, .int .i64 0, .int .i64 0] _ _ := hs12.set 6 (.int .i64 e12.v)
            have HT12 := Lib.hid ht12
            clear hs12 ht12
            go_wp2_with fail
            clear hf12 hq12
            have HS12 := HT12
            refine (lI64 HS12.out.rd).mono ?_
            rintro e u13 ⟨rfl, hr13, ho13⟩
            have hs13 := HS12.out.read hr13 ho13
            generalize hE13 : rI e12.l e12.bad = e13 at *
            have HE13 := Lib.hid hE13
            clear hr13 ho13 hE13
            have hf13 := hs13.free 7
            have hq13 : u13.cell? ⟨Y, 7, none⟩ = some (.int .i64 0) := hs13.cell 7
            have ht13 : RoS v1 (u13.setCell ⟨Y, 7, none⟩ (.int .i64 e13.v)) p ao n c l0 Y e13.l e13.bad #[.int .i64 e6.v, .string e7.v, .string e8.v, .slice na q nc, .int .i64 e10.v, .int .i64 e11.v, .int .i64 e12.v, .int .i64 e13.v, .int .i64 0, .int .i64 0, .int .i64 0] _ _ := hs13.set 7 (.int .i64 e13.v)
            have HT13 := Lib.hid ht13
            clear hs13 ht13
            go_wp2_with fail
            clear hf13 hq13
            have HS13 := HT13
            refine (lI64 HS13.out.rd).mono ?_
            rintro e u14 ⟨rfl, hr14, ho14⟩
            have hs14 := HS13.out.read hr14 ho14
            generalize hE14 : rI e13.l e13.bad = e14 at *
            have HE14 := Lib.hid hE14
            clear hr14 ho14 hE14
            have hf14 := hs14.free 8
            have hq14 : u14.cell? ⟨Y, 8, none⟩ = some (.int .i64 0) := hs14.cell 8
            have ht14 : RoS v1 (u14.setCell ⟨Y, 8, none⟩ (.int .i64 e14.v)) p ao n c l0 Y e14.l e14.bad #[.int .i64 e6.v, .string e7.v, .string e8.v, .slice na q nc, .int .i64 e10.v, .int .i64 e11.v, .int .i64 e12.v, .int .i64 e13.v, .int .i64 e14.v, .int .i64 0, .int .i64 0] _ _ := hs14.set 8 (.int .i64 e14.v)
            have HT14 := Lib.hid ht14
            clear hs14 ht14
            go_wp2_with fail
            clear hf14 hq14
            have HS14 := HT14
            refine (lI64 HS14.out.rd).mono ?_
            rintro e u15 ⟨rfl, hr15, ho15⟩
            have hs15 := HS14.out.read hr15 ho15
            generalize hE15 : rI e14.l e14.bad = e15 at *
            have HE15 := Lib.hid hE15
            clear hr15 ho15 hE15
            have hf15 := hs15.free 9
            have hq15 : u15.cell? ⟨Y, 9, none⟩ = some (.int .i64 0) := hs15.cell 9
            have ht15 : RoS v1 (u15.setCell ⟨Y, 9, none⟩ (.int .i64 e15.v)) p ao n c l0 Y e15.l e15.bad #[.int .i64 e6.v, .string e7.v, .string e8.v, .slice na q nc, .int .i64 e10.v, .int .i64 e11.v, .int .i64 e12.v, .int .i64 e13.v, .int .i64 e14.v, .int .i64 e15.v, .int .i64 0] _ _ := hs15.set 9 (.int .i64 e15.v)
            have HT15 := Lib.hid ht15
            clear hs15 ht15
            go_wp2_with fail
            clear hf15 hq15
            have HS15 := HT15
            refine (lI64 HS15.out.rd).mono ?_
            rintro e u16 ⟨rfl, hr16, ho16⟩
            have hs16 := HS15.out.read hr16 ho16
            generalize hE16 : rI e15.l e15.bad = e16 at *
            have HE16 := Lib.hid hE16
            clear hr16 ho16 hE16
            have hf16 := hs16.free 10
            have hq16 : u16.cell? ⟨Y, 10, none⟩ = some (.int .i64 0) := hs16.cell 10
            have ht16 : RoS v1 (u16.setCell ⟨Y, 10, none⟩ (.int .i64 e16.v)) p ao n c l0 Y e16.l e16.bad #[.int .i64 e6.v, .string e7.v, .string e8.v, .slice na q nc, .int .i64 e10.v, .int .i64 e11.v, .int .i64 e12.v, .int .i64 e13.v, .int .i64 e14.v, .int .i64 e15.v, .int .i64 e16.v] _ _ := hs16.set 10 (.int .i64 e16.v)
            have HT16 := Lib.hid ht16
            clear hs16 ht16
            have hag : e16.bad = (rOne l false).bad ∧ (e16.bad = false → (⟨e6.v, e7.v, e8.v, ns, e10.v, e11.v, e12.v, e13.v, e14.v, e15.v, e16.v⟩ : Re) = (rOne l false).v ∧ e16.l = (rOne l false).l) := by
              have h7 : r7 ln true = ⟨⟨e10.v, e11.v, e12.v, e13.v, e14.v, e15.v, e16.v⟩, e16.l, e16.bad⟩ := by
                simp only [r7, HE10.out, HE11.out, HE12.out, HE13.out, HE14.out, HE15.out, HE16.out]
              have h1 : rOne l false = ⟨⟨e6.v, e7.v, e8.v, (rTs jj e9.l e9.bad).v, (r7 (rTs jj e9.l e9.bad).l (rTs jj e9.l e9.bad).bad).v.a, (r7 (rTs jj e9.l e9.bad).l (rTs jj e9.l e9.bad).bad).v.b, (r7 (rTs jj e9.l e9.bad).l (rTs jj e9.l e9.bad).bad).v.c, (r7 (rTs jj e9.l e9.bad).l (rTs jj e9.l e9.bad).bad).v.d, (r7 (rTs jj e9.l e9.bad).l (rTs jj e9.l e9.bad).bad).v.e, (r7 (rTs jj e9.l e9.bad).l (rTs jj e9.l e9.bad).bad).v.f, (r7 (rTs jj e9.l e9.bad).l (rTs jj e9.l e9.bad).bad).v.g⟩, (r7 (rTs jj e9.l e9.bad).l (rTs jj e9.l e9.bad).bad).l, (r7 (rTs jj e9.l e9.bad).l (rTs jj e9.l e9.bad).bad).bad⟩ := by
                simp only [rOne, HE6.out, HE7.out, HE8.out, HE9.out, HJJ.out, Int.toNat_natCast]
              rcases Bool.eq_false_or_eq_true true with hbn | hbn
              · have h2 : e16.bad = true := by
                  have h3 := ext_7.stick ln
                  have h7' := h7
                  rw [hbn] at h7'
                  rw [h7'] at h3
                  exact h3
                have h4 : (rTs jj e9.l e9.bad).bad = true := rTs_more q _ _ HNB.out.symm jj (by omega)
                have h5 : (rOne l false).bad = true := by
                  rw [h1]; simp only; rw [h4]; exact ext_7.stick _
                exact ⟨by rw [h2, h5], fun h6 => by rw [h2] at h6; cases h6⟩
              · exact absurd hbn (by decide)
            rw [HRO.out] at hag
            have HAG := Lib.hid hag
            clear hag
            have hN16 : OwnS _ (Y + 1) 9 (.slice na q nc) ns := HT16.out.own
            have hgl := HG6.out
            have hgr := hgl.read HT16.out.rd HT16.out.on
            have HGR := Lib.hid hgr
            have hc4 := hgr.cell 4
            have hX4 : ∀ o : Obj, (World.alloc (u16.setCell ⟨Y, 10, none⟩ (.int .i64 e16.v)) o).cell? ⟨X, 4, none⟩ = some (.slice ga k gc) := fun o => (hgr.alloc o).cell 4
            have hc4' : (u16.setCell ⟨Y, 10, none⟩ (.int .i64 e16.v)).cell? ⟨X, 4, none⟩ = some (.slice ga k gc) := hc4
            have hBY : B ≤ Y + 1 := by have := hgl.h5; omega
            clear hgr hgl hc4
            go_wp2_with (first
              | (refine wpList_load_row rfl 35 (.tmp 8) rfl Y rfl 35 #[.int .i64 e6.v, .string e7.v, .string e8.v, .slice na q nc, .int .i64 e10.v, .int .i64 e11.v, .int .i64 e12.v, .int .i64 e13.v, .int .i64 e14.v, .int .i64 e15.v, .int .i64 e16.v] (0, 0) _ HT16.out.at_ Try.underlying35 rfl size35 ?_)
              | (at_builtin; (refine wpList_plain rfl fun _ hK => wp_append_res (.tmp 96) (.tmp 98) rfl B (.slice ga k gc) rs (by rfl) (by exact (HGR.out.alloc _).own) (⟨e6.v, e7.v, e8.v, ns, e10.v, e11.v, e12.v, e13.v, e14.v, e15.v, e16.v⟩ : Re) na q nc u16.heap.size (by rfl) (by exact heap_new_at _ _ _ (by simp)) (by exact rows_mono (rows_below hN16 ((Below.refl _ _).alloc (Nat.le_refl _) _)) hBY) (by show ns.length ≤ 1000; rw [HNL.out]; omega) (by rw [HRL.out]; omega) (by exact (HGR.out.alloc _).h5) (fun a7 c7 z7 ho7 hb7 => hK _ _ ?_)); have hz7 := (HGR.out.alloc _).app hb7 ho7; have HZ7 := Lib.hid hz7; have hc74 : z7.cell? ⟨X, 4, none⟩ = some (.slice ga k gc) := hz7.cell 4; have hf74 := hz7.free 4; clear ho7 hb7 hz7))
            have hS8 := HZ7.out.set 4 (.slice a7 (rs.length + 1) c7)
            rw [HRL.out] at hS8
            have HS8 := Lib.hid hS8
            clear hS8
            go_roundw
            case rel =>
              refine ⟨k + 1, by omega, by go_num, a7, c7, rs ++ [((⟨e6.v, e7.v, e8.v, ns, e10.v, e11.v, e12.v, e13.v, e14.v, e15.v, e16.v⟩ : Re), .slice na q nc)], e16.l, e16.bad, by rw [List.length_append, HRL.out]; rfl, by rw [HTE.out]; exact HAG.out.1, fun hb => ?_, by rw [HRL.out]; exact HS8.out⟩
              obtain ⟨g1, g2⟩ := HAG.out.2 hb
              rw [HTE.out]
              refine ⟨?_, g2⟩
              rw [resL, List.map_append, ← g1]
              rfl
            case measure => simp [intOf]; omega
          · obtain rfl : q = jj := by omega
            go_wp2_with fail
            refine (lI64 HSN.out.rd).mono ?_
            rintro e u10 ⟨rfl, hr10, ho10⟩
            have hs10 := HSN.out.read hr10 ho10
            generalize hE10 : rI ln badn = e10 at *
            have HE10 := Lib.hid hE10
            clear hr10 ho10 hE10
            have hf10 := hs10.free 4
            have hq10 : u10.cell? ⟨Y, 4, none⟩ = some (.int .i64 0) := hs10.cell 4
            have ht10 : RoS v1 (u10.setCell ⟨Y, 4, none⟩ (.int .i64 e10.v)) p ao n c l0 Y e10.l e10.bad #[.int .i64 e6.v, .string e7.v, .string e8.v, .slice na q nc, .int .i64 e10.v, .int .i64 0, .int .i64 0, .int .i64 0, .int .i64 0, .int .i64 0, .int .i64 0] _ _ := hs10.set 4 (.int .i64 e10.v)
            have HT10 := Lib.hid ht10
            clear hs10 ht10
            go_wp2_with fail
            clear hf10 hq10
            have HS10 := HT10
            refine (lI64 HS10.out.rd).mono ?_
            rintro e u11 ⟨rfl, hr11, ho11⟩
            have hs11 := HS10.out.read hr11 ho11
            generalize hE11 : rI e10.l e10.bad = e11 at *
            have HE11 := Lib.hid hE11
            clear hr11 ho11 hE11
            have hf11 := hs11.free 5
            have hq11 : u11.cell? ⟨Y, 5, none⟩ = some (.int .i64 0) := hs11.cell 5
            have ht11 : RoS v1 (u11.setCell ⟨Y, 5, none⟩ (.int .i64 e11.v)) p ao n c l0 Y e11.l e11.bad #[.int .i64 e6.v, .string e7.v, .string e8.v, .slice na q nc, .int .i64 e10.v, .int .i64 e11.v, .int .i64 0, .int .i64 0, .int .i64 0, .int .i64 0, .int .i64 0] _ _ := hs11.set 5 (.int .i64 e11.v)
            have HT11 := Lib.hid ht11
            clear hs11 ht11
            go_wp2_with fail
            clear hf11 hq11
            have HS11 := HT11
            refine (lI64 HS11.out.rd).mono ?_
            rintro e u12 ⟨rfl, hr12, ho12⟩
            have hs12 := HS11.out.read hr12 ho12
            generalize hE12 : rI e11.l e11.bad = e12 at *
            have HE12 := Lib.hid hE12
            clear hr12 ho12 hE12
            have hf12 := hs12.free 6
            have hq12 : u12.cell? ⟨Y, 6, none⟩ = some (.int .i64 0) := hs12.cell 6
            have ht12 : RoS v1 (u12.setCell ⟨Y, 6, none⟩ (.int .i64 e12.v)) p ao n c l0 Y e12.l e12.bad #[.int .i64 e6.v, .string e7.v, .string e8.v, .slice na q nc, .int .i64 e10.v, .int .i64 e11.v, .int .i64 e12.v, .int .i64 0, .int .i64 0, .int .i64 0, .int .i64 0] _ _ := hs12.set 6 (.int .i64 e12.v)
            have HT12 := Lib.hid ht12
            clear hs12 ht12
            go_wp2_with fail
            clear hf12 hq12
            have HS12 := HT12
            refine (lI64 HS12.out.rd).mono ?_
            rintro e u13 ⟨rfl, hr13, ho13⟩
            have hs13 := HS12.out.read hr13 ho13
            generalize hE13 : rI e12.l e12.bad = e13 at *
            have HE13 := Lib.hid hE13
            clear hr13 ho13 hE13
            have hf13 := hs13.free 7
            have hq13 : u13.cell? ⟨Y, 7, none⟩ = some (.int .i64 0) := hs13.cell 7
            have ht13 : RoS v1 (u13.setCell ⟨Y, 7, none⟩ (.int .i64 e13.v)) p ao n c l0 Y e13.l e13.bad #[.int .i64 e6.v, .string e7.v, .string e8.v, .slice na q nc, .int .i64 e10.v, .int .i64 e11.v, .int .i64 e12.v, .int .i64 e13.v, .int .i64 0, .int .i64 0, .int .i64 0] _ _ := hs13.set 7 (.int .i64 e13.v)
            have HT13 := Lib.hid ht13
            clear hs13 ht13
            go_wp2_with fail
            clear hf13 hq13
            have HS13 := HT13
            refine (lI64 HS13.out.rd).mono ?_
            rintro e u14 ⟨rfl, hr14, ho14⟩
            have hs14 := HS13.out.read hr14 ho14
            generalize hE14 : rI e13.l e13.bad = e14 at *
            have HE14 := Lib.hid hE14
            clear hr14 ho14 hE14
            have hf14 := hs14.free 8
            have hq14 : u14.cell? ⟨Y, 8, none⟩ = some (.int .i64 0) := hs14.cell 8
            have ht14 : RoS v1 (u14.setCell ⟨Y, 8, none⟩ (.int .i64 e14.v)) p ao n c l0 Y e14.l e14.bad #[.int .i64 e6.v, .string e7.v, .string e8.v, .slice na q nc, .int .i64 e10.v, .int .i64 e11.v, .int .i64 e12.v, .int .i64 e13.v, .int .i64 e14.v, .int .i64 0, .int .i64 0] _ _ := hs14.set 8 (.int .i64 e14.v)
            have HT14 := Lib.hid ht14
            clear hs14 ht14
            go_wp2_with fail
            clear hf14 hq14
            have HS14 := HT14
            refine (lI64 HS14.out.rd).mono ?_
            rintro e u15 ⟨rfl, hr15, ho15⟩
            have hs15 := HS14.out.read hr15 ho15
            generalize hE15 : rI e14.l e14.bad = e15 at *
            have HE15 := Lib.hid hE15
            clear hr15 ho15 hE15
            have hf15 := hs15.free 9
            have hq15 : u15.cell? ⟨Y, 9, none⟩ = some (.int .i64 0) := hs15.cell 9
            have ht15 : RoS v1 (u15.setCell ⟨Y, 9, none⟩ (.int .i64 e15.v)) p ao n c l0 Y e15.l e15.bad #[.int .i64 e6.v, .string e7.v, .string e8.v, .slice na q nc, .int .i64 e10.v, .int .i64 e11.v, .int .i64 e12.v, .int .i64 e13.v, .int .i64 e14.v, .int .i64 e15.v, .int .i64 0] _ _ := hs15.set 9 (.int .i64 e15.v)
            have HT15 := Lib.hid ht15
            clear hs15 ht15
            go_wp2_with fail
            clear hf15 hq15
            have HS15 := HT15
            refine (lI64 HS15.out.rd).mono ?_
            rintro e u16 ⟨rfl, hr16, ho16⟩
            have hs16 := HS15.out.read hr16 ho16
            generalize hE16 : rI e15.l e15.bad = e16 at *
            have HE16 := Lib.hid hE16
            clear hr16 ho16 hE16
            have hf16 := hs16.free 10
            have hq16 : u16.cell? ⟨Y, 10, none⟩ = some (.int .i64 0) := hs16.cell 10
            have ht16 : RoS v1 (u16.setCell ⟨Y, 10, none⟩ (.int .i64 e16.v)) p ao n c l0 Y e16.l e16.bad #[.int .i64 e6.v, .string e7.v, .string e8.v, .slice na q nc, .int .i64 e10.v, .int .i64 e11.v, .int .i64 e12.v, .int .i64 e13.v, .int .i64 e14.v, .int .i64 e15.v, .int .i64 e16.v] _ _ := hs16.set 10 (.int .i64 e16.v)
            have HT16 := Lib.hid ht16
            clear hs16 ht16
            have hag : e16.bad = (rOne l false).bad ∧ (e16.bad = false → (⟨e6.v, e7.v, e8.v, ns, e10.v, e11.v, e12.v, e13.v, e14.v, e15.v, e16.v⟩ : Re) = (rOne l false).v ∧ e16.l = (rOne l false).l) := by
              have h7 : r7 ln badn = ⟨⟨e10.v, e11.v, e12.v, e13.v, e14.v, e15.v, e16.v⟩, e16.l, e16.bad⟩ := by
                simp only [r7, HE10.out, HE11.out, HE12.out, HE13.out, HE14.out, HE15.out, HE16.out]
              have h1 : rOne l false = ⟨⟨e6.v, e7.v, e8.v, (rTs q e9.l e9.bad).v, (r7 (rTs q e9.l e9.bad).l (rTs q e9.l e9.bad).bad).v.a, (r7 (rTs q e9.l e9.bad).l (rTs q e9.l e9.bad).bad).v.b, (r7 (rTs q e9.l e9.bad).l (rTs q e9.l e9.bad).bad).v.c, (r7 (rTs q e9.l e9.bad).l (rTs q e9.l e9.bad).bad).v.d, (r7 (rTs q e9.l e9.bad).l (rTs q e9.l e9.bad).bad).v.e, (r7 (rTs q e9.l e9.bad).l (rTs q e9.l e9.bad).bad).v.f, (r7 (rTs q e9.l e9.bad).l (rTs q e9.l e9.bad).bad).v.g⟩, (r7 (rTs q e9.l e9.bad).l (rTs q e9.l e9.bad).bad).l, (r7 (rTs q e9.l e9.bad).l (rTs q e9.l e9.bad).bad).bad⟩ := by
                simp only [rOne, HE6.out, HE7.out, HE8.out, HE9.out, HJJ.out, Int.toNat_natCast]
              rcases Bool.eq_false_or_eq_true badn with hbn | hbn
              · have h2 : e16.bad = true := by
                  have h3 := ext_7.stick ln
                  have h7' := h7
                  rw [hbn] at h7'
                  rw [h7'] at h3
                  exact h3
                have h4 : (rTs q e9.l e9.bad).bad = true := by rw [← HNB.out]; exact hbn
                have h5 : (rOne l false).bad = true := by
                  rw [h1]; simp only; rw [h4]; exact ext_7.stick _
                exact ⟨by rw [h2, h5], fun h6 => by rw [h2] at h6; cases h6⟩
              · obtain ⟨g1, g2⟩ := HNE.out hbn
                have g3 := HNB.out
                rw [h1]
                simp only
                rw [← g1, ← g2, ← g3, h7]
                exact ⟨rfl, fun _ => ⟨rfl, rfl⟩⟩
            rw [HRO.out] at hag
            have HAG := Lib.hid hag
            clear hag
            have hN16 : OwnS _ (Y + 1) 9 (.slice na q nc) ns := HT16.out.own
            have hgl := HG6.out
            have hgr := hgl.read HT16.out.rd HT16.out.on
            have HGR := Lib.hid hgr
            have hc4 := hgr.cell 4
            have hX4 : ∀ o : Obj, (World.alloc (u16.setCell ⟨Y, 10, none⟩ (.int .i64 e16.v)) o).cell? ⟨X, 4, none⟩ = some (.slice ga k gc) := fun o => (hgr.alloc o).cell 4
            have hc4' : (u16.setCell ⟨Y, 10, none⟩ (.int .i64 e16.v)).cell? ⟨X, 4, none⟩ = some (.slice ga k gc) := hc4
            have hBY : B ≤ Y + 1 := by have := hgl.h5; omega
            clear hgr hgl hc4
            go_wp2_with (first
              | (refine wpList_load_row rfl 35 (.tmp 8) rfl Y rfl 35 #[.int .i64 e6.v, .string e7.v, .string e8.v, .slice na q nc, .int .i64 e10.v, .int .i64 e11.v, .int .i64 e12.v, .int .i64 e13.v, .int .i64 e14.v, .int .i64 e15.v, .int .i64 e16.v] (0, 0) _ HT16.out.at_ Try.underlying35 rfl size35 ?_)
              | (at_builtin; (refine wpList_plain rfl fun _ hK => wp_append_res (.tmp 96) (.tmp 98) rfl B (.slice ga k gc) rs (by rfl) (by exact (HGR.out.alloc _).own) (⟨e6.v, e7.v, e8.v, ns, e10.v, e11.v, e12.v, e13.v, e14.v, e15.v, e16.v⟩ : Re) na q nc u16.heap.size (by rfl) (by exact heap_new_at _ _ _ (by simp)) (by exact rows_mono (rows_below hN16 ((Below.refl _ _).alloc (Nat.le_refl _) _)) hBY) (by show ns.length ≤ 1000; rw [HNL.out]; omega) (by rw [HRL.out]; omega) (by exact (HGR.out.alloc _).h5) (fun a7 c7 z7 ho7 hb7 => hK _ _ ?_)); have hz7 := (HGR.out.alloc _).app hb7 ho7; have HZ7 := Lib.hid hz7; have hc74 : z7.cell? ⟨X, 4, none⟩ = some (.slice ga k gc) := hz7.cell 4; have hf74 := hz7.free 4; clear ho7 hb7 hz7))
            have hS8 := HZ7.out.set 4 (.slice a7 (rs.length + 1) c7)
            rw [HRL.out] at hS8
            have HS8 := Lib.hid hS8
            clear hS8
            go_roundw
            case rel =>
              refine ⟨k + 1, by omega, by go_num, a7, c7, rs ++ [((⟨e6.v, e7.v, e8.v, ns, e10.v, e11.v, e12.v, e13.v, e14.v, e15.v, e16.v⟩ : Re), .slice na q nc)], e16.l, e16.bad, by rw [List.length_append, HRL.out]; rfl, by rw [HTE.out]; exact HAG.out.1, fun hb => ?_, by rw [HRL.out]; exact HS8.out⟩
              obtain ⟨g1, g2⟩ := HAG.out.2 hb
              rw [HTE.out]
              refine ⟨?_, g2⟩
              rw [resL, List.map_append, ← g1]
              rfl
            case measure => simp [intOf]; omega
    · have hend : (bad = false → k = kk) ∧ k ≤ kk := ⟨fun hb => by by_cases h1 : k < kk; exact absurd ⟨h1, hb⟩ hgo; omega, hk⟩
      have HEND := Lib.hid hend
      have hcond : (decide ((k : Int) < (kk : Int)) && !bad) = false := by
        by_cases h1 : k < kk
        · cases bad with
          | true => simp
          | false => exact absurd ⟨h1, rfl⟩ hgo
        · simp; omega
      clear hend hgo hcond
      have hget : (bad = true → getR l0 = (⟨0, 0, 0, 0, []⟩, 3)) ∧ (bad = false → getR l0 = if (!false && l.isEmpty) = true then (⟨e1.v, e2.v, e3.v, e4.v, resL rs⟩, 0) else (⟨0, 0, 0, 0, []⟩, 3)) := by
        have hres : rRep l0 false = ⟨⟨e1.v, e2.v, e3.v, e4.v, (rAll kk e5.l e5.bad).v⟩, (rAll kk e5.l e5.bad).l, (rAll kk e5.l e5.bad).bad⟩ := by
          simp only [rRep, HE1.out, HE2.out, HE3.out, HE4.out, HE5.out, HKK.out, Int.toNat_natCast]
        refine ⟨fun hb => ?_, fun hb => ?_⟩
        · have h4 : (rAll kk e5.l e5.bad).bad = true := rAll_more k _ _ (by rw [← HBD.out]; exact hb) kk HEND.out.2
          rw [getR, hres]; simp only; rw [h4]; rfl
        · have hkk := HEND.out.1 hb
          obtain ⟨g1, g2⟩ := HEQ.out hb
          have g3 := HBD.out
          rw [hkk, hb] at g3
          rw [hkk] at g1 g2
          rw [getR, hres]; simp only; rw [← g1, ← g2, ← g3]
      have HGET := Lib.hid hget
      clear hget
      have hXs : w.heap.size < X := by have := HST.out.h1; have := HST.out.h2; have := HST.out.h3; omega
      by_cases h1 : k < kk
      · obtain rfl : bad = true := by cases bad with | true => rfl | false => exact absurd (HEND.out.1 rfl) (by omega)
        have HG := Lib.hid (HGET.out.1 rfl)
        go_wp2_with fail
        refine (lEnd HST.out.rd).mono ?_
        rintro e w2 ⟨dd, rfl, rfl⟩
        have hst2 : GrS w (wr.drewN dd) p w.heap.size X B ao n c l0 l true #[.int .i64 e1.v, .int .i64 e2.v, .int .i64 e3.v, .int .i64 e4.v, .slice ga k gc] (.slice ga k gc) rs := HST.out.app (below_drew (Below.refl _ _) dd) (HST.out.own.below (below_drew (Below.refl _ _) dd))
        have HS2 := Lib.hid hst2; clear hst2
        generalize wr.drewN dd = wq at *
        simp only [Bool.not_true, Bool.false_and]
        go_wp2_with (refine wpList_store_row rfl 40 (.tmp 2) (.tmp 104) rfl w.heap.size #[.int .i64 0, .int .i64 0, .int .i64 0, .int .i64 0, .slice none 0 0] rfl rfl 40 _ HS2.out.res size40 rfl (rep_ones _ _ _ _ _ _ _) ?_)
        have HON := Lib.hid (show Only [w.heap.size] wq (wq.setRow w.heap.size #[.int .i64 0, .int .i64 0, .int .i64 0, .int .i64 0, .slice none 0 0]) from ⟨rfl, rfl, rfl, by simp, fun k _ hk => setRow_other _ _ _ _ (by simpa using hk)⟩)
        have HHP := Lib.hid (setRow_heap wq w.heap.size _ #[.int .i64 0, .int .i64 0, .int .i64 0, .int .i64 0, .slice none 0 0] 40 (0, 0) HS2.out.res)
        (try simp only [Exit.inBlock, Exit.then])
        have hB := HS2.out.below.trans (HON.out.below HS2.out.below.size (by simp))
        refine bodyPost_ret (results_rep_tmp (fn := Try.f22) rfl _ _ w.heap.size _ _ rfl rfl HHP.out Try.underlying40 size40) rfl ?_
        rw [HG.out]
        exact ⟨_, [], rfl, ResOwn.nil _ _, rfl, by simp, hB⟩
      · obtain rfl : k = kk := by omega
        go_wp2_with fail
        refine (lEnd HST.out.rd).mono ?_
        rintro e w2 ⟨dd, rfl, rfl⟩
        have hst2 : GrS w (wr.drewN dd) p w.heap.size X B ao n c l0 l bad #[.int .i64 e1.v, .int .i64 e2.v, .int .i64 e3.v, .int .i64 e4.v, .slice ga k gc] (.slice ga k gc) rs := HST.out.app (below_drew (Below.refl _ _) dd) (HST.out.own.below (below_drew (Below.refl _ _) dd))
        have HS2 := Lib.hid hst2; clear hst2
        generalize wr.drewN dd = wq at *
        cases hok : (!bad && l.isEmpty) with
        | true =>
          have hbf : bad = false := by cases bad; rfl; simp at hok
          have hg : getR l0 = (⟨e1.v, e2.v, e3.v, e4.v, resL rs⟩, 0) := by rw [HGET.out.2 hbf, if_pos (by rw [hbf] at hok; exact hok)]
          have HG := Lib.hid hg; clear hg
          go_wp2_with (first
            | (refine wpList_load_row rfl 40 (.tmp 5) rfl X rfl 40 #[.int .i64 e1.v, .int .i64 e2.v, .int .i64 e3.v, .int .i64 e4.v, .slice ga k gc] (0, 0) _ HS2.out.at_ Try.underlying40 rfl size40 ?_)
            | (refine wpList_store_row rfl 40 (.tmp 2) (.tmp 105) rfl w.heap.size #[.int .i64 e1.v, .int .i64 e2.v, .int .i64 e3.v, .int .i64 e4.v, .slice ga k gc] rfl rfl 40 _ HS2.out.res size40 rfl (rep_ones _ _ _ _ _ _ _) ?_))
          have HON := Lib.hid (show Only [w.heap.size] wq (wq.setRow w.heap.size #[.int .i64 e1.v, .int .i64 e2.v, .int .i64 e3.v, .int .i64 e4.v, .slice ga k gc]) from ⟨rfl, rfl, rfl, by simp, fun k _ hk => setRow_other _ _ _ _ (by simpa using hk)⟩)
          have HHP := Lib.hid (setRow_heap wq w.heap.size _ #[.int .i64 e1.v, .int .i64 e2.v, .int .i64 e3.v, .int .i64 e4.v, .slice ga k gc] 40 (0, 0) HS2.out.res)
          (try simp only [Exit.inBlock, Exit.then])
          have hB := HS2.out.below.trans (HON.out.below HS2.out.below.size (by simp))
          refine bodyPost_ret (results_rep_tmp (fn := Try.f22) rfl _ _ w.heap.size _ _ rfl rfl HHP.out Try.underlying40 size40) rfl ?_
          rw [HG.out]
          exact ⟨_, rs, rfl, (HS2.out.own.only HON.out (by simp; have := HS2.out.h4; omega)).mono (by have := HS2.out.h4; omega), rfl, by rw [HRL.out]; omega, hB⟩
        | false =>
          have hg : getR l0 = (⟨0, 0, 0, 0, []⟩, 3) := by
            cases hb : bad with
            | true => exact HGET.out.1 hb
            | false => rw [HGET.out.2 hb, if_neg (by rw [hb] at hok; rw [hok]; decide)]
          have HG := Lib.hid hg; clear hg
          go_wp2_with (refine wpList_store_row rfl 40 (.tmp 2) (.tmp 104) rfl w.heap.size #[.int .i64 0, .int .i64 0, .int .i64 0, .int .i64 0, .slice none 0 0] rfl rfl 40 _ HS2.out.res size40 rfl (rep_ones _ _ _ _ _ _ _) ?_)
          have HON := Lib.hid (show Only [w.heap.size] wq (wq.setRow w.heap.size #[.int .i64 0, .int .i64 0, .int .i64 0, .int .i64 0, .slice none 0 0]) from ⟨rfl, rfl, rfl, by simp, fun k _ hk => setRow_other _ _ _ _ (by simpa using hk)⟩)
          have HHP := Lib.hid (setRow_heap wq w.heap.size _ #[.int .i64 0, .int .i64 0, .int .i64 0, .int .i64 0, .slice none 0 0] 40 (0, 0) HS2.out.res)
          (try simp only [Exit.inBlock, Exit.then])
          have hB := HS2.out.below.trans (HON.out.below HS2.out.below.size (by simp))
          refine bodyPost_ret (results_rep_tmp (fn := Try.f22) rfl _ _ w.heap.size _ _ rfl rfl HHP.out Try.underlying40 size40) rfl ?_
          rw [HG.out]
          exact ⟨_, [], rfl, ResOwn.nil _ _, rfl, by simp, hB⟩
end Go.Proofs.Ytpikdeikcmdcmaa
