/-
  What the proof of the law leans on: contracts of the program's functions, one behind another. No condition.
-/
import Derived.ProofKit
import Derived.OpenShut
import Derived.ShutString
import Derived.ChangeOld
import Derived.SizedLaws
import Derived.WalkKit
import Derived.Deep.Slices
import Derived.WalkSpells
import Derived.WalkLawsBesides
import Derived.Lib.Hide
import Derived.Laws.AppendOwnNone
import Derived.Deep.QuietTactic
import Derived.BigQuiet
import Derived.Deep.RegionWith
import Derived.Orders
import Derived.Test.YtnicaicjgaoolaaRows
import Derived.Maps.Keyed
import Derived.DeepKeys4
import Derived.ChangeMaps5
set_option linter.unusedVariables false
set_option linter.unusedSimpArgs false
namespace Go.Proofs.Ytnicaicjgaoolaa
open Go.ChangeShapes Go.WideShapes Go.ChangeAt Go.RowKit

section
variable {H : Type} {enc : TypeId × Value → H} {P : Program}

theorem trodAll_below (hl : laidOutB P = true) {W W' : World} (hb : Below W.heap.size W W') : ∀ (ts : List TypeId) (vs : List Value) (ds : List (DataW H)) (ps : List MemPlace),
  (∀ t ∈ ts, P.readableRec t = true ∧ t < P.types.size) → DataW.TrodAll enc P W 0 (fun _ => true) true ts vs ds ps → DataW.TrodAll enc P W' 0 (fun b => decide (b < W.heap.size)) true ts vs ds ps
 | [], [], [], _, _, h => h
 | t :: ts, v :: vs, d :: ds, _, hr, h => by
  obtain ⟨p, q, h1, h2, h3⟩ := h
  refine ⟨p, q, Below.trod hl (hr t (by simp)).1 (hr t (by simp)).2 h1 hb ?_, trodAll_below hl hb ts vs ds q (fun t ht => hr t (by simp [ht])) h2, h3⟩
  obtain ⟨m, hm⟩ := h1
  exact DataW.trod_lt m _ _ _ hm
 | [], [], _ :: _, _, _, h => h.elim
 | [], _ :: _, _, _, _, h => h.elim
 | _ :: _, [], _, _, _, h => h.elim
 | _ :: _, _ :: _, [], _, _, h => h.elim

/-- the post of a law, whatever its parameters -/
theorem law_post {fn : Func} {s : ChangeSpec} {W W' : World} {args : Array Value} {ds gs : List (DataW H)} {before : List MemPlace} {b : TypeId}
  (hl : laidOutB P = true) (hr : ∀ t ∈ fn.params.toList, P.readableRec t = true ∧ t < P.types.size) (hres : fn.resultTypes = #[b]) (hbool : P.underlying b = some .bool) (hvars : s.vars = [])
  (hs : s.fn H ds = { results := [.lit (.bool true)], args := ds }) (hW : DataW.Whole enc P fn.params.toList s.vars false W args.toList ds gs before) (hb : Below W.heap.size W W') :
  s.post enc P fn false true false false W args (.bool true) W' := by
 have hW' := hW
 obtain ⟨p, q, hA, hV, hp, _, _⟩ := hW
 rw [hvars] at hV
 obtain ⟨rfl, rfl⟩ := trodVars_none hV
 refine ⟨ds, [], before, [], p, [], hW', ?_, ?_, ?_, hb.frame _, fun h => by cases h⟩
 ·rw [List.append_nil, hs, hres]
  exact trodAll_mk1 (shut_bool hbool _)
 ·rw [List.append_nil, hs]
  exact trodAll_below hl hb _ _ _ _ hr hA
 ·rw [List.append_nil, hs, hvars]
  rfl

theorem weights_arg {ts : List TypeId} {ds : List (DataW H)} (h : (DataW.weightsEach P ts ds).all (· ≤ reachBytes) = true) {j : Nat} {t : TypeId} {d : DataW H} (ht : ts[j]? = some t) (hd : ds[j]? = some d) :
  (DataW.weights P t d).all (· ≤ reachBytes) = true :=
 List.all_eq_true.2 fun x hx => List.all_eq_true.1 h x (DataW.weights_mem_each ht hd x hx)

/-- what a part weighs is among what the whole weighs -/
theorem weightsAll_mem {e : TypeId} {x : Nat} : ∀ (l : List (DataW H)) (d : DataW H), d ∈ l → x ∈ DataW.weights P e d → x ∈ DataW.weightsAll P e l
 | [], _, hd, _ => by cases hd
 | y :: l, d, hd, hx => by
  simp only [DataW.weightsAll, List.mem_append]
  rcases List.mem_cons.1 hd with rfl | hd
  ·exact .inl hx
  ·exact .inr (weightsAll_mem l d hd hx)
theorem weights_elem {e : TypeId} {l : List (DataW H)} {d : DataW H} (h : (DataW.weightsAll P e l).all (· ≤ reachBytes) = true) (hd : d ∈ l) : (DataW.weights P e d).all (· ≤ reachBytes) = true :=
 List.all_eq_true.2 fun x hx => List.all_eq_true.1 h x (weightsAll_mem l d hd hx)
end

end Go.Proofs.Ytnicaicjgaoolaa
namespace Go.Proofs.Ytnicaicjgaoolaa
open Go.RowKit

/-- a byte as a cell -/
def bv (x : UInt8) : Value := .int .u8 (x.toNat : Int)

/-- a slice of bytes that reads as l -/
structure IsB (w : World) (ao : Option Addr) (n c : Nat) (l : List UInt8) : Prop where
 len : l.length = n
 nil : ao = none → n = 0 ∧ c = 0
 at_ : n = 0 ∨ ∃ b off, ao = some ⟨b, off, none⟩ ∧ ∀ i, i < n → w.cell? ⟨b, off + i, none⟩ = some (.int .u8 ((l.getD i 0).toNat : Int))

/-- a slice of slices of bytes that reads as ls -/
structure IsBB (w : World) (ao : Option Addr) (n : Nat) (ls : List (List UInt8)) : Prop where
 len : ls.length = n
 at_ : n = 0 ∨ ∃ b off, ao = some ⟨b, off, none⟩ ∧ ∀ i, i < n → ∃ a m c, w.cell? ⟨b, off + i, none⟩ = some (.slice a m c) ∧ IsB w a m c (ls.getD i []) ∧ m ≤ 140737488351232

theorem IsB.below {w w' : World} {ao : Option Addr} {n c : Nat} {l : List UInt8} (h : IsB w ao n c l) (hb : Below w.heap.size w w') : IsB w' ao n c l := by
 obtain ⟨h1, h2, h3⟩ := h
 refine ⟨h1, h2, ?_⟩
 rcases h3 with h3 | ⟨b, off, h4, h5⟩
 ·exact .inl h3
 ·exact .inr ⟨b, off, h4, fun i hi => cell_later hb (h5 i hi)⟩

theorem IsB.alloc {w : World} {ao : Option Addr} {n c : Nat} {l : List UInt8} (h : IsB w ao n c l) (o : Obj) : IsB (w.alloc o) ao n c l :=
 h.below ((Below.refl _ _).alloc (Nat.le_refl _) o)

theorem IsBB.below {w w' : World} {ao : Option Addr} {n : Nat} {ls : List (List UInt8)} (h : IsBB w ao n ls) (hb : Below w.heap.size w w') : IsBB w' ao n ls := by
 obtain ⟨h1, h3⟩ := h
 refine ⟨h1, ?_⟩
 rcases h3 with h3 | ⟨b, off, h4, h5⟩
 ·exact .inl h3
 ·refine .inr ⟨b, off, h4, fun i hi => ?_⟩
  obtain ⟨a, m, c, k1, k2, k3⟩ := h5 i hi
  exact ⟨a, m, c, cell_later hb k1, k2.below hb, k3⟩

theorem IsB.heapw {w w' : World} {ao : Option Addr} {n c : Nat} {l : List UInt8} (h : IsB w ao n c l) (hw : w'.heap = w.heap) : IsB w' ao n c l := by
 obtain ⟨h1, h2, h3⟩ := h
 refine ⟨h1, h2, ?_⟩
 rcases h3 with h3 | ⟨b, off, h4, h5⟩
 ·exact .inl h3
 ·exact .inr ⟨b, off, h4, fun i hi => (World.cell?_of_block (by rw [hw])).trans (h5 i hi)⟩
theorem IsBB.heapw {w w' : World} {ao : Option Addr} {n : Nat} {ls : List (List UInt8)} (h : IsBB w ao n ls) (hw : w'.heap = w.heap) : IsBB w' ao n ls := by
 obtain ⟨h1, h3⟩ := h
 refine ⟨h1, ?_⟩
 rcases h3 with h3 | ⟨b, off, h4, h5⟩
 ·exact .inl h3
 ·refine .inr ⟨b, off, h4, fun i hi => ?_⟩
  obtain ⟨a, m, c, k1, k2, k3⟩ := h5 i hi
  exact ⟨a, m, c, (World.cell?_of_block (by rw [hw])).trans k1, k2.heapw hw, k3⟩
theorem isB_take {w : World} {ao : Option Addr} {n c : Nat} {l : List UInt8} (h : IsB w ao n c l) (k : Nat) (hk : k ≤ n) : IsB w ao k c (l.take k) := by
 obtain ⟨h1, h2, h3⟩ := h
 refine ⟨by rw [List.length_take, h1]; omega, (fun e => ⟨by have := (h2 e).1; omega, (h2 e).2⟩), ?_⟩
 rcases h3 with h3 | ⟨b, off, h4, h5⟩
 ·exact .inl (by omega)
 ·refine .inr ⟨b, off, h4, fun i hi => ?_⟩
  rw [h5 i (by omega)]
  simp [hi]
theorem isB_drop {w : World} {b off n c : Nat} {l : List UInt8} (h : IsB w (some ⟨b, off, none⟩) n c l) (k c' : Nat) (hk : k ≤ n) : IsB w (some ⟨b, off + k, none⟩) (n - k) c' (l.drop k) := by
 obtain ⟨h1, h2, h3⟩ := h
 refine ⟨by rw [List.length_drop, h1], (fun e => by cases e), ?_⟩
 rcases h3 with h3 | ⟨b', off', h4, h5⟩
 ·exact .inl (by omega)
 ·cases h4
  refine .inr ⟨b, off + k, rfl, fun i hi => ?_⟩
  rw [Nat.add_assoc, h5 (k + i) (by omega)]
  simp [List.getElem?_drop]
theorem isB_zero {w : World} {p : Addr} (c : Nat) : IsB w (some p) 0 c [] := ⟨rfl, (fun e => by cases e), .inl rfl⟩
theorem isB_cap {w : World} {ao : Option Addr} {n c c' : Nat} {l : List UInt8} (h : IsB w ao n c l) (hn : ao = none → c' = 0) : IsB w ao n c' l :=
 ⟨h.len, fun e => ⟨(h.nil e).1, hn e⟩, h.at_⟩

theorem isB_nil (w : World) : IsB w none 0 0 [] := ⟨rfl, fun _ => ⟨rfl, rfl⟩, .inl rfl⟩

/-- new bytes, laid out as a block -/
theorem isB_new (w : World) (l : List UInt8) (vs : Array Value) (hv : vs = (l.map bv).toArray) (t : TypeId) (fr : Nat × Nat) (H : Nat) (hH : H = w.heap.size) (n : Nat) (hn : l.length = n) (c : Nat) :
  IsB (w.alloc (.cells vs t fr)) (some ⟨H, 0, none⟩) n c l := by
 subst hH hv hn
 refine ⟨rfl, (fun h => by cases h), .inr ⟨_, _, rfl, fun i hi => ?_⟩⟩
 rw [World.cell?_alloc_mark]
 simp [hi, bv]

/-- one slice of bytes, alone in a new block -/
theorem isBB_one (w : World) (a : Option Addr) (m c : Nat) (l : List UInt8) (h : IsB w a m c l) (hm : m ≤ 140737488351232) (t : TypeId) (fr : Nat × Nat) (H : Nat) (hH : H = w.heap.size) :
  IsBB (w.alloc (.cells #[.slice a m c] t fr)) (some ⟨H, 0, none⟩) 1 [l] := by
 subst hH
 refine ⟨rfl, .inr ⟨_, _, rfl, fun i hi => ?_⟩⟩
 obtain rfl : i = 0 := by omega
 refine ⟨a, m, c, ?_, by simpa using h.alloc _, hm⟩
 rw [World.cell?_alloc_mark]
 rfl

/-- what the call owns reads as a slice of bytes -/
theorem isB_own {w : World} {base : Nat} {e : TypeId} {v : Value} {n : Nat} {l : List UInt8} (h : w.ownsRow base e 1 v n (l.map bv)) :
  ∃ ao c, v = .slice ao n c ∧ IsB w ao n c l := by
 obtain ⟨h1, h2⟩ := h
 have hl : l.length = n := by simpa using h1
 rcases h2 with ⟨rfl, rfl⟩ | ⟨g, cap, cur, rfl, hg, hh, hn, hm, hs, ht⟩
 ·exact ⟨none, 0, rfl, hl, fun _ => ⟨rfl, rfl⟩, .inl rfl⟩
 ·refine ⟨_, cap, rfl, hl, (fun h => by cases h), .inr ⟨g, 0, rfl, fun i hi => ?_⟩⟩
  have : cur.toList[i]? = some (bv (l.getD i 0)) := by
   have h3 : (cur.toList.take (n * 1))[i]? = (l.map bv)[i]? := by rw [ht]
   rw [List.getElem?_take, if_pos (by omega)] at h3
   rw [h3]
   have : i < l.length := by omega
   simp [this]
  simp only [World.cell?, hh, Nat.zero_add]
  simpa [bv] using this

/-- a slice value that the call made itself (its block lies from base on) and that reads as l -/
def OwnB (w : World) (base : Nat) (e : TypeId) (v : Value) (l : List UInt8) : Prop := w.ownsRow base e 1 v l.length (l.map bv)

theorem OwnB.nil (w : World) (base : Nat) (e : TypeId) : OwnB w base e (.slice none 0 0) [] := World.ownsRow_nil _ _ _ _
theorem OwnB.alloc {w : World} {base : Nat} {e : TypeId} {v : Value} {l : List UInt8} (h : OwnB w base e v l) (o : Obj) : OwnB (w.alloc o) base e v l := World.ownsRow.alloc h o
theorem OwnB.drew {w : World} {base : Nat} {e : TypeId} {v : Value} {l : List UInt8} (h : OwnB w base e v l) : OwnB w.drew base e v l := h
theorem OwnB.isB {w : World} {base : Nat} {e : TypeId} {v : Value} {l : List UInt8} (h : OwnB w base e v l) : ∃ ao c, v = .slice ao l.length c ∧ IsB w ao l.length c l := isB_own h
theorem OwnB.lt {w : World} {base : Nat} {e : TypeId} {v : Value} {l : List UInt8} (h : OwnB w base e v l) : ∀ k, v.ownBlock = some k → base ≤ k ∧ k < w.heap.size := World.ownsRow.lt h
/-- it stays so where nothing below a number that is beyond its block has turned -/
theorem OwnB.below {w w' : World} {base : Nat} {e : TypeId} {v : Value} {l : List UInt8} (h : OwnB w base e v l) (hb : Below w.heap.size w w') : OwnB w' base e v l := by
 refine ⟨h.1, ?_⟩
 rcases h.2 with h2 | ⟨g, cap, cur, hv, hg, hh, r⟩
 ·exact .inl h2
 ·exact .inr ⟨g, cap, cur, hv, hg, by rw [hb.block g (Array.getElem?_eq_some_iff.1 hh).1]; exact hh, r⟩
theorem OwnB.mono {w : World} {base base' : Nat} {e : TypeId} {v : Value} {l : List UInt8} (h : OwnB w base e v l) (hb : base' ≤ base) : OwnB w base' e v l := by
 refine ⟨h.1, ?_⟩
 rcases h.2 with h2 | ⟨g, cap, cur, hv, hg, hh, r⟩
 ·exact .inl h2
 ·exact .inr ⟨g, cap, cur, hv, Nat.le_trans hb hg, hh, r⟩
/-- a new, empty block of bytes -/
theorem OwnB.new (w : World) (base : Nat) (e : TypeId) (l : List UInt8) (vs : Array Value) (hv : vs = (l.map bv).toArray) (H : Nat) (hH : H = w.heap.size) (hb : base ≤ w.heap.size) (n : Nat) (hn : l.length = n) (hm : n ≤ 140737488355328) :
  OwnB (w.alloc (.cells vs e)) base e (.slice (some ⟨H, 0, none⟩) n n) l := by
 subst hH hv hn
 refine ⟨by simp, .inr ⟨w.heap.size, l.length, _, rfl, hb, heap_alloc_new w _, Nat.le_refl _, by unfold maxLen; omega, by simp, ?_⟩⟩
 simp [List.take_of_length_le]

/-- what an owned slice of bytes is in memory -/
theorem OwnB.form {w : World} {base : Nat} {e : TypeId} {v : Value} {l : List UInt8} (h : OwnB w base e v l) (hl : 0 < l.length) :
  ∃ g cap, v = .slice (some ⟨g, 0, none⟩) l.length cap ∧ base ≤ g ∧ g < w.heap.size ∧ (∀ i, i < l.length → w.cell? ⟨g, i, none⟩ = some (.int .u8 ((l.getD i 0).toNat : Int))) ∧ ∀ i, w.frozen? ⟨g, i, none⟩ = false := by
 have h' := h
 obtain ⟨_, h2⟩ := h
 rcases h2 with ⟨_, h0⟩ | ⟨g, cap, cur, rfl, hb, hh, _⟩
 ·omega
 ·refine ⟨g, cap, rfl, hb, (Array.getElem?_eq_some_iff.1 hh).1, fun i hi => ?_, fun i => World.ownsRow.frozenAt h' i⟩
  rw [World.ownsRow.cellAt h' i (by omega)]
  simp [hi, bv]
/-- a byte is stored -/
theorem OwnB.set {w : World} {base g cap : Nat} {e : TypeId} {l : List UInt8} (h : OwnB w base e (.slice (some ⟨g, 0, none⟩) l.length cap) l) (i : Nat) (x : UInt8) :
  OwnB (w.setCell ⟨g, i, none⟩ (.int .u8 (x.toNat : Int))) base e (.slice (some ⟨g, 0, none⟩) (l.set i x).length cap) (l.set i x) := by
 have := World.ownsRow.stored h i (.int .u8 (x.toNat : Int))
 unfold OwnB
 rw [List.length_set, List.map_set]
 exact this.1

/-- APPEND, whatever is appended that reads as bytes: nil, empty or not -/
theorem wpList_append_bytes {P : Program} {w : World} {ops : Array Oper} {rest : List Oper} {o : Oper} {a : Act} {Q : Exit → Act → World → Prop} (hgd : o.guard = none) (s x : Operand) (t : TypeId)
  (ho : o.op = .call { callee := .builtin .append, args := #[s, x], argTypes := #[t, t] })
  (base : Nat) (e : TypeId) (ht : P.underlying t = some (.slice e)) (hi : (P.info? e).map (fun i => (i.zero, i.size, i.bytes)) = some (some (.int .u8 0), 1, 1))
  (v : Value) (l : List UInt8) (hs : a.eval s = v) (hown : OwnB w base e v l)
  (ao : Option Addr) (m c : Nat) (l2 : List UInt8) (hx : a.eval x = .slice ao m c) (hsrc : IsB w ao m c l2)
  (hbytes : l.length + m ≤ 140737488355328) (hbase : base ≤ w.heap.size)
  (h : ∀ v' w', OwnB w' base e v' (l ++ l2) → w.grownBy w' v.ownBlock → Below base w w' → wpList P ops Q rest (a.put o.dst v') w') : wpList P ops Q (o :: rest) a w := by
 obtain ⟨i0, hi0, hz0, hz1, hz2⟩ := info_parts hi
 obtain ⟨h1, h2, h3⟩ := hsrc
 have hb : ∀ w', w.grownBy w' v.ownBlock → Below base w w' := fun w' hg => (Below.refl base w).grown hg hbase (fun k hk => (hown.lt k hk).1)
 unfold OwnB at hown h
 cases ao with
 | none =>
  obtain ⟨rfl, rfl⟩ := h2 rfl
  obtain rfl : l2 = [] := List.length_eq_zero_iff.1 h1
  exact wpList_append_own_none hgd s x t ho base e i0 1 ht hi0 v _ _ hs hown hx (h v w (by simpa using hown) (World.grownBy.refl _ _) (Below.refl _ _))
 | some ad =>
  refine wpList_append_own w hgd s x t ho base e i0 (.int .u8 0) 1 1 ht hi0 hz0 hz1 hz2 rfl (by decide) v _ _ hs hown ad m c (l2.map bv) hx (by simpa using h1) ?_ ?_ (by unfold maxLen; omega) (by omega) hbase ?_
  ·intro j u hj
   rcases h3 with h3 | ⟨b, off, h4, h5⟩
   ·subst h3
    obtain rfl : l2 = [] := List.length_eq_zero_iff.1 h1
    simp at hj
   ·obtain rfl : ad = ⟨b, off, none⟩ := by simpa using h4
    have hjl : j < l2.length := by
     rcases Nat.lt_or_ge j l2.length with hlt | hge
     ·exact hlt
     ·simp [List.getElem?_eq_none hge] at hj
    have := h5 j (by omega)
    rw [Addr.add_lit, this]
    simp [hjl] at hj
    simp [← hj, hjl, bv]
  ·intro u hu
   obtain ⟨y, _, rfl⟩ := List.mem_map.1 hu
   rfl
  ·intro v' w' g1 g2 _
   exact h v' w' (by rw [List.length_append, h1, List.map_append]; exact g1) g2 (hb w' g2)

/-- MAKE: n bytes of nought -/
theorem wpList_make_bytes {P : Program} {w : World} {ops : Array Oper} {rest : List Oper} {o : Oper} {a : Act} {Q : Exit → Act → World → Prop} (hgd : o.guard = none) (x y : Operand) (t : TypeId)
  (ho : o.op = Op.makeSlice t x y) (base : Nat) (e : TypeId) (ht : P.underlying t = some (.slice e)) (hi : (P.info? e).map (fun i => (i.zero, i.size, i.bytes)) = some (some (.int .u8 0), 1, 1))
  (n : Nat) (hx : a.eval x = .int .i64 (n : Int)) (hy : a.eval y = .int .i64 (n : Int)) (hn : n ≤ 281474976710656) (hbase : base ≤ w.heap.size)
  (h : ∀ w', OwnB w' base e (.slice (some ⟨w.heap.size, 0, none⟩) n n) (List.replicate n 0) → Below base w w' → w.heap.size < w'.heap.size → wpList P ops Q rest (a.put o.dst (.slice (some ⟨w.heap.size, 0, none⟩) n n)) w') : wpList P ops Q (o :: rest) a w := by
 obtain ⟨i0, hi0, hz0, hz1, hz2⟩ := info_parts hi
 refine wpList_make_full w hgd x y t ho base e i0 (.int .u8 0) 1 ht hi0 hz0 hz1 .i64 .i64 _ _ n hx hy rfl rfl (by rw [hz2]; omega) (by unfold maxLen; omega) hbase fun w' h1 h2 => ?_
 have h3 : (madeCells (Value.int .u8 0).cells (n * 1)).toList = (List.replicate n (0 : UInt8)).map bv := by
  rw [Nat.mul_one, show (Value.int .u8 0).cells = #[Value.int .u8 0] from rfl, toList_madeCells_one, List.map_replicate]; rfl
 rw [h3] at h1
 refine h w' (by unfold OwnB; rw [List.length_replicate]; exact h1) ((Below.refl base w).grown h2 hbase (fun k hk => by cases hk)) ?_
 exact (h1.lt w.heap.size rfl).2

end Go.Proofs.Ytnicaicjgaoolaa
namespace Go.Proofs.Ytnicaicjgaoolaa
open Go.ChangeShapes Go.WideShapes Go.ChangeAt Go.RowKit

section
variable {H : Type} {enc : TypeId × Value → H} {P : Program}

/-- the bytes of numbers -/
def bytesOf (zs : List Int) : List UInt8 := zs.map fun z : Int => UInt8.ofNat z.toNat

/-- a slice of bytes that came in, as its cell shows it -/
theorem open_bytes_cells {W : World} {t e : TypeId} {fuel : Nat} {cs : List Value} {d : DataW H} {ps : List MemPlace} (ht : P.underlying t = some (.slice e)) (he : P.underlying e = some (.int .u8)) (hc : P.cellsOf e = 1) (hbu : P.bytesOf e = 1)
  (h : DataW.trod enc P W 0 (fun _ => true) true fuel t cs = some (d, ps)) (hsz : (DataW.weights P t d).all (· ≤ reachBytes) = true) :
  ∃ ao n c l, cs = [.slice ao n c] ∧ IsB W ao n c l ∧ n ≤ c ∧ c ≤ 140737488351232 := by
 rcases open_ints ht he hc h with ⟨hcs, hx⟩ | ⟨ad, n, c, zs, hcs, _, hle, _, hz, hx, hcell, hwf⟩
 ·exact ⟨none, 0, 0, [], hcs, ⟨rfl, fun _ => ⟨rfl, rfl⟩, .inl rfl⟩, Nat.le_refl _, by omega⟩
 ·have hz' : zs.length = c := by simpa using hz
  refine ⟨some ad, n, c, bytesOf (zs.take n), hcs, ⟨by simp [bytesOf]; omega, (fun h => by cases h), ?_⟩, hle, ?_⟩
  ·by_cases h0 : n = 0
   ·exact .inl h0
   ·right
    obtain ⟨b, off, spot⟩ := ad
    have hspot : spot = none := by
     have := hcell 0 (by omega)
     simpa [Addr.add] using World.cell?_spot this
    subst hspot
    refine ⟨b, off, rfl, fun i hi => ?_⟩
    have h1 := hcell i (by omega)
    rw [Addr.add_lit] at h1
    rw [h1]
    have hi' : i < zs.length := by omega
    have hw := hwf (zs.getD i 0) (by simp [hi'])
    simp [Lit.wf, IntKind.min, IntKind.max, IntKind.signed, IntKind.bits] at hw
    have h2 : (bytesOf (zs.take n)).getD i 0 = UInt8.ofNat (zs.getD i 0).toNat := by
     simp [bytesOf, hi, hi']
    rw [h2]
    congr 2
    simp [hi'] at hw ⊢
    omega
  ·obtain ⟨rfl, rfl⟩ := Prod.mk.inj hx
   simp only [DataW.weights, ht, List.all_cons, Bool.and_eq_true, hbu, lits, List.length_map, List.length_take, List.length_drop, reachBytes] at hsz
   have := of_decide_eq_true hsz.1
   omega

/-- a slice of bytes that came in -/
theorem open_bytes {W : World} {t e : TypeId} {v : Value} {d : DataW H} {ps : List MemPlace} (ht : P.underlying t = some (.slice e)) (he : P.underlying e = some (.int .u8)) (hc : P.cellsOf e = 1) (hbu : P.bytesOf e = 1)
  (hv : ∃ a n c, v = .slice a n c) (h : DataW.Trod enc P W 0 (fun _ => true) true t v d ps) (hsz : (DataW.weights P t d).all (· ≤ reachBytes) = true) :
  ∃ ao n c l, v = .slice ao n c ∧ IsB W ao n c l ∧ n ≤ c ∧ c ≤ 140737488351232 := by
 obtain ⟨a, n, c, rfl⟩ := hv
 obtain ⟨fuel, hf⟩ := h
 obtain ⟨ao, n', c', l, h1, h2⟩ := open_bytes_cells ht he hc hbu hf hsz
 simp [Value.cells] at h1
 obtain ⟨rfl, rfl, rfl⟩ := h1
 exact ⟨_, _, _, _, rfl, h2⟩

/-- a slice of slices of bytes that came in -/
theorem open_bytess {W : World} {t e u : TypeId} {v : Value} {d : DataW H} {ps : List MemPlace} (ht : P.underlying t = some (.slice e)) (he : P.underlying e = some (.slice u)) (hu : P.underlying u = some (.int .u8)) (hce : P.cellsOf e = 1) (hcu : P.cellsOf u = 1)
  (hbe : P.bytesOf e = 24) (hbu : P.bytesOf u = 1) (hv : ∃ a n c, v = .slice a n c) (h : DataW.Trod enc P W 0 (fun _ => true) true t v d ps) (hsz : (DataW.weights P t d).all (· ≤ reachBytes) = true) :
  ∃ ao n c ls, v = .slice ao n c ∧ IsBB W ao n ls ∧ n ≤ c ∧ c * 24 ≤ 140737488351232 := by
 obtain ⟨a, n, c, rfl⟩ := hv
 obtain ⟨fuel, hf⟩ := h
 rcases Deep.open_slice1 ht hce hf with ⟨hcs, hx⟩ | ⟨ad, n', c', m, k, V, D, Pl, hcs, _, hle, _, hm, hx, hcell⟩
 ·simp [Value.cells] at hcs
  obtain ⟨rfl, rfl, rfl⟩ := hcs
  exact ⟨_, _, _, [], rfl, ⟨rfl, .inl rfl⟩, Nat.le_refl _, by omega⟩
 ·simp [Value.cells] at hcs
  obtain ⟨rfl, rfl, rfl⟩ := hcs
  obtain rfl : m = c := by simpa using hm
  obtain ⟨rfl, rfl⟩ := Prod.mk.inj hx
  simp only [DataW.weights, ht, List.all_cons, List.all_append, Bool.and_eq_true, List.length_map, List.length_range, hbe, reachBytes] at hsz
  obtain ⟨hs1', hs2, hs3⟩ := hsz
  have hs1 := of_decide_eq_true hs1'
  have hw : ∀ i, i < n → (DataW.weights P e (D i)).all (· ≤ reachBytes) = true := by
   intro i hi
   refine List.all_eq_true.2 fun x hx => ?_
   refine List.all_eq_true.1 hs2 x ?_
   have hall : ∀ (l : List (DataW H)) (d : DataW H), d ∈ l → x ∈ DataW.weights P e d → x ∈ DataW.weightsAll P e l := by
    intro l
    induction l with
    | nil => intro d hd; cases hd
    | cons y l ih =>
     intro d hd hxd
     simp only [DataW.weightsAll, List.mem_append]
     rcases List.mem_cons.1 hd with rfl | hd
     ·exact .inl hxd
     ·exact .inr (ih d hd hxd)
   exact hall _ (D i) (List.mem_map.2 ⟨i, List.mem_range.2 hi, rfl⟩) hx
  have hex : ∀ i, i < n → ∃ l : List UInt8, ∃ a m c, W.cell? (ad.add i) = some (.slice a m c) ∧ IsB W a m c l ∧ m ≤ 140737488351232 := by
   intro i hi
   obtain ⟨h1, h2⟩ := hcell i (by omega)
   obtain ⟨ao, q, c, l, h3, h4, h5, h6⟩ := open_bytes_cells he hu hcu hbu h2 (hw i hi)
   have h3' : V i = .slice ao q c := by simpa using h3
   exact ⟨l, ao, q, c, by rw [h1, h3'], h4, by omega⟩
  obtain ⟨L, hL⟩ := Deep.choose_lt hex
  refine ⟨some ad, n, m, (List.range n).map L, rfl, ⟨by simp, ?_⟩, hle, by omega⟩
  by_cases h0 : n = 0
  ·exact .inl h0
  ·right
   obtain ⟨b, off, spot⟩ := ad
   have hspot : spot = none := by
    obtain ⟨_, _, _, h1, _⟩ := hL 0 (by omega)
    simpa [Addr.add] using World.cell?_spot h1
   subst hspot
   refine ⟨b, off, rfl, fun i hi => ?_⟩
   obtain ⟨a, q, c, h1, h2, h3⟩ := hL i hi
   rw [Addr.add_lit] at h1
   exact ⟨a, q, c, h1, by simpa [hi] using h2, h3⟩
end

end Go.Proofs.Ytnicaicjgaoolaa
namespace Go.Proofs.Ytnicaicjgaoolaa
open Go.RowKit

/-- a number as a cell -/
def iv (x : Int) : Value := .int .i64 x

/-- a slice of numbers that reads as l -/
structure IsI (w : World) (ao : Option Addr) (n c : Nat) (l : List Int) : Prop where
 len : l.length = n
 nil : ao = none → n = 0 ∧ c = 0
 at_ : n = 0 ∨ ∃ b off, ao = some ⟨b, off, none⟩ ∧ ∀ i, i < n → w.cell? ⟨b, off + i, none⟩ = some (.int .i64 (l.getD i 0))

theorem IsI.below {w w' : World} {ao : Option Addr} {n c : Nat} {l : List Int} (h : IsI w ao n c l) (hb : Below w.heap.size w w') : IsI w' ao n c l := by
 obtain ⟨h1, h2, h3⟩ := h
 refine ⟨h1, h2, ?_⟩
 rcases h3 with h3 | ⟨b, off, h4, h5⟩
 ·exact .inl h3
 ·exact .inr ⟨b, off, h4, fun i hi => cell_later hb (h5 i hi)⟩

theorem IsI.alloc {w : World} {ao : Option Addr} {n c : Nat} {l : List Int} (h : IsI w ao n c l) (o : Obj) : IsI (w.alloc o) ao n c l :=
 h.below ((Below.refl _ _).alloc (Nat.le_refl _) o)

theorem isI_nil (w : World) : IsI w none 0 0 [] := ⟨rfl, fun _ => ⟨rfl, rfl⟩, .inl rfl⟩

/-- new numbers, laid out as a block -/
theorem isI_new (w : World) (l : List Int) (vs : Array Value) (hv : vs = (l.map iv).toArray) (t : TypeId) (fr : Nat × Nat) (H : Nat) (hH : H = w.heap.size) (n : Nat) (hn : l.length = n) (c : Nat) :
  IsI (w.alloc (.cells vs t fr)) (some ⟨H, 0, none⟩) n c l := by
 subst hH hv hn
 refine ⟨rfl, (fun h => by cases h), .inr ⟨_, _, rfl, fun i hi => ?_⟩⟩
 rw [World.cell?_alloc_mark]
 simp [hi, iv]

/-- what the call owns reads as a slice of numbers -/
theorem isI_own {w : World} {base : Nat} {e : TypeId} {v : Value} {n : Nat} {l : List Int} (h : w.ownsRow base e 1 v n (l.map iv)) :
  ∃ ao c, v = .slice ao n c ∧ IsI w ao n c l := by
 obtain ⟨h1, h2⟩ := h
 have hl : l.length = n := by simpa using h1
 rcases h2 with ⟨rfl, rfl⟩ | ⟨g, cap, cur, rfl, hg, hh, hn, hm, hs, ht⟩
 ·exact ⟨none, 0, rfl, hl, fun _ => ⟨rfl, rfl⟩, .inl rfl⟩
 ·refine ⟨_, cap, rfl, hl, (fun h => by cases h), .inr ⟨g, 0, rfl, fun i hi => ?_⟩⟩
  have : cur.toList[i]? = some (iv (l.getD i 0)) := by
   have h3 : (cur.toList.take (n * 1))[i]? = (l.map iv)[i]? := by rw [ht]
   rw [List.getElem?_take, if_pos (by omega)] at h3
   rw [h3]
   have : i < l.length := by omega
   simp [this]
  simp only [World.cell?, hh, Nat.zero_add]
  simpa [iv] using this

/-- a slice value that the call made itself (its block lies from base on) and that reads as l -/
def OwnI (w : World) (base : Nat) (e : TypeId) (v : Value) (l : List Int) : Prop := w.ownsRow base e 1 v l.length (l.map iv)

theorem OwnI.nil (w : World) (base : Nat) (e : TypeId) : OwnI w base e (.slice none 0 0) [] := World.ownsRow_nil _ _ _ _
theorem OwnI.alloc {w : World} {base : Nat} {e : TypeId} {v : Value} {l : List Int} (h : OwnI w base e v l) (o : Obj) : OwnI (w.alloc o) base e v l := World.ownsRow.alloc h o
theorem OwnI.drew {w : World} {base : Nat} {e : TypeId} {v : Value} {l : List Int} (h : OwnI w base e v l) : OwnI w.drew base e v l := h
theorem OwnI.isI {w : World} {base : Nat} {e : TypeId} {v : Value} {l : List Int} (h : OwnI w base e v l) : ∃ ao c, v = .slice ao l.length c ∧ IsI w ao l.length c l := isI_own h
theorem OwnI.lt {w : World} {base : Nat} {e : TypeId} {v : Value} {l : List Int} (h : OwnI w base e v l) : ∀ k, v.ownBlock = some k → base ≤ k ∧ k < w.heap.size := World.ownsRow.lt h
/-- it stays so where nothing below a number that is beyond its block has turned -/
theorem OwnI.below {w w' : World} {base : Nat} {e : TypeId} {v : Value} {l : List Int} (h : OwnI w base e v l) (hb : Below w.heap.size w w') : OwnI w' base e v l := by
 refine ⟨h.1, ?_⟩
 rcases h.2 with h2 | ⟨g, cap, cur, hv, hg, hh, r⟩
 ·exact .inl h2
 ·exact .inr ⟨g, cap, cur, hv, hg, by rw [hb.block g (Array.getElem?_eq_some_iff.1 hh).1]; exact hh, r⟩
theorem OwnI.mono {w : World} {base base' : Nat} {e : TypeId} {v : Value} {l : List Int} (h : OwnI w base e v l) (hb : base' ≤ base) : OwnI w base' e v l := by
 refine ⟨h.1, ?_⟩
 rcases h.2 with h2 | ⟨g, cap, cur, hv, hg, hh, r⟩
 ·exact .inl h2
 ·exact .inr ⟨g, cap, cur, hv, Nat.le_trans hb hg, hh, r⟩
/-- a new, empty block of numbers -/
theorem OwnI.new (w : World) (base : Nat) (e : TypeId) (l : List Int) (vs : Array Value) (hv : vs = (l.map iv).toArray) (H : Nat) (hH : H = w.heap.size) (hb : base ≤ w.heap.size) (n : Nat) (hn : l.length = n) (hm : n ≤ 140737488355328) :
  OwnI (w.alloc (.cells vs e)) base e (.slice (some ⟨H, 0, none⟩) n n) l := by
 subst hH hv hn
 refine ⟨by simp, .inr ⟨w.heap.size, l.length, _, rfl, hb, heap_alloc_new w _, Nat.le_refl _, by unfold maxLen; omega, by simp, ?_⟩⟩
 simp [List.take_of_length_le]

/-- what an owned slice of numbers is in memory -/
theorem OwnI.form {w : World} {base : Nat} {e : TypeId} {v : Value} {l : List Int} (h : OwnI w base e v l) (hl : 0 < l.length) :
  ∃ g cap, v = .slice (some ⟨g, 0, none⟩) l.length cap ∧ base ≤ g ∧ g < w.heap.size ∧ (∀ i, i < l.length → w.cell? ⟨g, i, none⟩ = some (.int .i64 (l.getD i 0))) ∧ ∀ i, w.frozen? ⟨g, i, none⟩ = false := by
 have h' := h
 obtain ⟨_, h2⟩ := h
 rcases h2 with ⟨_, h0⟩ | ⟨g, cap, cur, rfl, hb, hh, _⟩
 ·omega
 ·refine ⟨g, cap, rfl, hb, (Array.getElem?_eq_some_iff.1 hh).1, fun i hi => ?_, fun i => World.ownsRow.frozenAt h' i⟩
  rw [World.ownsRow.cellAt h' i (by omega)]
  simp [hi, iv]
/-- a byte is stored -/
theorem OwnI.set {w : World} {base g cap : Nat} {e : TypeId} {l : List Int} (h : OwnI w base e (.slice (some ⟨g, 0, none⟩) l.length cap) l) (i : Nat) (x : Int) :
  OwnI (w.setCell ⟨g, i, none⟩ (.int .i64 x)) base e (.slice (some ⟨g, 0, none⟩) (l.set i x).length cap) (l.set i x) := by
 have := World.ownsRow.stored h i (.int .i64 x)
 unfold OwnI
 rw [List.length_set, List.map_set]
 exact this.1

/-- APPEND, whatever is appended that reads as numbers: nil, empty or not -/
theorem wpList_append_ints {P : Program} {w : World} {ops : Array Oper} {rest : List Oper} {o : Oper} {a : Act} {Q : Exit → Act → World → Prop} (hgd : o.guard = none) (s x : Operand) (t : TypeId)
  (ho : o.op = .call { callee := .builtin .append, args := #[s, x], argTypes := #[t, t] })
  (base : Nat) (e : TypeId) (ht : P.underlying t = some (.slice e)) (hi : (P.info? e).map (fun i => (i.zero, i.size, i.bytes)) = some (some (.int .i64 0), 1, 8))
  (v : Value) (l : List Int) (hs : a.eval s = v) (hown : OwnI w base e v l)
  (ao : Option Addr) (m c : Nat) (l2 : List Int) (hx : a.eval x = .slice ao m c) (hsrc : IsI w ao m c l2)
  (hbytes : l.length + m ≤ 17592186044416) (hbase : base ≤ w.heap.size)
  (h : ∀ v' w', OwnI w' base e v' (l ++ l2) → w.grownBy w' v.ownBlock → Below base w w' → wpList P ops Q rest (a.put o.dst v') w') : wpList P ops Q (o :: rest) a w := by
 obtain ⟨i0, hi0, hz0, hz1, hz2⟩ := info_parts hi
 obtain ⟨h1, h2, h3⟩ := hsrc
 have hb : ∀ w', w.grownBy w' v.ownBlock → Below base w w' := fun w' hg => (Below.refl base w).grown hg hbase (fun k hk => (hown.lt k hk).1)
 unfold OwnI at hown h
 cases ao with
 | none =>
  obtain ⟨rfl, rfl⟩ := h2 rfl
  obtain rfl : l2 = [] := List.length_eq_zero_iff.1 h1
  exact wpList_append_own_none hgd s x t ho base e i0 1 ht hi0 v _ _ hs hown hx (h v w (by simpa using hown) (World.grownBy.refl _ _) (Below.refl _ _))
 | some ad =>
  refine wpList_append_own w hgd s x t ho base e i0 (.int .i64 0) 1 8 ht hi0 hz0 hz1 hz2 rfl (by decide) v _ _ hs hown ad m c (l2.map iv) hx (by simpa using h1) ?_ ?_ (by unfold maxLen; omega) (by omega) hbase ?_
  ·intro j u hj
   rcases h3 with h3 | ⟨b, off, h4, h5⟩
   ·subst h3
    obtain rfl : l2 = [] := List.length_eq_zero_iff.1 h1
    simp at hj
   ·obtain rfl : ad = ⟨b, off, none⟩ := by simpa using h4
    have hjl : j < l2.length := by
     rcases Nat.lt_or_ge j l2.length with hlt | hge
     ·exact hlt
     ·simp [List.getElem?_eq_none hge] at hj
    have := h5 j (by omega)
    rw [Addr.add_lit, this]
    simp [hjl] at hj
    simp [← hj, hjl, iv]
  ·intro u hu
   obtain ⟨y, _, rfl⟩ := List.mem_map.1 hu
   rfl
  ·intro v' w' g1 g2 _
   exact h v' w' (by rw [List.length_append, h1, List.map_append]; exact g1) g2 (hb w' g2)

/-- MAKE: n bytes of nought -/
theorem wpList_make_ints {P : Program} {w : World} {ops : Array Oper} {rest : List Oper} {o : Oper} {a : Act} {Q : Exit → Act → World → Prop} (hgd : o.guard = none) (x y : Operand) (t : TypeId)
  (ho : o.op = Op.makeSlice t x y) (base : Nat) (e : TypeId) (ht : P.underlying t = some (.slice e)) (hi : (P.info? e).map (fun i => (i.zero, i.size, i.bytes)) = some (some (.int .i64 0), 1, 8))
  (n : Nat) (hx : a.eval x = .int .i64 (n : Int)) (hy : a.eval y = .int .i64 (n : Int)) (hn : n ≤ 35184372088832) (hbase : base ≤ w.heap.size)
  (h : ∀ w', OwnI w' base e (.slice (some ⟨w.heap.size, 0, none⟩) n n) (List.replicate n 0) → Below base w w' → w.heap.size < w'.heap.size → wpList P ops Q rest (a.put o.dst (.slice (some ⟨w.heap.size, 0, none⟩) n n)) w') : wpList P ops Q (o :: rest) a w := by
 obtain ⟨i0, hi0, hz0, hz1, hz2⟩ := info_parts hi
 refine wpList_make_full w hgd x y t ho base e i0 (.int .i64 0) 1 ht hi0 hz0 hz1 .i64 .i64 _ _ n hx hy rfl rfl (by rw [hz2]; omega) (by unfold maxLen; omega) hbase fun w' h1 h2 => ?_
 have h3 : (madeCells (Value.int .i64 0).cells (n * 1)).toList = (List.replicate n (0 : Int)).map iv := by
  rw [Nat.mul_one, show (Value.int .i64 0).cells = #[Value.int .i64 0] from rfl, toList_madeCells_one, List.map_replicate]; rfl
 rw [h3] at h1
 refine h w' (by unfold OwnI; rw [List.length_replicate]; exact h1) ((Below.refl base w).grown h2 hbase (fun k hk => by cases hk)) ?_
 exact (h1.lt w.heap.size rfl).2

end Go.Proofs.Ytnicaicjgaoolaa
namespace Go.Proofs.Ytnicaicjgaoolaa
open Go.ChangeShapes Go.WideShapes Go.ChangeAt Go.RowKit

section
variable {H : Type} {enc : TypeId × Value → H} {P : Program}

/-- a slice of numbers that came in, as its cell shows it -/
theorem open_nums_cells {W : World} {t e : TypeId} {fuel : Nat} {cs : List Value} {d : DataW H} {ps : List MemPlace} (ht : P.underlying t = some (.slice e)) (he : P.underlying e = some (.int .i64)) (hc : P.cellsOf e = 1) (hbu : P.bytesOf e = 8)
  (h : DataW.trod enc P W 0 (fun _ => true) true fuel t cs = some (d, ps)) (hsz : (DataW.weights P t d).all (· ≤ reachBytes) = true) :
  ∃ ao n c l, cs = [.slice ao n c] ∧ IsI W ao n c l ∧ n ≤ c ∧ c * 8 ≤ 140737488351232 ∧ ∀ z ∈ l, -9223372036854775808 ≤ z ∧ z ≤ 9223372036854775807 := by
 rcases open_ints ht he hc h with ⟨hcs, hx⟩ | ⟨ad, n, c, zs, hcs, _, hle, _, hz, hx, hcell, hwf⟩
 ·exact ⟨none, 0, 0, [], hcs, ⟨rfl, fun _ => ⟨rfl, rfl⟩, .inl rfl⟩, Nat.le_refl _, by omega, fun z hz => by cases hz⟩
 ·have hz' : zs.length = c := by simpa using hz
  refine ⟨some ad, n, c, zs.take n, hcs, ⟨by simp; omega, (fun h => by cases h), ?_⟩, hle, ?_, ?_⟩
  ·by_cases h0 : n = 0
   ·exact .inl h0
   ·right
    obtain ⟨b, off, spot⟩ := ad
    have hspot : spot = none := by
     have := hcell 0 (by omega)
     simpa [Addr.add] using World.cell?_spot this
    subst hspot
    refine ⟨b, off, rfl, fun i hi => ?_⟩
    have h1 := hcell i (by omega)
    rw [Addr.add_lit] at h1
    rw [h1]
    have hi' : i < zs.length := by omega
    simp [hi, hi']
  ·obtain ⟨rfl, rfl⟩ := Prod.mk.inj hx
   simp only [DataW.weights, ht, List.all_cons, Bool.and_eq_true, hbu, lits, List.length_map, List.length_take, List.length_drop, reachBytes] at hsz
   have := of_decide_eq_true hsz.1
   omega
  ·intro z hz
   have := hwf z (List.mem_of_mem_take hz)
   simp [Lit.wf, IntKind.min, IntKind.max, IntKind.signed, IntKind.bits] at this
   omega

/-- a slice of numbers that came in -/
theorem open_nums {W : World} {t e : TypeId} {v : Value} {d : DataW H} {ps : List MemPlace} (ht : P.underlying t = some (.slice e)) (he : P.underlying e = some (.int .i64)) (hc : P.cellsOf e = 1) (hbu : P.bytesOf e = 8)
  (hv : ∃ a n c, v = .slice a n c) (h : DataW.Trod enc P W 0 (fun _ => true) true t v d ps) (hsz : (DataW.weights P t d).all (· ≤ reachBytes) = true) :
  ∃ ao n c l, v = .slice ao n c ∧ IsI W ao n c l ∧ n ≤ c ∧ c * 8 ≤ 140737488351232 ∧ ∀ z ∈ l, -9223372036854775808 ≤ z ∧ z ≤ 9223372036854775807 := by
 obtain ⟨a, n, c, rfl⟩ := hv
 obtain ⟨fuel, hf⟩ := h
 obtain ⟨ao, n', c', l, h1, h2⟩ := open_nums_cells ht he hc hbu hf hsz
 simp [Value.cells] at h1
 obtain ⟨rfl, rfl, rfl⟩ := h1
 exact ⟨_, _, _, _, rfl, h2⟩
end

end Go.Proofs.Ytnicaicjgaoolaa
namespace Go.Proofs.Ytnicaicjgaoolaa
open Go.RowKit

/-- outside the blocks of S, and new ones, the world w' is as w was -/
structure Only (S : List Nat) (w w' : World) : Prop where
 os : w'.os = w.os
 tape : w'.tape = w.tape
 output : w'.output = w.output
 size : w.heap.size ≤ w'.heap.size
 block : ∀ k, k < w.heap.size → k ∉ S → w'.heap[k]? = w.heap[k]?

theorem Only.refl (S : List Nat) (w : World) : Only S w w := ⟨rfl, rfl, rfl, Nat.le_refl _, fun _ _ _ => rfl⟩
theorem Only.trans {S : List Nat} {a b c : World} (h : Only S a b) (k : Only S b c) : Only S a c :=
 ⟨k.os.trans h.os, k.tape.trans h.tape, k.output.trans h.output, Nat.le_trans h.size k.size, fun i hi hs => (k.block i (Nat.lt_of_lt_of_le hi h.size) hs).trans (h.block i hi hs)⟩
theorem Only.mono {S T : List Nat} {w w' : World} (h : Only S w w') (hst : ∀ k ∈ S, k ∈ T) : Only T w w' :=
 ⟨h.os, h.tape, h.output, h.size, fun k hk ht => h.block k hk fun hs => ht (hst k hs)⟩
/-- what is beyond the world's end may be let go of -/
theorem Only.cut {S T : List Nat} {w w' : World} (h : Only S w w') (hst : ∀ k ∈ S, k < w.heap.size → k ∈ T) : Only T w w' :=
 ⟨h.os, h.tape, h.output, h.size, fun k hk ht => h.block k hk fun hs => ht (hst k hs hk)⟩
theorem Only.drew {S : List Nat} {a w : World} (h : Only S a w) : Only S a w.drew := ⟨h.os, h.tape, h.output, h.size, h.block⟩
theorem Only.drewN {S : List Nat} {a w : World} (h : Only S a w) (n : Nat) : Only S a (w.drewN n) := h.trans ⟨rfl, rfl, rfl, Nat.le_refl _, fun _ _ _ => rfl⟩
theorem Only.alloc {S : List Nat} {a w : World} (h : Only S a w) (o : Obj) : Only S a (w.alloc o) :=
 h.trans ⟨rfl, rfl, rfl, by simp, fun k hk _ => Below.heap_alloc _ _ _ hk⟩
theorem Only.setCell {S : List Nat} {a w : World} (h : Only S a w) {p : Addr} (hp : p.block ∈ S) (u : Value) : Only S a (w.setCell p u) :=
 h.trans ⟨rfl, rfl, rfl, by simp [World.setCell], fun k _ hk => Below.heap_setCell _ _ _ _ (fun e => hk (e ▸ hp))⟩
theorem Only.grown {S : List Nat} {a w w' : World} {row : Option Nat} (h : Only S a w) (hg : w.grownBy w' row) (hr : ∀ k, row = some k → k ∈ S) : Only S a w' :=
 h.trans ⟨hg.os, hg.tape, hg.output, hg.size, fun k hk hn => hg.block k hk fun e => hn (hr k e.symm)⟩
theorem Only.ofBelow {w w' : World} (h : Below w.heap.size w w') (S : List Nat) : Only S w w' := ⟨h.os, h.tape, h.output, h.size, fun k hk _ => h.block k hk⟩
theorem Only.below {S : List Nat} {w w' : World} (h : Only S w w') {B : Nat} (hB : B ≤ w.heap.size) (hs : ∀ k ∈ S, B ≤ k) : Below B w w' :=
 ⟨h.os, h.tape, h.output, h.size, fun k hk => h.block k (Nat.lt_of_lt_of_le hk hB) fun hm => by have := hs k hm; omega⟩
/-- a block that is there and is none of S -/
theorem Only.keeps {S : List Nat} {w w' : World} (h : Only S w w') {k : Nat} {o : Obj} (hk : w.heap[k]? = some o) (hn : k ∉ S) : w'.heap[k]? = some o := by
 rw [h.block k (Array.getElem?_eq_some_iff.1 hk).1 hn]; exact hk
theorem Only.cell {S : List Nat} {w w' : World} (h : Only S w w') {p : Addr} {v : Value} (hc : w.cell? p = some v) (hn : p.block ∉ S) : w'.cell? p = some v :=
 (World.cell?_of_block (w := w) (h.block p.block (World.block_lt_of_cell? w p hc) hn)).trans hc

theorem lt_of_heap {w : World} {k : Nat} {o : Obj} (hk : w.heap[k]? = some o) : k < w.heap.size := (Array.getElem?_eq_some_iff.1 hk).1
theorem cell_heap {w : World} {k : Nat} {c : Array Value} {t : TypeId} {fr : Nat × Nat} (h : w.heap[k]? = some (.cells c t fr)) (i : Nat) : w.cell? ⟨k, i, none⟩ = c[i]? := by
 simp [World.cell?, h]
theorem free_heap {w : World} {k : Nat} {c : Array Value} {t : TypeId} (h : w.heap[k]? = some (.cells c t (0, 0))) (i : Nat) : w.frozen? ⟨k, i, none⟩ = false := by
 simp [World.frozen?, h]
theorem heap_set {w : World} {k : Nat} {c : Array Value} {t : TypeId} (h : w.heap[k]? = some (.cells c t (0, 0))) (i : Nat) (u : Value) :
 (w.setCell ⟨k, i, none⟩ u).heap[k]? = some (.cells (c.setIfInBounds i u) t (0, 0)) := heap_setCell_same w k i c t u h
theorem heap_new (w : World) (o : Obj) : (w.alloc o).heap[w.heap.size]? = some o := heap_alloc_new w o
theorem heap_old {w : World} {k : Nat} {o : Obj} (h : w.heap[k]? = some o) (o' : Obj) : (w.alloc o').heap[k]? = some o := (Only.refl [] w).alloc o' |>.keeps h (by simp)

end Go.Proofs.Ytnicaicjgaoolaa
namespace Go.Proofs.Ytnicaicjgaoolaa
open Go.RowKit
theorem quiet_left {P : Program} {f : FuncId} {args : Array Value} {w : World} {n : Nat} {v : Value}
  (h : Calls P f args (w.drewN n) fun e w' => e = .returned v ∧ w.drewN n = w') : Calls P f args (w.drewN n) fun e w'' => e = .returned v ∧ ∃ m, w'' = w.drewN m :=
 h.mono fun _ _ ⟨he, hm⟩ => ⟨he, n, hm.symm⟩
theorem quiet_some {P : Program} {f : FuncId} {args : Array Value} {w : World} {n : Nat} {v : Value}
  (h : Calls P f args (w.drewN n) fun e w' => e = .returned v ∧ ∃ m, w' = (w.drewN n).drewN m) : Calls P f args (w.drewN n) fun e w'' => e = .returned v ∧ ∃ m, w'' = w.drewN m :=
 h.mono fun _ _ ⟨he, m, hm⟩ => ⟨he, n + m, by rw [hm, World.drewN_drewN]⟩
end Go.Proofs.Ytnicaicjgaoolaa
namespace Go.Proofs.Ytnicaicjgaoolaa
open Go.RowKit
theorem wp_two {P : Program} {o : Oper} {a : Act} {w : World} {K : Act → World → Prop} {Q Q' : Exit → Act → World → Prop} (h : o.wp P a w K Q) (hq : ∀ c a w, Q (.panic c) a w → Q' (.panic c) a w) (ho : LetsOut Q → LetsOut Q') : o.wp P a w K Q' := by
 unfold Oper.wp at *
 generalize (execOp a.eval o).run P w = r at *
 unfold Oper.upon at *
 split at h
 ·exact h
 ·exact h
 ·exact h
 ·refine h.mono ?_
  intro e w' he
  cases e with
  | returned v => exact he
  | panicked c => exact hq _ _ _ he
  | outgrown => exact ho he
 ·exact h
 ·exact hq _ _ _ h
 ·exact h.elim
theorem step_of_list {P : Program} {w : World} {ops : Array Oper} {o : Oper} {a : Act} {K : Act → World → Prop} {Q : Exit → Act → World → Prop} {E : Prop} (hgd : o.guard = none)
  (h : ∀ Q' : Exit → Act → World → Prop, (∀ a' w', K a' w' → Q' .normal a' w') → wpList P ops Q' [o] a w) :
  if Region.wanted o (yielded ops a.tmps) = true then Oper.wp P o a w K Q else E := by
 rw [if_pos (by simp [Region.wanted, hgd])]
 have hh := h (fun e a' w' => match e with | .normal => K a' w' | _ => False) (fun _ _ k => k)
 unfold wpList at hh
 rw [if_pos (by simp [Region.wanted, hgd])] at hh
 rcases hh with hh | ⟨_, a', w', hh⟩
 ·exact wp_two (Oper.wp_mono (fun a w k => k) hh) (fun c a w hq => hq.elim) (fun ⟨a', w', h2⟩ => h2.elim)
 ·exact hh.elim
end Go.Proofs.Ytnicaicjgaoolaa
namespace Go.Proofs.Ytnicaicjgaoolaa
open Go.RowKit Go.ChangeMaps Go.WideMaps Go.Maps
section
variable {P : Program} {w : World} {r bm since last clock : Nat} {ty : TypeId}
theorem next_no {seen : Array Nat} (hr : w.heap[r]? = some (.mapIter (some bm) since seen last)) (hb : w.heap[bm]? = some (.map #[] clock)) :
  (Instr.next (.pointer (some ⟨r, 0, none⟩)) false ty).run P w = .ok (.tuple #[.bool false]) w := by
 simp [Instr.next, getObj, Sem.run_bind, Sem.run, hr, hb, Result.andThen, choose, Question.forced]
theorem next_one {e : MapEntry} (hr : w.heap[r]? = some (.mapIter (some bm) since #[] last)) (hb : w.heap[bm]? = some (.map #[e] clock)) (he : e.born < since) :
  (Instr.next (.pointer (some ⟨r, 0, none⟩)) false ty).run P w = .ok (.tuple #[.bool true, e.key, e.val]) (setBlock w r (.mapIter (some bm) since #[e.born] clock)) := by
 have h1 : ¬ since ≤ e.born := by omega
 have h2 : (#[e].filter (fun x => decide (x.born < since))) = #[e] := by simp [he]
 simp [Instr.next, getObj, setObj, Sem.run_bind, Sem.run, hr, hb, Result.andThen, choose, Question.forced, he, h1, setBlock]
theorem next_end {e : MapEntry} (hr : w.heap[r]? = some (.mapIter (some bm) since #[e.born] last)) (hb : w.heap[bm]? = some (.map #[e] clock)) (he : e.born < last) :
  (Instr.next (.pointer (some ⟨r, 0, none⟩)) false ty).run P w = .ok (.tuple #[.bool false]) w := by
 have h1 : ¬ last ≤ e.born := by omega
 simp [Instr.next, getObj, Sem.run_bind, Sem.run, hr, hb, Result.andThen, choose, Question.forced, h1]
theorem entry_one {e : MapEntry} (hr : w.heap[r]? = some (.mapIter (some bm) since #[e.born] clock)) (hb : w.heap[bm]? = some (.map #[e] clock)) :
  (Instr.entry (.pointer (some ⟨r, 0, none⟩))).run P w = .ok (.tuple #[e.key, e.val]) w := by
 simp [Instr.entry, getObj, Sem.run_bind, Sem.run, hr, hb, Result.andThen]
end
end Go.Proofs.Ytnicaicjgaoolaa
