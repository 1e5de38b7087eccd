/-
  What the proof of the law leans on: contracts of the program's functions, one behind another. No condition.
-/
import Derived.Deep.AppendLies
import Derived.Test.YtnicaicjgaoolaaRows
import Derived.BigQuiet
import Derived.Deep.QuietTactic
import Derived.Lib.AppendZerosOnto
import Derived.Lib.SliceRun
import Derived.Lib.Walk
import Derived.Test.YtnicaicjgaoolaaB1
set_option linter.unusedVariables false
set_option linter.unusedSimpArgs false
namespace Go.Proofs.Ytnicaicjgaoolaa
open Go.RowKit

/-- behind writes to block row alone (and new blocks) a slice of bytes in another block reads as it did -/
theorem IsB.grown {w w' : World} {row : Option Nat} {ao : Option Addr} {n c : Nat} {l : List UInt8} (h : IsB w ao n c l) (hg : w.grownBy w' row) (hne : n = 0 ∨ ∀ p, ao = some p → row ≠ some p.block) : IsB w' ao n c l := by
 obtain ⟨h1, h2, h3⟩ := h
 refine ⟨h1, h2, ?_⟩
 rcases hne with h0 | hne
 ·exact .inl h0
 rcases h3 with h3 | ⟨b, off, h4, h5⟩
 ·exact .inl h3
 ·refine .inr ⟨b, off, h4, fun i hi => ?_⟩
  have hc := h5 i hi
  exact (World.cell?_of_block (hg.block b (World.block_lt_of_cell? w _ hc) (fun e => hne _ h4 e.symm))).trans hc
theorem IsB.lt {w : World} {ao : Option Addr} {n c : Nat} {l : List UInt8} (h : IsB w ao n c l) : n = 0 ∨ ∀ p, ao = some p → p.block < w.heap.size := by
 rcases h.at_ with h3 | ⟨b, off, h4, h5⟩
 ·exact .inl h3
 ·by_cases h0 : n = 0
  ·exact .inl h0
  ·refine .inr fun p hp => ?_
   rw [h4] at hp
   cases hp
   exact World.block_lt_of_cell? w _ (h5 0 (by omega))

/-- one element of a row of slices of bytes, not in block g -/
def Elem (w : World) (g : Option Nat) (v : Value) (l : List UInt8) : Prop :=
 ∃ a m c, v = .slice a m c ∧ IsB w a m c l ∧ m ≤ 140737488351232 ∧ (m = 0 ∨ ∀ p, a = some p → g ≠ some p.block)

/-- a slice value that the call made itself (its block lies from base on), whose elements are slices of bytes that read as ls -/
def OwnBB (w : World) (base : Nat) (e : TypeId) (v : Value) (ls : List (List UInt8)) : Prop :=
 ∃ vs : List Value, vs.length = ls.length ∧ w.ownsRow base e 1 v ls.length vs ∧ ∀ i, i < ls.length → Elem w v.ownBlock (vs.getD i undef) (ls.getD i [])

theorem OwnBB.nil (w : World) (base : Nat) (e : TypeId) : OwnBB w base e (.slice none 0 0) [] := ⟨[], rfl, World.ownsRow_nil _ _ _ _, fun i hi => by simp at hi⟩
theorem Elem.below {w w' : World} {g : Option Nat} {v : Value} {l : List UInt8} (h : Elem w g v l) (hb : Below w.heap.size w w') : Elem w' g v l := by
 obtain ⟨a, m, c, h1, h2, h3, h4⟩ := h
 exact ⟨a, m, c, h1, h2.below hb, h3, h4⟩
theorem OwnBB.below {w w' : World} {base : Nat} {e : TypeId} {v : Value} {ls : List (List UInt8)} (h : OwnBB w base e v ls) (hb : Below w.heap.size w w') : OwnBB w' base e v ls := by
 obtain ⟨vs, h1, h2, h3⟩ := h
 refine ⟨vs, h1, ⟨h2.1, ?_⟩, fun i hi => (h3 i hi).below hb⟩
 rcases h2.2 with h4 | ⟨g, cap, cur, hv, hg, hh, r⟩
 ·exact .inl h4
 ·exact .inr ⟨g, cap, cur, hv, hg, by rw [hb.block g (Array.getElem?_eq_some_iff.1 hh).1]; exact hh, r⟩
theorem OwnBB.mono {w : World} {base base' : Nat} {e : TypeId} {v : Value} {ls : List (List UInt8)} (h : OwnBB w base e v ls) (hb : base' ≤ base) : OwnBB w base' e v ls := by
 obtain ⟨vs, h1, h2, h3⟩ := h
 exact ⟨vs, h1, ⟨h2.1, h2.2.imp id fun ⟨g, cap, cur, hv, hg, r⟩ => ⟨g, cap, cur, hv, Nat.le_trans hb hg, r⟩⟩, h3⟩
/-- it reads as a slice of slices of bytes -/
theorem OwnBB.isBB {w : World} {base : Nat} {e : TypeId} {v : Value} {ls : List (List UInt8)} (h : OwnBB w base e v ls) (n : Nat) (hn : ls.length = n) : ∃ ao c, v = .slice ao n c ∧ IsBB w ao n ls ∧ n ≤ c := by
 subst hn
 obtain ⟨vs, h1, h2, h3⟩ := h
 obtain ⟨_, h5⟩ := h2
 rcases h5 with ⟨rfl, h6⟩ | ⟨g, cap, cur, rfl, hg, hh, hn, hm, hs, ht⟩
 ·exact ⟨none, 0, by rw [h6], ⟨rfl, .inl h6⟩, by omega⟩
 ·refine ⟨_, cap, rfl, ⟨rfl, .inr ⟨g, 0, rfl, fun i hi => ?_⟩⟩, hn⟩
  obtain ⟨a, m, c, k1, k2, k3, _⟩ := h3 i hi
  refine ⟨a, m, c, ?_, k2, k3⟩
  have h7 : (cur.toList.take (ls.length * 1))[i]? = vs[i]? := by rw [ht]
  rw [List.getElem?_take, if_pos (by omega)] at h7
  rw [← k1]
  have h8 : i < vs.length := by omega
  simp only [World.cell?, hh, Nat.zero_add]
  rw [Array.getElem?_toList] at h7
  rw [h7]
  simp [h8]

theorem OwnBB.lt {w : World} {base : Nat} {e : TypeId} {v : Value} {ls : List (List UInt8)} (h : OwnBB w base e v ls) : ∀ k, v.ownBlock = some k → base ≤ k ∧ k < w.heap.size := by
 obtain ⟨vs, _, h2, _⟩ := h
 exact h2.lt
/-- what the call made later is an element that lies elsewhere -/
theorem OwnB.elem {w : World} {base : Nat} {e : TypeId} {v : Value} {l : List UInt8} (h : OwnB w base e v l) (g : Option Nat) (hg : ∀ k, g = some k → k < base) (hl : l.length ≤ 140737488351232) : Elem w g v l := by
 obtain ⟨ao, c, rfl, hb⟩ := h.isB
 refine ⟨ao, _, c, rfl, hb, hl, .inr fun p hp => ?_⟩
 subst hp
 intro e2
 have h1 := hg _ e2
 have h2 := (h.lt p.block rfl).1
 omega
/-- APPEND of one slice of bytes, that lies in a new block -/
theorem wpList_append_elem {P : Program} {w : World} {ops : Array Oper} {rest : List Oper} {o : Oper} {a : Act} {Q : Exit → Act → World → Prop} (hgd : o.guard = none) (s x : Operand) (t : TypeId)
  (ho : o.op = .call { callee := .builtin .append, args := #[s, x], argTypes := #[t, t] })
  (base : Nat) (e : TypeId) (ht : P.underlying t = some (.slice e)) (hi : (P.info? e).map (fun i => (i.zero, i.size, i.bytes)) = some (some (.slice none 0 0), 1, 24))
  (v : Value) (ls : List (List UInt8)) (hs : a.eval s = v) (hown : OwnBB w base e v ls)
  (H : Nat) (u : Value) (l : List UInt8) (hx : a.eval x = .slice (some ⟨H, 0, none⟩) 1 1) (hcell : w.cell? ⟨H, 0, none⟩ = some u) (hel : Elem w v.ownBlock u l)
  (hbytes : ls.length + 1 ≤ 4398046511104) (hbase : base ≤ w.heap.size)
  (h : ∀ v' w', OwnBB w' base e v' (ls ++ [l]) → w.grownBy w' v.ownBlock → Below base w w' → wpList P ops Q rest (a.put o.dst v') w') : wpList P ops Q (o :: rest) a w := by
 obtain ⟨i0, hi0, hz0, hz1, hz2⟩ := info_parts hi
 obtain ⟨vs, h1, h2, h3⟩ := hown
 obtain ⟨ua, um, uc, rfl, hub, hum, hune⟩ := hel
 have hb : ∀ w', w.grownBy w' v.ownBlock → Below base w w' := fun w' hg => (Below.refl base w).grown hg hbase (fun k hk => (h2.lt k hk).1)
 refine wpList_append_lies w hgd s x t ho base e i0 (.slice none 0 0) 1 24 ht hi0 hz0 hz1 hz2 rfl (by decide) v ls.length vs hs h2 ⟨H, 0, none⟩ 1 1 [.slice ua um uc] hx rfl ?_ ?_ (by decide) (by unfold maxLen; omega) (by omega) hbase w.heap.size rfl ?_
 ·intro j y hj
  cases j with
  | zero =>
   simp at hj
   subst hj
   rw [Addr.add_lit]
   exact hcell
  | succ j => simp at hj
 ·intro y hy
  simp at hy
  subst hy
  rfl
 ·intro g cap w' g1 g2 g3 g4
  refine h _ _ ⟨vs ++ [.slice ua um uc], by simp [h1], by simpa using g1, fun i hi => ?_⟩ g2 (hb w' g2)
  have hold : ∀ (y : Value) (k : List UInt8), Elem w v.ownBlock y k → Elem w' (some g) y k := by
   rintro y k ⟨a', m', c', rfl, q1, q2, q3⟩
   refine ⟨a', m', c', rfl, q1.grown g2 q3, q2, ?_⟩
   rcases q3 with q3 | q3
   ·exact .inl q3
   ·rcases q1.lt with q4 | q4
    ·exact .inl q4
    ·refine .inr fun p hp => ?_
     rcases g3 with g3 | g3
     ·rw [← g3]; exact q3 p hp
     ·intro e
      have := q4 p hp
      cases e
      omega
  show Elem w' (some g) ((vs ++ [Value.slice ua um uc]).getD i undef) ((ls ++ [l]).getD i [])
  by_cases hlt : i < ls.length
  ·have := hold _ _ (h3 i hlt)
   simpa [List.getElem?_append_left, hlt, h1] using this
  ·obtain rfl : i = ls.length := by simp at hi; omega
   have := hold _ _ ⟨ua, um, uc, rfl, hub, hum, hune⟩
   rw [← h1]
   simpa [h1] using this
end Go.Proofs.Ytnicaicjgaoolaa
namespace Go.Proofs.Ytnicaicjgaoolaa.Crc

/-- one turn of the register -/
def stp (c : BitVec 32) : BitVec 32 := (c >>> 1) ^^^ (0xEDB88320#32 &&& (0#32 - (c &&& 1#32)))
/-- n turns -/
def turns : Nat → BitVec 32 → BitVec 32
 | 0, c => c
 | n + 1, c => turns n (stp c)
def emb (x : UInt8) : BitVec 32 := BitVec.ofNat 32 x.toNat
def byt (c : BitVec 32) (x : UInt8) : BitVec 32 := turns 8 (c ^^^ emb x)
def go (c : BitVec 32) (l : List UInt8) : BitVec 32 := l.foldl byt c
/-- the register at the beginning -/
def ini : BitVec 32 := ~~~ 0#32
def crc (l : List UInt8) : BitVec 32 := ~~~ (go ini l)

theorem turns_succ (n : Nat) (c : BitVec 32) : turns (n + 1) c = stp (turns n c) := by
 induction n generalizing c with
 | zero => rfl
 | succ n ih => show turns (n + 1) (stp c) = _; rw [ih]; rfl

theorem go_append (c : BitVec 32) (l m : List UInt8) : go c (l ++ m) = go (go c l) m := by simp [go]
theorem go_cons (c : BitVec 32) (x : UInt8) (l : List UInt8) : go c (x :: l) = go (byt c x) l := rfl
theorem go_nil (c : BitVec 32) : go c [] = c := rfl

theorem stp_if (c : BitVec 32) : stp c = (c >>> 1) ^^^ (if c.getLsbD 0 then 0xEDB88320#32 else 0#32) := by
 unfold stp
 have h1 : c &&& 1#32 = if c.getLsbD 0 then 1#32 else 0#32 := by
  ext i hi
  by_cases h : i = 0
  ·subst h; cases hc : c.getLsbD 0 <;> simp_all [BitVec.getLsbD_eq_getElem]
  ·cases hc : c.getLsbD 0 <;> simp [h, BitVec.getElem_one]
 rw [h1]
 split
 ·exact congrArg (c >>> 1 ^^^ ·) (by decide)
 ·exact congrArg (c >>> 1 ^^^ ·) (by decide)

theorem stp_xor (a b : BitVec 32) : stp (a ^^^ b) = stp a ^^^ stp b := by
 rw [stp_if, stp_if, stp_if, BitVec.ushiftRight_xor_distrib, BitVec.getLsbD_xor]
 cases a.getLsbD 0 <;> cases b.getLsbD 0 <;> simp
 ·ac_rfl
 ·ac_rfl
 ·rw [show a >>> 1 ^^^ 3988292384#32 ^^^ (b >>> 1 ^^^ 3988292384#32) = (a >>> 1 ^^^ b >>> 1) ^^^ (3988292384#32 ^^^ 3988292384#32) from by ac_rfl, BitVec.xor_self, BitVec.xor_zero]

theorem turns_xor (n : Nat) (a b : BitVec 32) : turns n (a ^^^ b) = turns n a ^^^ turns n b := by
 induction n generalizing a b with
 | zero => rfl
 | succ n ih => show turns n (stp (a ^^^ b)) = turns n (stp a) ^^^ turns n (stp b); rw [stp_xor, ih]

theorem stp_zero : stp 0#32 = 0#32 := by decide
theorem turns_zero (n : Nat) : turns n 0#32 = 0#32 := by
 induction n with
 | zero => rfl
 | succ n ih => show turns n (stp 0#32) = _; rw [stp_zero, ih]

/-- no turn takes what is not nought to nought -/
theorem stp_ne (c : BitVec 32) (h : stp c = 0#32) : c = 0#32 := by
 rw [stp_if] at h
 by_cases h0 : c.getLsbD 0
 ·exfalso
  have h31 := congrArg (fun x : BitVec 32 => x.getLsbD 31) h
  rw [if_pos h0] at h31
  simp at h31
 ·rw [if_neg h0, BitVec.xor_zero] at h
  apply BitVec.eq_of_getLsbD_eq
  intro i hi
  cases i with
  | zero => simpa using h0
  | succ i =>
   have := congrArg (fun x : BitVec 32 => x.getLsbD i) h
   simp only [BitVec.getLsbD_ushiftRight] at this
   rw [Nat.add_comm]
   simpa using this

theorem turns_ne (n : Nat) (c : BitVec 32) (h : turns n c = 0#32) : c = 0#32 := by
 induction n generalizing c with
 | zero => exact h
 | succ n ih => exact stp_ne c (ih _ h)

theorem turns_inj (n : Nat) (a b : BitVec 32) (h : turns n a = turns n b) : a = b := by
 have : turns n (a ^^^ b) = 0#32 := by rw [turns_xor, h, BitVec.xor_self]
 exact BitVec.xor_eq_zero_iff.1 (turns_ne n _ this)

theorem emb_xor (x y : UInt8) : emb (x ^^^ y) = emb x ^^^ emb y := by
 unfold emb
 apply BitVec.eq_of_toNat_eq
 simp [Nat.mod_eq_of_lt (show x.toNat < 2 ^ 32 from by have := x.toNat_lt; omega), Nat.mod_eq_of_lt (show y.toNat < 2 ^ 32 from by have := y.toNat_lt; omega)]

theorem byt_xor (a b : BitVec 32) (x y : UInt8) : byt (a ^^^ b) (x ^^^ y) = byt a x ^^^ byt b y := by
 unfold byt
 rw [← turns_xor, emb_xor]
 congr 1
 ac_rfl

theorem go_xor (l m : List UInt8) (a b : BitVec 32) (h : l.length = m.length) : go (a ^^^ b) (List.zipWith (· ^^^ ·) l m) = go a l ^^^ go b m := by
 induction l generalizing m a b with
 | nil => cases m with
  | nil => rfl
  | cons => simp at h
 | cons x l ih => cases m with
  | nil => simp at h
  | cons y m => simp only [List.zipWith_cons_cons, go_cons, byt_xor]; exact ih m _ _ (by simpa using h)

theorem not_eq (a : BitVec 32) : ~~~ a = a ^^^ ini := by unfold ini; rw [show (~~~ 0#32) = BitVec.allOnes 32 from by decide, BitVec.xor_allOnes]

/-- of three texts of one length, exclusive or'd, the sum is the three sums' -/
theorem crc_lines (a b c : List UInt8) (h1 : b.length = a.length) (h2 : c.length = a.length) :
  crc (List.zipWith (· ^^^ ·) (List.zipWith (· ^^^ ·) a b) c) = crc a ^^^ crc b ^^^ crc c := by
 unfold crc
 have k : ini = (ini ^^^ ini) ^^^ ini := by decide
 have e : go ini (List.zipWith (· ^^^ ·) (List.zipWith (· ^^^ ·) a b) c) = go ini a ^^^ go ini b ^^^ go ini c := by
  conv => lhs; rw [k]
  rw [go_xor _ _ _ _ (by simp; omega), go_xor _ _ _ _ (by omega)]
 rw [e, not_eq, not_eq (go _ a), not_eq (go _ b), not_eq (go _ c)]
 generalize go _ a = x, go _ b = y, go _ c = z
 have : ∀ n : BitVec 32, x ^^^ n ^^^ (y ^^^ n) ^^^ (z ^^^ n) = x ^^^ y ^^^ z ^^^ n ^^^ (n ^^^ n) := by intro n; ac_rfl
 rw [this, BitVec.xor_self, BitVec.xor_zero]

theorem byt_inj (a b : BitVec 32) (x : UInt8) (h : byt a x = byt b x) : a = b := by
 have := turns_inj _ _ _ h
 exact BitVec.xor_right_inj (z := emb x) |>.1 (by rw [BitVec.xor_comm, this, BitVec.xor_comm])

theorem go_inj (l : List UInt8) (a b : BitVec 32) (h : go a l = go b l) : a = b := by
 induction l generalizing a b with
 | nil => exact h
 | cons x l ih => exact byt_inj _ _ _ (ih _ _ h)

/-- a turn undoes a shift -/
theorem stp_shl (z : BitVec 32) (h : z.toNat < 2 ^ 31) : stp (z <<< 1) = z := by
 rw [stp_if, if_neg (by simp), BitVec.xor_zero]
 apply BitVec.eq_of_toNat_eq
 simp [Nat.shiftLeft_eq, Nat.shiftRight_eq_div_pow]
 omega

theorem turns_shl (n : Nat) (z : BitVec 32) (h : z.toNat < 2 ^ (32 - n)) (hn : n ≤ 32) : turns n (z <<< n) = z := by
 induction n generalizing z with
 | zero => simp [turns]
 | succ n ih =>
  have h2 : z.toNat * 2 < 2 ^ (32 - n) := by
   have : 2 ^ (32 - n) = 2 ^ (32 - (n + 1)) * 2 := by rw [← Nat.pow_succ]; congr 1; omega
   omega
  have h3 : z.toNat * 2 < 2 ^ 32 := Nat.lt_of_lt_of_le h2 (Nat.pow_le_pow_right (by decide) (by omega))
  have hz : (z <<< 1).toNat = z.toNat * 2 := by
   rw [BitVec.toNat_shiftLeft, Nat.shiftLeft_eq]
   omega
  have e : z <<< (n + 1) = (z <<< 1) <<< n := by rw [Nat.add_comm, BitVec.shiftLeft_add]
  rw [turns_succ, e, ih (z <<< 1) (by rw [hz]; exact h2) (by omega), stp_shl z (by omega)]

theorem turns_pre (y z : BitVec 32) (h : turns 8 y = z) (hz : z.toNat < 2 ^ 24) : y = z <<< 8 :=
 turns_inj 8 _ _ (h.trans (turns_shl 8 z hz (by decide)).symm)

theorem emb_lt (x : UInt8) : (emb x).toNat < 256 := by
 have := x.toNat_lt
 simp [emb]
 omega

theorem emb_zero (x : UInt8) (h : emb x = 0#32) : x = 0 := by
 have h' := congrArg BitVec.toNat h
 have := x.toNat_lt
 simp [emb] at h'
 apply UInt8.toNat_inj.1
 show x.toNat = 0
 omega

/-- four bytes, from nought, come to nought only if they are nought -/
theorem four (x0 x1 x2 x3 : UInt8) (h : go 0#32 [x0, x1, x2, x3] = 0#32) : x0 = 0 ∧ x1 = 0 ∧ x2 = 0 ∧ x3 = 0 := by
 simp only [go_cons, go_nil] at h
 generalize hs1 : byt 0#32 x0 = s1 at h
 generalize hs2 : byt s1 x1 = s2 at h
 generalize hs3 : byt s2 x2 = s3 at h
 have e3 : s3 = emb x3 := BitVec.xor_eq_zero_iff.1 (turns_ne 8 _ h)
 have l3 := emb_lt x3
 have l2 := emb_lt x2
 have l1 := emb_lt x1
 have l0 := emb_lt x0
 have xorlt : ∀ (n : Nat) (a b : BitVec 32), a.toNat < 2 ^ n → b.toNat < 2 ^ n → (a ^^^ b).toNat < 2 ^ n := by
  intro n a b ha hb; rw [BitVec.toNat_xor]; exact Nat.xor_lt_two_pow ha hb
 have shl : ∀ (n : Nat) (a : BitVec 32), a.toNat < 2 ^ n → (a <<< 8).toNat < 2 ^ (n + 8) := by
  intro n a ha
  rw [BitVec.toNat_shiftLeft, Nat.shiftLeft_eq]
  exact Nat.lt_of_le_of_lt (Nat.mod_le _ _) (by rw [Nat.pow_add]; omega)
 have p2 : s2 ^^^ emb x2 = s3 <<< 8 := turns_pre _ _ hs3 (by rw [e3]; omega)
 have e2 : s2 = s3 <<< 8 ^^^ emb x2 := by rw [← p2, BitVec.xor_assoc, BitVec.xor_self, BitVec.xor_zero]
 have b2 : s2.toNat < 2 ^ 16 := by rw [e2]; exact xorlt 16 _ _ (shl 8 _ (by rw [e3]; exact l3)) (by omega)
 have p1 : s1 ^^^ emb x1 = s2 <<< 8 := turns_pre _ _ hs2 (by omega)
 have e1 : s1 = s2 <<< 8 ^^^ emb x1 := by rw [← p1, BitVec.xor_assoc, BitVec.xor_self, BitVec.xor_zero]
 have b1 : s1.toNat < 2 ^ 24 := by rw [e1]; exact xorlt 24 _ _ (shl 16 _ b2) (by omega)
 have p0 : 0#32 ^^^ emb x0 = s1 <<< 8 := turns_pre _ _ hs1 b1
 rw [BitVec.zero_xor] at p0
 have low : ∀ (a : BitVec 32) (y : UInt8), a <<< 8 = emb y → a.toNat < 2 ^ 24 → y = 0 ∧ a = 0#32 := by
  intro a y hy ha
  have h1 := congrArg BitVec.toNat hy
  have h2 := emb_lt y
  rw [BitVec.toNat_shiftLeft, Nat.shiftLeft_eq] at h1
  have h3 : a.toNat * 2 ^ 8 % 2 ^ 32 = a.toNat * 2 ^ 8 := Nat.mod_eq_of_lt (by omega)
  rw [h3] at h1
  have h4 : a.toNat = 0 := by omega
  have h5 : a = 0#32 := BitVec.eq_of_toNat_eq h4
  subst h5
  exact ⟨emb_zero y (by rw [← hy]; rfl), rfl⟩
 obtain ⟨z0, z1⟩ := low s1 x0 p0.symm b1
 rw [z1] at e1
 obtain ⟨y1, z2⟩ := low s2 x1 (BitVec.xor_eq_zero_iff.1 e1.symm) (by omega)
 rw [z2] at e2
 obtain ⟨y2, z3⟩ := low s3 x2 (BitVec.xor_eq_zero_iff.1 e2.symm) (by rw [e3]; omega)
 exact ⟨z0, y1, y2, emb_zero x3 (by rw [← e3, z3])⟩

theorem u8_xor_zero (x y : UInt8) (h : x ^^^ y = 0) : x = y := UInt8.xor_eq_zero_iff.1 h

theorem four_inj (s : BitVec 32) (x0 x1 x2 x3 y0 y1 y2 y3 : UInt8) (h : go s [x0, x1, x2, x3] = go s [y0, y1, y2, y3]) : x0 = y0 ∧ x1 = y1 ∧ x2 = y2 ∧ x3 = y3 := by
 have e := go_xor [x0, x1, x2, x3] [y0, y1, y2, y3] s s rfl
 rw [h, BitVec.xor_self, BitVec.xor_self] at e
 obtain ⟨a, b, c, d⟩ := four _ _ _ _ e
 exact ⟨u8_xor_zero _ _ a, u8_xor_zero _ _ b, u8_xor_zero _ _ c, u8_xor_zero _ _ d⟩

theorem crc_inj (l m : List UInt8) (h : crc l = crc m) : go ini l = go ini m := by
 unfold crc at h
 exact BitVec.not_inj.1 h

/-- four bytes side by side: texts that part there alone have other sums -/
theorem crc_four (pre post : List UInt8) (x0 x1 x2 x3 y0 y1 y2 y3 : UInt8) (h : crc (pre ++ [x0, x1, x2, x3] ++ post) = crc (pre ++ [y0, y1, y2, y3] ++ post)) :
  x0 = y0 ∧ x1 = y1 ∧ x2 = y2 ∧ x3 = y3 := by
 have h1 := crc_inj _ _ h
 simp only [go_append] at h1
 exact four_inj _ _ _ _ _ _ _ _ _ (go_inj _ _ _ h1)

theorem crc_two (pre post : List UInt8) (x0 x1 y0 y1 : UInt8) (h : crc (pre ++ [x0, x1] ++ post) = crc (pre ++ [y0, y1] ++ post)) : x0 = y0 ∧ x1 = y1 := by
 have h1 := crc_inj _ _ h
 simp only [go_append] at h1
 have h2 := go_inj _ _ _ h1
 have h3 : go (go ini pre) ([x0, x1] ++ [0, 0]) = go (go ini pre) ([y0, y1] ++ [0, 0]) := by rw [go_append, go_append, h2]
 obtain ⟨a, b, _, _⟩ := four_inj _ _ _ _ _ _ _ _ _ h3
 exact ⟨a, b⟩

theorem split_two (l : List UInt8) (k : Nat) (h : k + 2 ≤ l.length) (x y : UInt8) : (l.set k x).set (k + 1) y = l.take k ++ [x, y] ++ l.drop (k + 2) := by
 apply List.ext_getElem?
 intro i
 simp only [List.getElem?_set, List.getElem?_append, List.length_append, List.length_take, List.length_cons, List.length_nil, List.length_set, List.getElem?_take, List.getElem?_drop]
 by_cases h1 : i < k
 ·simp [h1, show i < l.length by omega, show ¬ k + 1 = i by omega, show ¬ k = i by omega, show min k l.length = k by omega, show i < k + 2 by omega]
 ·by_cases h2 : i = k
  ·subst h2
   simp [show min i l.length = i by omega, show i < l.length by omega]
  ·by_cases h3 : i = k + 1
   ·subst h3
    simp [show min k l.length = k by omega, show k + 1 < l.length by omega, show ¬ k + 1 < k by omega]
   ·simp [show ¬ k + 1 = i by omega, show ¬ k = i by omega, show min k l.length = k by omega, show ¬ i < k + 2 by omega, show k + 2 + (i - (k + 2)) = i by omega]

theorem set_same (l : List UInt8) (k : Nat) (x : UInt8) (h : k < l.length) (hx : l.getD k 0 = x) : l.set k x = l := by
 apply List.ext_getElem?
 intro i
 rw [List.getElem?_set]
 by_cases h1 : k = i
 ·subst h1
  simp [h] at hx ⊢
  exact hx.symm
 ·simp [h1]

/-- two unlike bytes side by side that change their places change the sum -/
theorem crc_swap (l : List UInt8) (k : Nat) (x y : UInt8) (h : k + 2 ≤ l.length) (hx : l.getD k 0 = x) (hy : l.getD (k + 1) 0 = y) (hxy : ¬ x = y) :
  ¬ crc ((l.set k y).set (k + 1) x) = crc l := by
 intro e
 have e2 : l = (l.set k x).set (k + 1) y := by
  rw [set_same l k x (by omega) hx, set_same l (k + 1) y (by omega) hy]
 have e3 : crc ((l.set k y).set (k + 1) x) = crc ((l.set k x).set (k + 1) y) := by rw [e, ← e2]
 rw [split_two l k h, split_two l k h] at e3
 exact hxy (crc_two _ _ _ _ _ _ e3).1.symm

/-- three texts, exclusive or'd -/
def xor3 (a b c : List UInt8) : List UInt8 := List.zipWith (· ^^^ ·) (List.zipWith (· ^^^ ·) a b) c
theorem xor3_len (a b c : List UInt8) (h1 : b.length = a.length) (h2 : c.length = a.length) : (xor3 a b c).length = a.length := by
 simp [xor3]; omega
theorem xor3_at (a b c : List UInt8) (h1 : b.length = a.length) (h2 : c.length = a.length) (k : Nat) (hk : k < a.length) : (xor3 a b c).getD k 0 = a.getD k 0 ^^^ b.getD k 0 ^^^ c.getD k 0 := by
 simp [xor3, List.getElem?_zipWith, show k < b.length by omega, show k < c.length by omega, hk]
/-- what a loop has filled in after k rounds -/
def part (T : List UInt8) (k : Nat) : List UInt8 := T.take k ++ List.replicate (T.length - k) 0
theorem part_zero (T : List UInt8) : part T 0 = List.replicate T.length 0 := by simp [part]
theorem part_all (T : List UInt8) : part T T.length = T := by simp [part]
theorem part_len (T : List UInt8) (k : Nat) (h : k ≤ T.length) : (part T k).length = T.length := by simp [part]; omega
theorem part_set (T : List UInt8) (k : Nat) (h : k < T.length) : (part T k).set k (T.getD k 0) = part T (k + 1) := by
 apply List.ext_getElem?
 intro i
 unfold part
 simp only [List.getElem?_set, List.getElem?_append, List.length_append, List.length_take, List.length_replicate, List.getElem?_take, List.getElem?_replicate]
 by_cases h1 : k = i
 ·subst h1
  simp [h, show min k T.length = k by omega, show min (k + 1) T.length = k + 1 by omega, show k < k + (T.length - k) by omega]
 ·by_cases h2 : i < k
  ·simp [h1, h2, show min k T.length = k by omega, show min (k + 1) T.length = k + 1 by omega, show i < k + 1 by omega]
  ·have : (i - k < T.length - k) = (i - (k + 1) < T.length - (k + 1)) := by
    rw [eq_iff_iff]; omega
   simp [h1, h2, show min k T.length = k by omega, show min (k + 1) T.length = k + 1 by omega, show ¬ i < k + 1 by omega, this]

/-- t bytes of bs, exclusive or'd into l from place k on -/
def mixTo (l : List UInt8) (k : Nat) (bs : List UInt8) : Nat → List UInt8
 | 0 => l
 | t + 1 => (mixTo l k bs t).set (k + t) ((mixTo l k bs t).getD (k + t) 0 ^^^ bs.getD t 0)
theorem mixTo_len (l : List UInt8) (k : Nat) (bs : List UInt8) (t : Nat) : (mixTo l k bs t).length = l.length := by
 induction t with
 | zero => rfl
 | succ t ih => simp [mixTo, ih]
theorem set_behind (pre rest : List UInt8) (t : Nat) (x : UInt8) : (pre ++ rest).set (pre.length + t) x = pre ++ rest.set t x := by
 rw [List.set_append_right _ _ (by omega)]
 congr 2
 omega
theorem get_behind (pre rest : List UInt8) (t : Nat) : (pre ++ rest).getD (pre.length + t) 0 = rest.getD t 0 := by
 simp [List.getElem?_append_right]
theorem mixTo_four (pre post : List UInt8) (y0 y1 y2 y3 x0 x1 x2 x3 : UInt8) :
  mixTo (pre ++ [y0, y1, y2, y3] ++ post) pre.length [x0, x1, x2, x3] 4 = pre ++ [y0 ^^^ x0, y1 ^^^ x1, y2 ^^^ x2, y3 ^^^ x3] ++ post := by
 simp only [mixTo, List.append_assoc, set_behind, get_behind]
 rfl
theorem cut_four (l : List UInt8) (k : Nat) (h : k + 4 ≤ l.length) : ∃ pre post y0 y1 y2 y3, l = pre ++ [y0, y1, y2, y3] ++ post ∧ pre.length = k := by
 have h1 : l = l.take k ++ l.drop k := (List.take_append_drop k l).symm
 have h2 : (l.drop k).length = l.length - k := List.length_drop
 match hd : l.drop k, h2 with
 | y0 :: y1 :: y2 :: y3 :: post, _ => exact ⟨l.take k, post, y0, y1, y2, y3, by rw [List.append_assoc]; simpa [hd] using h1, by simp; omega⟩
 | [], h2 => simp at h2; omega
 | [_], h2 => simp at h2; omega
 | [_, _], h2 => simp at h2; omega
 | [_, _, _], h2 => simp at h2; omega
/-- any change within four bytes side by side changes the sum -/
theorem crc_burst (l : List UInt8) (k : Nat) (h : k + 4 ≤ l.length) (x0 x1 x2 x3 : UInt8) (hx : ¬ (x0 = 0 ∧ x1 = 0 ∧ x2 = 0 ∧ x3 = 0)) : ¬ crc (mixTo l k [x0, x1, x2, x3] 4) = crc l := by
 obtain ⟨pre, post, y0, y1, y2, y3, rfl, rfl⟩ := cut_four l k h
 rw [mixTo_four]
 intro e
 obtain ⟨a, b, c, d⟩ := crc_four _ _ _ _ _ _ _ _ _ _ e
 have z : ∀ y x : UInt8, y ^^^ x = y → x = 0 := by
  intro y x hh
  have : y ^^^ (y ^^^ x) = y ^^^ y := by rw [hh]
  rw [← UInt8.xor_assoc, UInt8.xor_self, UInt8.zero_xor] at this
  exact this
 exact hx ⟨z _ _ a, z _ _ b, z _ _ c, z _ _ d⟩

end Go.Proofs.Ytnicaicjgaoolaa.Crc
namespace Go.Proofs.Ytnicaicjgaoolaa.F
open Go.Proofs.Ytnicaicjgaoolaa
open Go.RowKit

theorem bits_xor32 (a b : BitVec 32) : bits .xor .u32 (a.toNat : Int) (b.toNat : Int) = ((a ^^^ b).toNat : Int) := by
 rw [u32_xor_nat _ _ a.isLt b.isLt, BitVec.toNat_xor]
theorem bits_and32 (a b : BitVec 32) : bits .and .u32 (a.toNat : Int) (b.toNat : Int) = ((a &&& b).toNat : Int) := by
 rw [u32_and_nat _ _ a.isLt b.isLt, BitVec.toNat_and]
theorem stp_walk (c : BitVec 32) : bits .xor .u32 ((c.toNat : Int) / 2) (bits .and .u32 3988292384 (-bits .and .u32 (c.toNat : Int) 1 % 4294967296)) = ((Crc.stp c).toNat : Int) := by
 have h1 := bits_and32 c 1#32
 have h2 : ((1#32).toNat : Int) = 1 := rfl
 rw [h2] at h1
 have h3 : -((c &&& 1#32).toNat : Int) % 4294967296 = ((0#32 - (c &&& 1#32)).toNat : Int) := by
  have := (c &&& 1#32).isLt
  rw [BitVec.toNat_sub]
  simp only [BitVec.toNat_ofNat]
  omega
 have h4 := bits_and32 3988292384#32 (0#32 - (c &&& 1#32))
 have h5 : ((3988292384#32).toNat : Int) = 3988292384 := rfl
 rw [h5] at h4
 have h6 : (c.toNat : Int) / (2 : Int) = ((c >>> 1).toNat : Int) := by
  rw [BitVec.toNat_ushiftRight, Nat.shiftRight_eq_div_pow]; omega
 rw [h1, h3, h4, h6, bits_xor32]
 rfl
theorem byt_walk (c : BitVec 32) (x : UInt8) : bits .xor .u32 (c.toNat : Int) ((x.toNat : Int) % 4294967296) = ((c ^^^ Crc.emb x).toNat : Int) := by
 have hx := x.toNat_lt
 have : (x.toNat : Int) % 4294967296 = ((Crc.emb x).toNat : Int) := by
  unfold Crc.emb
  rw [BitVec.toNat_ofNat]; omega
 rw [this, bits_xor32]
theorem not_walk (c : BitVec 32) : bits .xor .u32 IntKind.u32.max (c.toNat : Int) = ((~~~ c).toNat : Int) := by
 have h := bits_xor32 (~~~ 0#32) c
 have h5 : (((~~~ 0#32 : BitVec 32)).toNat : Int) = IntKind.u32.max := by decide
 rw [h5] at h
 rw [h, Crc.not_eq c, BitVec.xor_comm]; rfl

theorem take_flat (ls : List (List UInt8)) (k : Nat) (h : k < ls.length) : (ls.take (k + 1)).flatten = (ls.take k).flatten ++ ls.getD k [] := by
 rw [List.take_succ_eq_append_getElem h, List.flatten_append]
 simp [h]
theorem take_one (l : List UInt8) (k : Nat) (h : k < l.length) : l.take (k + 1) = l.take k ++ [l.getD k 0] := by
 rw [List.take_succ_eq_append_getElem h]
 simp [h]
theorem u32_eq {a b : Int} (h : a = b) : Value.int .u32 a = Value.int .u32 b := by rw [h]
theorem ret_u32 {a b : Int} (h : a = b) : Ending.returned (Value.int .u32 a) = .returned (Value.int .u32 b) := by rw [h]

set_option maxHeartbeats 400000 in
theorem of_some (len : Nat) (ls : List (List UInt8)) (b off cap : Nat) (w : World) (hlen : ls.length = len) (hm : len ≤ 140737488351232)
  (hc : ∀ i, i < len → ∃ a n c, w.cell? ⟨b, off + i, none⟩ = some (.slice a n c) ∧ IsB w a n c (ls.getD i []) ∧ n ≤ 140737488351232) :
  Calls Try.prog 84 #[.slice (some ⟨b, off, none⟩) len cap] w fun e w' => e = .returned (.int .u32 ((Crc.crc ls.flatten).toNat : Int)) ∧ w = w' := by
 have HL := Lib.hid hlen; clear hlen
 go_enter Try.func84, Try.ntmps84
 go_wp2
 go_loop [3, 10] (fun c i => ∃ k : Nat, k ≤ len ∧ i = .int .i64 k ∧ c = .int .u32 ((Crc.go Crc.ini (ls.take k).flatten).toNat : Int)) (fun _ i => len - (intOf i).toNat)
 case atStart => exact ⟨0, Nat.zero_le _, rfl, rfl⟩
 case round =>
  obtain ⟨k, hk, rfl, rfl⟩ := hrel
  by_cases hlt : k < len
  ·obtain ⟨a, n, c, hcell, hb, hn⟩ := hc k hlt
   have hfl := take_flat ls k (by rw [HL.out]; exact hlt)
   generalize ls.getD k [] = l at hb hfl
   have HF := Lib.hid hfl
   have HB := Lib.hid hb
   clear hb hfl
   go_wp2
   go_loop [3, 16] (fun c i => ∃ j : Nat, j ≤ n ∧ i = .int .i64 j ∧ c = .int .u32 ((Crc.go (Crc.go Crc.ini (ls.take k).flatten) (l.take j)).toNat : Int)) (fun _ i => n - (intOf i).toNat)
   case atStart => exact ⟨0, Nat.zero_le _, rfl, rfl⟩
   case round =>
    obtain ⟨j, hj, rfl, rfl⟩ := hrel
    by_cases hltj : j < n
    ·obtain ⟨hbl, _, hba⟩ := HB.out
     rcases hba with h0 | ⟨b1, off1, rfl, hcb⟩
     ·omega
     have hcj := hcb j hltj
     have ht := take_one _ j (by rw [hbl]; exact hltj)
     generalize l.getD j 0 = x at hcj ht
     have HT := Lib.hid ht
     clear hcb hbl ht
     go_wp2
     go_loop [3, 24] (fun c i => ∃ t : Nat, t ≤ 8 ∧ i = .int .i64 t ∧ c = .int .u32 ((Crc.turns t (Crc.go (Crc.go Crc.ini (ls.take k).flatten) (l.take j) ^^^ Crc.emb x)).toNat : Int)) (fun _ i => 8 - (intOf i).toNat)
     case atStart => exact ⟨0, by omega, rfl, u32_eq (byt_walk _ _)⟩
     case round =>
      obtain ⟨t, ht, rfl, rfl⟩ := hrel
      by_cases hlt8 : t < 8
      ·go_wp2
       go_round
       case rel => exact ⟨t + 1, by omega, by go_num, u32_eq (by rw [stp_walk, Crc.turns_succ])⟩
       case measure => simp [intOf]; omega
      ·go_wp2
       go_round
       case rel =>
        obtain rfl : t = 8 := by omega
        exact ⟨j + 1, by omega, by go_num, u32_eq (by rw [HT.out, Crc.go_append]; rfl)⟩
       case measure => simp [intOf]; omega
    ·go_wp2
     go_round
     case rel =>
      obtain rfl : j = n := by omega
      exact ⟨k + 1, by omega, by go_num, u32_eq (by rw [HF.out, Crc.go_append, List.take_of_length_le (l := l) (by rw [HB.out.len]; exact Nat.le_refl _)])⟩
     case measure => simp [intOf]; omega
  ·go_wp2
   go_ret
   obtain rfl : k = len := by omega
   exact ⟨ret_u32 (by rw [not_walk, List.take_of_length_le (by rw [HL.out]; exact Nat.le_refl _)]; rfl), rfl⟩

theorem of_none (ao : Option Addr) (cap : Nat) (w : World) :
  Calls Try.prog 84 #[.slice ao 0 cap] w fun e w' => e = .returned (.int .u32 ((Crc.crc []).toNat : Int)) ∧ w = w' := by
 go_enter Try.func84, Try.ntmps84
 go_wp2
 refine wp_loop_rounds 1 ?_
 rw [rounds_succ]
 go_wp2
 go_ret
 exact ⟨ret_u32 (by decide), rfl⟩

/-- the sum of whatever parts: it is the sum of them all, one behind the other; nothing is written -/
theorem of_any (ao : Option Addr) (len cap : Nat) (ls : List (List UInt8)) (w : World) (h : IsBB w ao len ls) (hm : len ≤ 140737488351232) :
  Calls Try.prog 84 #[.slice ao len cap] w fun e w' => e = .returned (.int .u32 ((Crc.crc ls.flatten).toNat : Int)) ∧ w = w' := by
 obtain ⟨h1, h2⟩ := h
 by_cases h0 : len = 0
 ·subst h0
  obtain rfl : ls = [] := List.length_eq_zero_iff.1 h1
  exact of_none ao cap w
 ·rcases h2 with h2 | ⟨b, off, rfl, hc⟩
  ·exact absurd h2 h0
  ·exact of_some len ls b off cap w h1 hm hc

end Go.Proofs.Ytnicaicjgaoolaa.F
namespace Go.Proofs.Ytnicaicjgaoolaa.F
open Go.Proofs.Ytnicaicjgaoolaa
open Go.RowKit

theorem info5 : (Try.prog.info? 5).map (fun i => (i.zero, i.size, i.bytes)) = some (some (.int .u8 0), 1, 1) := by kernel_rfl

/-- the byte of place i, of four -/
def b4 (c : BitVec 32) (i : Nat) : UInt8 := UInt8.ofNat (c.toNat / 2 ^ (8 * (3 - i)))
def be4 (c : BitVec 32) : List UInt8 := [b4 c 0, b4 c 1, b4 c 2, b4 c 3]
theorem be4_len (c : BitVec 32) : (be4 c).length = 4 := rfl
theorem b4_eq (c : BitVec 32) (i : Nat) (hi : i < 4) (d : Int) (hd : d = ((2 ^ (8 * (3 - i)) : Nat) : Int)) : (c.toNat : Int) / d % 256 = ((b4 c i).toNat : Int) := by
 subst hd
 unfold b4
 rw [UInt8.toNat_ofNat', Int.natCast_emod, Int.natCast_ediv]
 rfl
theorem b4_last (c : BitVec 32) : (c.toNat : Int) % 256 = ((b4 c 3).toNat : Int) := by
 have := b4_eq c 3 (by decide) 1 (by decide)
 rwa [Int.ediv_one] at this
/-- the number of four bytes -/
def num4 (x0 x1 x2 x3 : UInt8) : BitVec 32 := BitVec.ofNat 32 (x0.toNat * 16777216 + x1.toNat * 65536 + x2.toNat * 256 + x3.toNat)
theorem num4_nat (x0 x1 x2 x3 : UInt8) : (num4 x0 x1 x2 x3).toNat = x0.toNat * 16777216 + x1.toNat * 65536 + x2.toNat * 256 + x3.toNat := by
 unfold num4
 have h0 := x0.toNat_lt
 have h1 := x1.toNat_lt
 have h2 := x2.toNat_lt
 have h3 := x3.toNat_lt
 rw [BitVec.toNat_ofNat, Nat.mod_eq_of_lt (by omega)]
def at4 (l : List UInt8) (i : Nat) : BitVec 32 := num4 (l.getD i 0) (l.getD (i + 1) 0) (l.getD (i + 2) 0) (l.getD (i + 3) 0)

theorem cells4 (c : BitVec 32) : #[Value.int .u8 ((c.toNat : Int) / 16777216), Value.int .u8 ((c.toNat : Int) / 65536 % 256), Value.int .u8 ((c.toNat : Int) / 256 % 256), Value.int .u8 ((c.toNat : Int) % 256)] = ((be4 c).map bv).toArray := by
 have hlt := c.isLt
 rw [show (c.toNat : Int) / 16777216 = (c.toNat : Int) / 16777216 % 256 by omega, b4_eq c 0 (by decide) 16777216 (by decide), b4_eq c 1 (by decide) 65536 (by decide), b4_eq c 2 (by decide) 256 (by decide), b4_last c]
 rfl

set_option maxHeartbeats 400000 in
theorem number_any (base : Nat) (v : Value) (l : List UInt8) (c : BitVec 32) (w : World) (h : OwnB w base 5 v l) (hl : l.length ≤ 70368744177664) (hb : base ≤ w.heap.size) :
  Calls Try.prog 86 #[v, .int .u32 (c.toNat : Int)] w fun e w' => ∃ v', e = .returned v' ∧ OwnB w' base 5 v' (l ++ be4 c) ∧ Below base w w' := by
 have hlt := c.isLt
 have hc1 : l.length + 4 ≤ 140737488355328 := by omega
 have HC := Lib.hid (cells4 c)
 have HO := Lib.hid h; clear h
 have h0 : (0 : Int) ≤ (c.toNat : Int) := by omega
 have h1 : (c.toNat : Int) < 4294967296 := by omega
 generalize (c.toNat : Int) = z at HC h0 h1
 clear hlt
 go_enter Try.func86, Try.ntmps86
 go_wp2_with (at_builtin; refine wpList_append_bytes rfl _ _ 29 rfl base 5 Try.underlying29 info5 _ _ rfl (HO.out.alloc _) _ _ _ (be4 c) rfl (isB_new _ (be4 c) _ HC.out _ _ _ rfl 4 rfl _) hc1 (by simp; omega) ?_; intro v3 w3 hown3 hgr3 hb4)
 go_ret
 exact ⟨_, rfl, hown3, ((Below.refl _ _).alloc hb _).trans hb4⟩

theorem or_add (a b k : Nat) (h : b < 2 ^ k) : a * 2 ^ k ||| b = a * 2 ^ k + b := by
 have := Nat.shiftLeft_add_eq_or_of_lt (i := k) h a
 rw [Nat.shiftLeft_eq] at this
 exact this.symm
theorem or4 (x0 x1 x2 x3 : UInt8) : bits .or .u32 (bits .or .u32 (bits .or .u32 ((x0.toNat : Int) % 4294967296 * 16777216 % 4294967296) ((x1.toNat : Int) % 4294967296 * 65536 % 4294967296)) ((x2.toNat : Int) % 4294967296 * 256 % 4294967296)) ((x3.toNat : Int) % 4294967296) = ((num4 x0 x1 x2 x3).toNat : Int) := by
 have h0 := x0.toNat_lt
 have h1 := x1.toNat_lt
 have h2 := x2.toNat_lt
 have h3 := x3.toNat_lt
 rw [num4_nat]
 generalize x0.toNat = a at *
 generalize x1.toNat = b at *
 generalize x2.toNat = c at *
 generalize x3.toNat = d at *
 rw [show (a : Int) % 4294967296 * 16777216 % 4294967296 = ((a * 16777216 : Nat) : Int) by omega, show (b : Int) % 4294967296 * 65536 % 4294967296 = ((b * 65536 : Nat) : Int) by omega,
  show (c : Int) % 4294967296 * 256 % 4294967296 = ((c * 256 : Nat) : Int) by omega, show (d : Int) % 4294967296 = ((d : Nat) : Int) by omega]
 have e1 : a * 16777216 ||| b * 65536 = a * 16777216 + b * 65536 := or_add a (b * 65536) 24 (by omega)
 have e2 : (a * 256 + b) * 65536 ||| c * 256 = (a * 256 + b) * 65536 + c * 256 := or_add _ (c * 256) 16 (by omega)
 have e3 : (a * 65536 + b * 256 + c) * 256 ||| d = (a * 65536 + b * 256 + c) * 256 + d := or_add _ d 8 (by omega)
 rw [u32_or_nat _ _ (by omega) (by omega), e1, show a * 16777216 + b * 65536 = (a * 256 + b) * 65536 by omega, u32_or_nat _ _ (by omega) (by omega), e2,
  show (a * 256 + b) * 65536 + c * 256 = (a * 65536 + b * 256 + c) * 256 by omega, u32_or_nat _ _ (by omega) (by omega), e3]
theorem b_wrap (x : UInt8) : IntKind.u32.wrap (x.toNat : Int) = (x.toNat : Int) := by
 have := x.toNat_lt
 simp [IntKind.wrap, IntKind.bits, IntKind.signed]
 omega

set_option maxHeartbeats 400000 in
theorem at_any (ao : Option Addr) (n cp : Nat) (l : List UInt8) (i : Nat) (w : World) (h : IsB w ao n cp l) (hn : n ≤ 70368744177664) (hi : i + 4 ≤ n) :
  Calls Try.prog 83 #[.slice ao n cp, .int .i64 (i : Int)] w fun e w' => ∃ d, e = .returned (.int .u32 ((at4 l i).toNat : Int)) ∧ w' = w.drewN d := by
 obtain ⟨b, off, rfl, hc⟩ : ∃ b off, ao = some ⟨b, off, none⟩ ∧ ∀ i, i < n → w.cell? ⟨b, off + i, none⟩ = some (.int .u8 ((l.getD i 0).toNat : Int)) := by
  rcases h.at_ with h0 | h0
  ·omega
  ·exact h0
 have c0 := hc i (by omega)
 have c1 := hc (i + 1) (by omega)
 have c2 := hc (i + 2) (by omega)
 have c3 := hc (i + 3) (by omega)
 clear h hc
 have hnum := num4_nat (l.getD i 0) (l.getD (i + 1) 0) (l.getD (i + 2) 0) (l.getD (i + 3) 0)
 have HV := Lib.hid (show at4 l i = num4 (l.getD i 0) (l.getD (i + 1) 0) (l.getD (i + 2) 0) (l.getD (i + 3) 0) from rfl)
 generalize l.getD i 0 = x0 at *
 generalize l.getD (i + 1) 0 = x1 at *
 generalize l.getD (i + 2) 0 = x2 at *
 generalize l.getD (i + 3) 0 = x3 at *
 have HN := Lib.hid hnum; clear hnum
 go_enter Try.func83, Try.ntmps83
 go_wp2_with fail
 go_quiet (fail)
 go_wp2_with fail
 go_ret
 exact ⟨nq, ret_u32 (by rw [HV.out]; exact or4 _ _ _ _), rfl⟩

set_option maxHeartbeats 400000 in
theorem clone_any (ao : Option Addr) (n c : Nat) (l : List UInt8) (w : World) (h : IsB w ao n c l) (hn : n ≤ 70368744177664) :
  Calls Try.prog 26 #[.slice ao n c] w fun e w' => ∃ v', e = .returned v' ∧ OwnB w' w.heap.size 5 v' l ∧ Below w.heap.size w w' := by
 have hc0 : ([] : List UInt8).length + n ≤ 140737488355328 := by simp; omega
 have HO := Lib.hid h; clear h
 have hnil := fun (w : World) => Lib.run_eql_slice_nil (P := Try.prog) w 29 5 ao n c 0 0 Try.underlying29
 cases ao with
 | none =>
  obtain ⟨rfl, rfl⟩ := HO.out.nil rfl
  obtain rfl : l = [] := List.length_eq_zero_iff.1 HO.out.len
  go_enter Try.func26, Try.ntmps26
  go_wp2_with fail
  go_ret
  exact ⟨_, rfl, OwnB.nil _ _ _, Below.refl _ _⟩
 | some a =>
  go_enter Try.func26, Try.ntmps26
  go_wp2_with (at_builtin; refine wpList_append_bytes rfl _ _ 29 rfl w.heap.size 5 Try.underlying29 info5 _ [] rfl (OwnB.new _ _ _ [] _ rfl _ rfl (by exact Nat.le_refl _) 0 rfl (by decide)) _ _ _ _ rfl (HO.out.alloc _) hc0 (by simp) ?_; intro v2 w2 hown2 hgr2 hb2; clear hgr2)
  go_ret
  exact ⟨_, rfl, by simpa using hown2, ((Below.refl _ _).alloc (Nat.le_refl _) _).trans hb2⟩
end Go.Proofs.Ytnicaicjgaoolaa.F
namespace Go.Proofs.Ytnicaicjgaoolaa.F
open Go.Proofs.Ytnicaicjgaoolaa
open Go.RowKit

set_option maxHeartbeats 1000000 in
theorem grow_any (n : Nat) (w : World) (hn : n ≤ 70368744177664) :
  Calls Try.prog 91 #[.slice none 0 0, .int .i64 (n : Int)] w fun e w' => ∃ v', e = .returned v' ∧ OwnB w' w.heap.size 5 v' [] ∧ Below w.heap.size w w' := by
 by_cases h0 : n = 0
 ·subst h0
  go_enter Try.func91, Try.ntmps91
  go_wp2_with fail
  go_ret
  exact ⟨_, rfl, OwnB.nil _ _ _, Below.refl _ _⟩
 ·obtain ⟨i0, hi0, hz0, hz1, hz2⟩ := info_parts info5
  have hold : (Builtin.firstCells i0.size 0 (.slice none 0 0)).run Try.prog w.drew = .ok (#[] : Array Value) w.drew := run_firstCells_none w.drew i0.size 0 0 0
  have hfit : Builtin.nextslicecap (0 + n) 0 * i0.bytes ≤ 281474976710656 := by
   refine growslice_fits (by omega) ?_
   rw [hz2]; omega
  have hrz := fun ty => Lib.run_append_grow_zeros w 29 3 ty 5 i0 (.int .u8 0) .i64 .i64 Try.underlying29 Try.underlying3 hi0 hz0 none 0 0 [] hold n (by omega) (by omega) (by omega) (by omega) (by rw [hz2]; omega) hfit
  rw [Nat.zero_add] at hrz
  have hge := grownCap_ge w n 0 5
  have hle := grownCap_le_maxLen w n 0 5 (by unfold maxLen; omega)
  have hcs : ((([] : List Value).toArray ++ Builtin.zeroCells (Value.int .u8 0).cells n ++ Builtin.zeroCells (Value.int .u8 0).cells (grownCap w n 0 5 - n)) : Array Value).size = grownCap w n 0 5 := by
   simp [Builtin.zeroCells, Value.cells]
   omega
  generalize ([] : List Value).toArray ++ Builtin.zeroCells (Value.int .u8 0).cells n ++ Builtin.zeroCells (Value.int .u8 0).cells (grownCap w n 0 5 - n) = cur at hrz hcs
  generalize grownCap w n 0 5 = G at hrz hge hle hcs
  have HC := Lib.hid hcs
  have HR := Lib.hid hrz
  clear hfit hold hcs hrz hi0 hz0 hz1 hz2
  unfold maxLen at hle
  have g0 : (0 : Int) < (n : Int) := by omega
  go_enter Try.func91, Try.ntmps91
  go_wp2_with (at_builtin; refine Lib.wpList_append_run _ rfl _ _ _ _ rfl _ _ rfl rfl _ _ (HR.out _) ?_)
  go_ret
  refine ⟨_, rfl, ⟨by simp, .inr ⟨_, _, _, rfl, Nat.le_refl _, heap_new w.drew _, by simp, by unfold maxLen; omega, by simpa using HC.out, by simp⟩⟩, ((Below.refl _ _).drew).alloc (Nat.le_refl _) _⟩

theorem flat_len (ls : List (List UInt8)) (k : Nat) (h : k < ls.length) : (ls.take (k + 1)).flatten.length = (ls.take k).flatten.length + (ls.getD k []).length := by
 rw [take_flat ls k h, List.length_append]
theorem flat_le (ls : List (List UInt8)) (k : Nat) : (ls.take k).flatten.length ≤ ls.flatten.length := by
 have := congrArg List.length (congrArg List.flatten (List.take_append_drop k ls))
 rw [List.flatten_append, List.length_append] at this
 omega

set_option maxHeartbeats 1000000 in
theorem concat_any (b off len cap : Nat) (ls : List (List UInt8)) (w : World) (hlen : ls.length = len) (hm : ls.flatten.length ≤ 70368744177664) (hl9 : len ≤ 1000)
  (hc : ∀ i, i < len → ∃ a n c, w.cell? ⟨b, off + i, none⟩ = some (.slice a n c) ∧ IsB w a n c (ls.getD i []) ∧ n ≤ 140737488351232) :
  Calls Try.prog 87 #[.slice (some ⟨b, off, none⟩) len cap] w fun e w' => ∃ v', e = .returned v' ∧ OwnB w' w.heap.size 5 v' ls.flatten ∧ Below w.heap.size w w' := by
 have HC := Lib.hid hc; clear hc
 have HL := Lib.hid hlen; clear hlen
 go_enter Try.func87, Try.ntmps87
 go_wp2_with fail
 go_loop [3, 11] (fun c i => ∃ k : Nat, k ≤ len ∧ i = .int .i64 (k : Int) ∧ c = .int .i64 (((ls.take k).flatten.length : Nat) : Int)) (fun _ i => len - (intOf i).toNat)
 case atStart => exact ⟨0, Nat.zero_le _, rfl, rfl⟩
 case round =>
  obtain ⟨k, hk, rfl, rfl⟩ := hrel
  by_cases hlt : k < len
  ·obtain ⟨a, n, c, hcell, hb, hn⟩ := HC.out k hlt
   have hfl := flat_len ls k (by rw [HL.out]; exact hlt)
   have hbl := hb.len
   have hle := flat_le ls (k + 1)
   rw [hbl] at hfl
   rw [hfl] at hle
   generalize (ls.take k).flatten.length = q at hfl hle
   have HF := Lib.hid hfl
   have hq : q + n ≤ 70368744177664 := by omega
   clear hb hfl hbl hle
   go_wp2_with fail
   go_round
   case rel => exact ⟨k + 1, by omega, by go_num, by rw [HF.out]; go_num⟩
   case measure => simp [intOf]; omega
  ·obtain rfl : k = len := by omega
   rw [List.take_of_length_le (by rw [HL.out]; exact Nat.le_refl _)]
   generalize hq : ls.flatten.length = q at hm
   have HQ := Lib.hid hq; clear hq
   go_wp2_with fail
   refine (grow_any q _ hm).mono ?_
   rintro e w1 ⟨v1, rfl, hown1, hb1⟩
   have HO := Lib.hid hown1; clear hown1
   go_wp2_with fail
   go_loopw [6, 27] (fun v i wr => ∃ j : Nat, j ≤ k ∧ i = .int .i64 (j : Int) ∧ OwnB wr w.heap.size 5 v (ls.take j).flatten ∧ Below w.heap.size w wr) (fun _ i _ => k - (intOf i).toNat)
   case atStart => exact ⟨0, Nat.zero_le _, rfl, HO.out, hb1⟩
   case round =>
    clear hb1 HO
    obtain ⟨j, hj, rfl, hown, hbl⟩ := hrel
    by_cases hlt2 : j < k
    ·obtain ⟨a, n, c, hcell0, hb, hn⟩ := HC.out j hlt2
     have hcell := cell_later hbl hcell0
     have hfl := flat_len ls j (by rw [HL.out]; exact hlt2)
     have hft := take_flat ls j (by rw [HL.out]; exact hlt2)
     have hbn := hb.len
     have hle := flat_le ls (j + 1)
     have hz := hbl.size
     have hc1 : (ls.take j).flatten.length + n ≤ 140737488355328 := by rw [hbn] at hfl; rw [HQ.out] at hle; omega
     have HB := Lib.hid (hb.below hbl)
     have HT := Lib.hid hft
     have HO := Lib.hid hown
     clear hb hfl hft hbn hle hown hcell0
     go_wp2_with (at_builtin; refine wpList_append_bytes rfl _ _ 29 rfl w.heap.size 5 Try.underlying29 info5 _ _ rfl HO.out _ _ _ _ rfl HB.out hc1 hz ?_; intro v2 w2 hown2 hgr2 hb2; clear hgr2)
     go_roundw
     case rel => exact ⟨j + 1, by omega, by go_num, by rw [HT.out]; exact hown2, hbl.trans hb2⟩
     case measure => simp [intOf]; omega
    ·obtain rfl : j = k := by omega
     rw [List.take_of_length_le (by rw [HL.out]; exact Nat.le_refl _)] at hown
     go_wp2_with fail
     go_ret
     exact ⟨_, rfl, hown, hbl⟩
end Go.Proofs.Ytnicaicjgaoolaa.F
