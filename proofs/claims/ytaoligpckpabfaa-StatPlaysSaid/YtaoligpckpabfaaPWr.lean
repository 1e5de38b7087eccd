/-
  The writers of numbers and texts.
-/
import Derived.Test.YtaoligpckpabfaaRows
import Derived.Test.YtaoligpckpabfaaKit
import Derived.Test.YtaoligpckpabfaaOnly
import Derived.Test.YtaoligpckpabfaaKitI
import Derived.BigQuiet
import Derived.Deep.QuietTactic
import Derived.BigRegion
import Derived.Deep.OwnRows
import Derived.Lib.AppendStr
namespace Go.Proofs.Ytaoligpckpabfaa
open Go.RowKit

theorem info5 : (Try.prog.info? 5).map (fun i => (i.zero, i.size, i.bytes)) = some (some (.int .u8 0), 1, 1) := by kernel_rfl

/-- the byte of place i, of eight, of a number -/
def byteAt (z : Int) (i : Nat) : UInt8 := UInt8.ofNat ((BitVec.ofInt 64 z).toNat / 2 ^ (8 * (7 - i)))
/-- the eight bytes of a number -/
def be8 (z : Int) : List UInt8 := [byteAt z 0, byteAt z 1, byteAt z 2, byteAt z 3, byteAt z 4, byteAt z 5, byteAt z 6, byteAt z 7]

theorem byteAt_eq (z : Int) (k : Nat) : IntKind.u64.wrap z / 2 ^ (8 * (7 - k)) % 256 = ((byteAt z k).toNat : Int) := by
  have h1 : IntKind.u64.wrap z = ((BitVec.ofInt 64 z).toNat : Int) := by
    have h0 : ((BitVec.ofInt 64 z).toNat : Int) = z % 18446744073709551616 := by
      rw [BitVec.toNat_ofInt]
      have : (0 : Int) ≤ z % ((2 ^ 64 : Nat) : Int) := Int.emod_nonneg _ (by decide)
      rw [Int.toNat_of_nonneg this]; rfl
    rw [h0]
    simp [IntKind.wrap, IntKind.bits, IntKind.signed]
  rw [h1]
  unfold byteAt
  generalize (BitVec.ofInt 64 z).toNat = m
  rw [UInt8.toNat_ofNat']
  generalize 8 * (7 - k) = e
  have : ((2 : Int) ^ e) = ((2 ^ e : Nat) : Int) := by rw [Int.natCast_pow]; rfl
  rw [this]
  generalize (2 : Nat) ^ e = q
  rw [Int.natCast_emod, Int.natCast_ediv]
  rfl
theorem byte_cells (z : Int) (k : Nat) : #[Value.int .u8 (IntKind.u64.wrap z / 2 ^ (8 * (7 - k)) % 256)] = ([byteAt z k].map bv).toArray := by
  rw [byteAt_eq]; rfl
theorem be8_len (z : Int) : (be8 z).length = 8 := rfl
theorem be8_take (z : Int) (k : Nat) (h : k < 8) : (be8 z).take (k + 1) = (be8 z).take k ++ [byteAt z k] := by
  rcases k with _ | _ | _ | _ | _ | _ | _ | _ | k
  all_goals first | rfl | omega

set_option maxHeartbeats 400000 in
theorem i64_any (ao : Option Addr) (n c : Nat) (l : List UInt8) (z : Int) (w : World) (h : IsB w ao n c l) (hn : n ≤ 70368744177664) :
    Calls Try.prog 37 #[.slice ao n c, .int .i64 z] w fun e w' => ∃ v, e = .returned v ∧ OwnB w' w.heap.size 5 v (l ++ be8 z) ∧ Below w.heap.size w w' := by
  have hlen := h.len
  have hb1 : ([] : List UInt8).length + n ≤ 140737488355328 := by simp; omega
  have HB := Lib.hid h; clear h
  go_enter Try.func37, Try.ntmps37
  go_wp2_with (at_builtin; refine wpList_append_bytes rfl _ _ 48 rfl w.heap.size 5 Try.underlying48 info5 _ [] rfl (OwnB.new _ _ _ [] _ rfl _ rfl (by exact Nat.le_refl _) 0 rfl (by decide)) _ _ _ _ rfl (HB.out.alloc _) hb1 (by simp) ?_; intro v' w2 hown' hgr hb2)
  have hb3 : Below w.heap.size w w2 := ((Below.refl _ _).alloc (Nat.le_refl _) _).trans hb2
  rw [List.nil_append] at hown'
  clear hgr hb2 HB
  have HL := Lib.hid hlen; clear hlen
  go_loopw [5, 6] (fun v i wr => ∃ k : Nat, k ≤ 8 ∧ i = .int .i64 (7 - (k : Int)) ∧ OwnB wr w.heap.size 5 v (l ++ (be8 z).take k) ∧ Below w.heap.size w wr) (fun _ i _ => (intOf i + 1).toNat)
  case atStart => exact ⟨0, by omega, rfl, by simpa using hown', hb3⟩
  case round =>
    obtain ⟨k, hk, rfl, hown, hbl⟩ := hrel
    by_cases hlt : k < 8
    · have hc1 : (l ++ (be8 z).take k).length + 1 ≤ 140737488355328 := by
        have := HL.out
        rw [List.length_append, List.length_take]; omega
      have hc2 := hbl.size
      go_wp2_with (at_builtin; refine wpList_append_bytes rfl _ _ 48 rfl w.heap.size 5 Try.underlying48 info5 _ _ rfl (hown.alloc _) _ _ _ [byteAt z k] rfl (isB_new _ [byteAt z k] _ (byte_cells z k) _ _ _ rfl 1 rfl _) hc1 (by simp; omega) ?_; intro v3 w3 hown3 hgr3 hb4; clear hown)
      go_roundw
      case rel => exact ⟨k + 1, by omega, by go_num, by rw [be8_take z k hlt, ← List.append_assoc]; exact hown3, (hbl.alloc hc2 _).trans hb4⟩
      case measure => simp [intOf]; omega
    · go_wp2
      go_ret
      obtain rfl : k = 8 := by omega
      exact ⟨_, rfl, by simpa [List.take_of_length_le, be8] using hown, hbl⟩

/-- APPEND of a text's bytes -/
theorem wpList_append_text {P : Program} {w : World} {ops : Array Oper} {rest : List Oper} {o : Oper} {a : Act} {Q : Exit → Act → World → Prop} (hgd : o.guard = none) (sl x : Operand) (t u : TypeId)
    (ho : o.op = .call { callee := .builtin .append, args := #[sl, x], argTypes := #[t, u] })
    (base : Nat) (e : TypeId) (ht : P.underlying t = some (.slice e)) (hu : P.underlying u = some .string) (hi : (P.info? e).map (fun i => (i.zero, i.size, i.bytes)) = some (some (.int .u8 0), 1, 1))
    (v : Value) (l : List UInt8) (hs : a.eval sl = v) (hown : OwnB w base e v l) (s : ByteArray) (hx : a.eval x = .string s)
    (hbytes : l.length + s.size ≤ 140737488355328) (hbase : base ≤ w.heap.size)
    (h : ∀ v' w', OwnB w' base e v' (l ++ s.data.toList) → w.grownBy w' v.ownBlock → Below base w w' → wpList P ops Q rest (a.put o.dst v') w') : wpList P ops Q (o :: rest) a w := by
  obtain ⟨i0, hi0, hz0, hz1, hz2⟩ := info_parts hi
  have hb : ∀ w', w.grownBy w' v.ownBlock → Below base w w' := fun w' hg => (Below.refl base w).grown hg hbase (fun k hk => (hown.lt k hk).1)
  refine Lib.wpList_append_own_string w hgd sl x t u ho base e i0 ht hu hi0 hz0 hz1 hz2 v _ _ hs hown s hx (by unfold maxLen; omega) hbytes hbase ?_
  intro v' w' g1 g2 _
  refine h v' w' ?_ g2 (hb w' g2)
  unfold OwnB
  rw [List.length_append, List.map_append]
  exact g1

/-- a text in bytes: its length, and it -/
def txt (s : ByteArray) : List UInt8 := be8 (s.size : Int) ++ s.data.toList
theorem size_list (s : ByteArray) : s.data.toList.length = s.size := rfl
theorem txt_len (s : ByteArray) : (txt s).length = 8 + s.size := by unfold txt; rw [List.length_append, be8_len, size_list]

set_option maxHeartbeats 400000 in
theorem text_any (ao : Option Addr) (n c : Nat) (l : List UInt8) (s : ByteArray) (w : World) (h : IsB w ao n c l) (hn : n ≤ 1099511627776) (hs : s.size ≤ 1099511627776) :
    Calls Try.prog 38 #[.slice ao n c, .string s] w fun e w' => ∃ v, e = .returned v ∧ OwnB w' w.heap.size 5 v (l ++ txt s) ∧ Below w.heap.size w w' := by
  have hlen := h.len
  go_enter Try.func38, Try.ntmps38
  go_wp2_with fail
  refine (i64_any ao n c l _ w h (by omega)).mono ?_
  rintro e w1 ⟨v, rfl, hown, hb⟩
  have hl : (l ++ be8 (s.size : Int)).length + s.size ≤ 140737488355328 := by rw [List.length_append, be8_len]; omega
  have hz := hb.size
  clear h hlen
  go_wp2_with (at_builtin; refine wpList_append_text rfl _ _ 48 9 rfl w.heap.size 5 Try.underlying48 Try.underlying9 info5 _ _ rfl hown _ rfl hl hz ?_; intro v3 w3 hown3 hgr3 hb4; clear hown)
  go_ret
  exact ⟨_, rfl, by simpa [txt, List.append_assoc] using hown3, hb.trans hb4⟩

def be8s (zs : List Int) : List UInt8 := zs.flatMap be8
theorem be8s_len (zs : List Int) : (be8s zs).length = 8 * zs.length := by
  induction zs with
  | nil => rfl
  | cons z zs ih => simp only [be8s, List.flatMap_cons, List.length_append, be8_len, List.length_cons] at ih ⊢; omega
theorem take_oneI (l : List Int) (k : Nat) (h : k < l.length) : l.take (k + 1) = l.take k ++ [l.getD k 0] := by
  rw [List.take_succ_eq_append_getElem h]
  simp [h]
theorem be8s_take (zs : List Int) (k : Nat) (h : k < zs.length) : be8s (zs.take (k + 1)) = be8s (zs.take k) ++ be8 (zs.getD k 0) := by
  rw [take_oneI zs k h]; simp [be8s]

set_option maxHeartbeats 400000 in
theorem pall_any (ao : Option Addr) (n c : Nat) (l : List UInt8) (ai : Option Addr) (m ci : Nat) (zs : List Int) (w : World) (h : IsB w ao n c l) (hi : IsI w ai m ci zs) (hn : n ≤ 1099511627776) (hm : m ≤ 1099511627776) :
    Calls Try.prog 36 #[.slice ao n c, .slice ai m ci] w fun e w' => ∃ v, e = .returned v ∧ OwnB w' w.heap.size 5 v (l ++ be8s zs) ∧ Below w.heap.size w w' := by
  have hlen := h.len
  have hb1 : ([] : List UInt8).length + n ≤ 140737488355328 := by simp; omega
  have HB := Lib.hid h; clear h
  have HI := Lib.hid hi; clear hi
  go_enter Try.func36, Try.ntmps36
  go_wp2_with (at_builtin; refine wpList_append_bytes rfl _ _ 48 rfl w.heap.size 5 Try.underlying48 info5 _ [] rfl (OwnB.new _ _ _ [] _ rfl _ rfl (by exact Nat.le_refl _) 0 rfl (by decide)) _ _ _ _ rfl (HB.out.alloc _) hb1 (by simp) ?_; intro v' w2 hown' hgr hb2)
  have hb3 : Below w.heap.size w w2 := ((Below.refl _ _).alloc (Nat.le_refl _) _).trans hb2
  rw [List.nil_append] at hown'
  clear hgr hb2 HB
  have HL := Lib.hid hlen; clear hlen
  go_loopw [5, 13] (fun v i wr => ∃ k : Nat, k ≤ m ∧ i = .int .i64 (k : Int) ∧ OwnB wr w.heap.size 5 v (l ++ be8s (zs.take k)) ∧ Below w.heap.size w wr) (fun _ i _ => m - (intOf i).toNat)
  case atStart => exact ⟨0, by omega, rfl, by simpa [be8s] using hown', hb3⟩
  case round =>
    obtain ⟨k, hk, rfl, hown, hbl⟩ := hrel
    have hzl := HI.out.len
    by_cases hlt : k < m
    · obtain ⟨ag, rfl⟩ : ∃ ag : Nat × Nat, ai = some ⟨ag.1, ag.2, none⟩ := by
        rcases HI.out.at_ with h0 | ⟨b, off, h1, h2⟩
        · omega
        · exact ⟨(b, off), h1⟩
      have hcell : wr.cell? ⟨ag.1, ag.2 + k, none⟩ = some (.int .i64 (zs.getD k 0)) := by
        rcases HI.out.at_ with h0 | ⟨b, off, h1, h2⟩
        · omega
        · have := cell_later hbl (h2 k hlt)
          cases h1
          exact this
      have htk := be8s_take zs k (by omega)
      generalize zs.getD k 0 = z at hcell htk
      have HT := Lib.hid htk; clear htk
      have hc2 := hbl.size
      obtain ⟨a1, c1, rfl, hb1⟩ := hown.isB
      have hll : (l ++ be8s (zs.take k)).length ≤ 70368744177664 := by
        have := HL.out
        rw [List.length_append, be8s_len, List.length_take]; omega
      generalize (l ++ be8s (zs.take k)).length = nn at hown hb1 hll
      have HW := Lib.hid hown; clear hown
      have HB1 := Lib.hid hb1; clear hb1 hzl
      go_wp2_with fail
      refine (i64_any _ _ _ _ _ _ HB1.out hll).mono ?_
      rintro e w3 ⟨v3, rfl, hown3, hb3⟩
      go_wp2_with fail
      go_roundw
      case rel => exact ⟨k + 1, by omega, by go_num, by rw [HT.out, ← List.append_assoc]; exact hown3.mono hc2, hbl.trans (hb3.mono hc2)⟩
      case measure => simp [intOf]; omega
    · go_wp2
      go_ret
      obtain rfl : k = m := by omega
      rw [List.take_of_length_le (by omega)] at hown
      exact ⟨_, rfl, hown, hbl⟩
end Go.Proofs.Ytaoligpckpabfaa
