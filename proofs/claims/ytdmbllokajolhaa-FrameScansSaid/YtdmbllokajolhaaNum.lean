/-
  Numbers of four bytes, written and read; copies of bytes.
-/
import Derived.Test.YtdmbllokajolhaaOf
import Derived.BigQuiet
import Derived.Deep.QuietTactic
import Derived.Lib.AppendZerosOnto
import Derived.Lib.SliceRun
import Derived.Lib.Walk
namespace Go.Proofs.Ytdmbllokajolhaa
open Go.RowKit

theorem info5 : (Try.prog.info? 5).map (fun i => (i.zero, i.size, i.bytes)) = some (some (.int .u8 0), 1, 1) := by kernel_rfl

/-- the byte of place i, of four -/
def b4 (c : BitVec 32) (i : Nat) : UInt8 := UInt8.ofNat (c.toNat / 2 ^ (8 * (3 - i)))
def be4 (c : BitVec 32) : List UInt8 := [b4 c 0, b4 c 1, b4 c 2, b4 c 3]
theorem be4_len (c : BitVec 32) : (be4 c).length = 4 := rfl
theorem b4_eq (c : BitVec 32) (i : Nat) (hi : i < 4) (d : Int) (hd : d = ((2 ^ (8 * (3 - i)) : Nat) : Int)) : (c.toNat : Int) / d % 256 = ((b4 c i).toNat : Int) := by
  subst hd
  unfold b4
  rw [UInt8.toNat_ofNat', Int.natCast_emod, Int.natCast_ediv]
  rfl
theorem b4_last (c : BitVec 32) : (c.toNat : Int) % 256 = ((b4 c 3).toNat : Int) := by
  have := b4_eq c 3 (by decide) 1 (by decide)
  rwa [Int.ediv_one] at this
/-- the number of four bytes -/
def num4 (x0 x1 x2 x3 : UInt8) : BitVec 32 := BitVec.ofNat 32 (x0.toNat * 16777216 + x1.toNat * 65536 + x2.toNat * 256 + x3.toNat)
theorem num4_nat (x0 x1 x2 x3 : UInt8) : (num4 x0 x1 x2 x3).toNat = x0.toNat * 16777216 + x1.toNat * 65536 + x2.toNat * 256 + x3.toNat := by
  unfold num4
  have h0 := x0.toNat_lt
  have h1 := x1.toNat_lt
  have h2 := x2.toNat_lt
  have h3 := x3.toNat_lt
  rw [BitVec.toNat_ofNat, Nat.mod_eq_of_lt (by omega)]
def at4 (l : List UInt8) (i : Nat) : BitVec 32 := num4 (l.getD i 0) (l.getD (i + 1) 0) (l.getD (i + 2) 0) (l.getD (i + 3) 0)

theorem cells4 (c : BitVec 32) : #[Value.int .u8 ((c.toNat : Int) / 16777216), Value.int .u8 ((c.toNat : Int) / 65536 % 256), Value.int .u8 ((c.toNat : Int) / 256 % 256), Value.int .u8 ((c.toNat : Int) % 256)] = ((be4 c).map bv).toArray := by
  have hlt := c.isLt
  rw [show (c.toNat : Int) / 16777216 = (c.toNat : Int) / 16777216 % 256 by omega, b4_eq c 0 (by decide) 16777216 (by decide), b4_eq c 1 (by decide) 65536 (by decide), b4_eq c 2 (by decide) 256 (by decide), b4_last c]
  rfl

set_option maxHeartbeats 400000 in
theorem number_any (base : Nat) (v : Value) (l : List UInt8) (c : BitVec 32) (w : World) (h : OwnB w base 5 v l) (hl : l.length ≤ 70368744177664) (hb : base ≤ w.heap.size) :
    Calls Try.prog 14 #[v, .int .u32 (c.toNat : Int)] w fun e w' => ∃ v', e = .returned v' ∧ OwnB w' base 5 v' (l ++ be4 c) ∧ Below base w w' := by
  have hlt := c.isLt
  have hc1 : l.length + 4 ≤ 140737488355328 := by omega
  have HC := Lib.hid (cells4 c)
  have HO := Lib.hid h; clear h
  have h0 : (0 : Int) ≤ (c.toNat : Int) := by omega
  have h1 : (c.toNat : Int) < 4294967296 := by omega
  generalize (c.toNat : Int) = z at HC h0 h1
  clear hlt
  go_enter Try.func14, Try.ntmps14
  go_wp2_with (at_builtin; refine wpList_append_bytes rfl _ _ 23 rfl base 5 Try.underlying23 info5 _ _ rfl (HO.out.alloc _) _ _ _ (be4 c) rfl (isB_new _ (be4 c) _ HC.out _ _ _ rfl 4 rfl _) hc1 (by simp; omega) ?_; intro v3 w3 hown3 hgr3 hb4)
  go_ret
  exact ⟨_, rfl, hown3, ((Below.refl _ _).alloc hb _).trans hb4⟩

set_option maxHeartbeats 400000 in
theorem u32_any (ao : Option Addr) (n cp : Nat) (l : List UInt8) (c : BitVec 32) (w : World) (h : IsB w ao n cp l) (hn : n ≤ 70368744177664) :
    Calls Try.prog 19 #[.slice ao n cp, .int .u32 (c.toNat : Int)] w fun e w' => ∃ v', e = .returned v' ∧ OwnB w' w.heap.size 5 v' (l ++ be4 c) ∧ Below w.heap.size w w' := by
  have hlt := c.isLt
  have hlen := h.len
  have hc0 : ([] : List UInt8).length + n ≤ 140737488355328 := by simp; omega
  have hc1 : ([] ++ l).length + 4 ≤ 140737488355328 := by simp; omega
  have HC := Lib.hid (cells4 c)
  have HO := Lib.hid h; clear h
  have h0 : (0 : Int) ≤ (c.toNat : Int) := by omega
  have h1 : (c.toNat : Int) < 4294967296 := by omega
  generalize (c.toNat : Int) = z at HC h0 h1
  clear hlt
  have HL := Lib.hid hlen; clear hlen
  have hz0 : w.heap.size ≤ w.heap.size := Nat.le_refl _
  go_enter Try.func19, Try.ntmps19
  go_wp2_with (first
    | (at_builtin; refine wpList_append_bytes rfl (.tmp 5) (.tmp 6) 23 rfl w.heap.size 5 Try.underlying23 info5 _ [] rfl (OwnB.new _ _ _ [] _ rfl _ rfl (by exact Nat.le_refl _) 0 rfl (by decide)) _ _ _ _ rfl (HO.out.alloc _) hc0 (by simp) ?_; intro v2 w2 hown2 hgr2 hb2; clear hgr2; have HO2 := Lib.hid hown2; clear hown2; have hz2 := (((Below.refl _ _).alloc hz0 _).trans hb2).size)
    | (at_builtin; refine wpList_append_bytes rfl (.tmp 7) (.tmp 19) 23 rfl w.heap.size 5 Try.underlying23 info5 _ _ rfl (HO2.out.alloc _) _ _ _ (be4 c) rfl (isB_new _ (be4 c) _ HC.out _ _ _ rfl 4 rfl _) hc1 (by simp; omega) ?_; intro v3 w3 hown3 hgr3 hb4))
  go_ret
  exact ⟨_, rfl, by simpa using hown3, ((((Below.refl _ _).alloc hz0 _).trans hb2).alloc hz2 _).trans hb4⟩

theorem or_add (a b k : Nat) (h : b < 2 ^ k) : a * 2 ^ k ||| b = a * 2 ^ k + b := by
  have := Nat.shiftLeft_add_eq_or_of_lt (i := k) h a
  rw [Nat.shiftLeft_eq] at this
  exact this.symm
theorem or4 (x0 x1 x2 x3 : UInt8) : bits .or .u32 (bits .or .u32 (bits .or .u32 ((x0.toNat : Int) % 4294967296 * 16777216 % 4294967296) ((x1.toNat : Int) % 4294967296 * 65536 % 4294967296)) ((x2.toNat : Int) % 4294967296 * 256 % 4294967296)) ((x3.toNat : Int) % 4294967296) = ((num4 x0 x1 x2 x3).toNat : Int) := by
  have h0 := x0.toNat_lt
  have h1 := x1.toNat_lt
  have h2 := x2.toNat_lt
  have h3 := x3.toNat_lt
  rw [num4_nat]
  generalize x0.toNat = a at *
  generalize x1.toNat = b at *
  generalize x2.toNat = c at *
  generalize x3.toNat = d at *
  rw [show (a : Int) % 4294967296 * 16777216 % 4294967296 = ((a * 16777216 : Nat) : Int) by omega, show (b : Int) % 4294967296 * 65536 % 4294967296 = ((b * 65536 : Nat) : Int) by omega,
    show (c : Int) % 4294967296 * 256 % 4294967296 = ((c * 256 : Nat) : Int) by omega, show (d : Int) % 4294967296 = ((d : Nat) : Int) by omega]
  have e1 : a * 16777216 ||| b * 65536 = a * 16777216 + b * 65536 := or_add a (b * 65536) 24 (by omega)
  have e2 : (a * 256 + b) * 65536 ||| c * 256 = (a * 256 + b) * 65536 + c * 256 := or_add _ (c * 256) 16 (by omega)
  have e3 : (a * 65536 + b * 256 + c) * 256 ||| d = (a * 65536 + b * 256 + c) * 256 + d := or_add _ d 8 (by omega)
  rw [u32_or_nat _ _ (by omega) (by omega), e1, show a * 16777216 + b * 65536 = (a * 256 + b) * 65536 by omega, u32_or_nat _ _ (by omega) (by omega), e2,
    show (a * 256 + b) * 65536 + c * 256 = (a * 65536 + b * 256 + c) * 256 by omega, u32_or_nat _ _ (by omega) (by omega), e3]
theorem b_wrap (x : UInt8) : IntKind.u32.wrap (x.toNat : Int) = (x.toNat : Int) := by
  have := x.toNat_lt
  simp [IntKind.wrap, IntKind.bits, IntKind.signed]
  omega

set_option maxHeartbeats 400000 in
theorem at_any (ao : Option Addr) (n cp : Nat) (l : List UInt8) (i : Nat) (w : World) (h : IsB w ao n cp l) (hn : n ≤ 70368744177664) (hi : i + 4 ≤ n) :
    Calls Try.prog 23 #[.slice ao n cp, .int .i64 (i : Int)] w fun e w' => ∃ d, e = .returned (.int .u32 ((at4 l i).toNat : Int)) ∧ w' = w.drewN d := by
  obtain ⟨b, off, rfl, hc⟩ : ∃ b off, ao = some ⟨b, off, none⟩ ∧ ∀ i, i < n → w.cell? ⟨b, off + i, none⟩ = some (.int .u8 ((l.getD i 0).toNat : Int)) := by
    rcases h.at_ with h0 | h0
    · omega
    · exact h0
  have c0 := hc i (by omega)
  have c1 := hc (i + 1) (by omega)
  have c2 := hc (i + 2) (by omega)
  have c3 := hc (i + 3) (by omega)
  clear h hc
  have hnum := num4_nat (l.getD i 0) (l.getD (i + 1) 0) (l.getD (i + 2) 0) (l.getD (i + 3) 0)
  have HV := Lib.hid (show at4 l i = num4 (l.getD i 0) (l.getD (i + 1) 0) (l.getD (i + 2) 0) (l.getD (i + 3) 0) from rfl)
  generalize l.getD i 0 = x0 at *
  generalize l.getD (i + 1) 0 = x1 at *
  generalize l.getD (i + 2) 0 = x2 at *
  generalize l.getD (i + 3) 0 = x3 at *
  have HN := Lib.hid hnum; clear hnum
  go_enter Try.func23, Try.ntmps23
  go_wp2_with fail
  go_quiet (fail)
  go_wp2_with fail
  go_ret
  exact ⟨nq, ret_u32 (by rw [HV.out]; exact or4 _ _ _ _), rfl⟩

set_option maxHeartbeats 400000 in
theorem at32_any (ao : Option Addr) (n cp : Nat) (l : List UInt8) (w : World) (h : IsB w ao n cp l) (hn : n ≤ 70368744177664) (hi : 4 ≤ n) :
    Calls Try.prog 21 #[.slice ao n cp] w fun e w' => ∃ d, e = .returned (.int .u32 ((at4 l 0).toNat : Int)) ∧ w' = w.drewN d := by
  obtain ⟨b, off, rfl, hc⟩ : ∃ b off, ao = some ⟨b, off, none⟩ ∧ ∀ i, i < n → w.cell? ⟨b, off + i, none⟩ = some (.int .u8 ((l.getD i 0).toNat : Int)) := by
    rcases h.at_ with h0 | h0
    · omega
    · exact h0
  have c0 := hc 0 (by omega)
  have c1 := hc 1 (by omega)
  have c2 := hc 2 (by omega)
  have c3 := hc 3 (by omega)
  rw [Nat.add_zero] at c0
  clear h hc
  have HV := Lib.hid (show at4 l 0 = num4 (l.getD 0 0) (l.getD 1 0) (l.getD 2 0) (l.getD 3 0) from rfl)
  generalize l.getD 0 0 = x0 at *
  generalize l.getD 1 0 = x1 at *
  generalize l.getD 2 0 = x2 at *
  generalize l.getD 3 0 = x3 at *
  go_enter Try.func21, Try.ntmps21
  go_wp2_with fail
  go_quiet (fail)
  go_wp2_with fail
  go_ret
  exact ⟨nq, ret_u32 (by rw [HV.out]; exact or4 _ _ _ _), rfl⟩

set_option maxHeartbeats 400000 in
theorem clone_any (ao : Option Addr) (n c : Nat) (l : List UInt8) (w : World) (h : IsB w ao n c l) (hn : n ≤ 70368744177664) :
    Calls Try.prog 18 #[.slice ao n c] w fun e w' => ∃ v', e = .returned v' ∧ OwnB w' w.heap.size 5 v' l ∧ Below w.heap.size w w' := by
  have hc0 : ([] : List UInt8).length + n ≤ 140737488355328 := by simp; omega
  have HO := Lib.hid h; clear h
  have hnil := fun (w : World) => Lib.run_eql_slice_nil (P := Try.prog) w 23 5 ao n c 0 0 Try.underlying23
  cases ao with
  | none =>
    obtain ⟨rfl, rfl⟩ := HO.out.nil rfl
    obtain rfl : l = [] := List.length_eq_zero_iff.1 HO.out.len
    go_enter Try.func18, Try.ntmps18
    go_wp2_with fail
    go_ret
    exact ⟨_, rfl, OwnB.nil _ _ _, Below.refl _ _⟩
  | some a =>
    go_enter Try.func18, Try.ntmps18
    go_wp2_with (at_builtin; refine wpList_append_bytes rfl _ _ 23 rfl w.heap.size 5 Try.underlying23 info5 _ [] rfl (OwnB.new _ _ _ [] _ rfl _ rfl (by exact Nat.le_refl _) 0 rfl (by decide)) _ _ _ _ rfl (HO.out.alloc _) hc0 (by simp) ?_; intro v2 w2 hown2 hgr2 hb2; clear hgr2)
    go_ret
    exact ⟨_, rfl, by simpa using hown2, ((Below.refl _ _).alloc (Nat.le_refl _) _).trans hb2⟩
end Go.Proofs.Ytdmbllokajolhaa
