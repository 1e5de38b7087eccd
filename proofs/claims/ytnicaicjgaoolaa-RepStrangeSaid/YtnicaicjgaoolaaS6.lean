/-
  What the proof of the law leans on: contracts of the program's functions, one behind another. No condition.
-/
import Derived.Test.YtnicaicjgaoolaaS5
import Derived.Test.YtnicaicjgaoolaaS4
import Derived.Test.YtnicaicjgaoolaaS3
import Derived.Test.YtnicaicjgaoolaaS2
set_option linter.unusedVariables false
set_option linter.unusedSimpArgs false
namespace Go.Proofs.Ytnicaicjgaoolaa
set_option maxRecDepth 20000
open Go.RowKit

/-- behind the pointer to block a lies a reader that has the bytes l left, bad or not -/
structure IsR (w : World) (a : Nat) (T : Nat → Prop) (l : List UInt8) (bad : Bool) : Prop where
 row : ∃ ao n c, w.heap[a]? = some (.cells #[.slice ao n c, .bool bad] 119 (0, 0)) ∧ IsB w ao n c l ∧ n ≤ c ∧ (∀ p, ao = some p → T p.block)
 ne : ¬ T a

variable {T : Nat → Prop}

theorem isB_only {w w' : World} {ao : Option Addr} {n c a : Nat} {l : List UInt8} (h : IsB w ao n c l) (ho : Only [a] w w') (hne : ∀ p, ao = some p → p.block ≠ a) : IsB w' ao n c l := by
 obtain ⟨h1, h2, h3⟩ := h
 refine ⟨h1, h2, ?_⟩
 rcases h3 with h3 | ⟨b, off, h4, h5⟩
 ·exact .inl h3
 ·exact .inr ⟨b, off, h4, fun i hi => ho.cell (h5 i hi) (by simpa using hne _ h4)⟩
theorem isB_none {w : World} {b off : Nat} (c : Nat) : IsB w (some ⟨b, off, none⟩) 0 c [] := ⟨rfl, (fun e => by cases e), .inl rfl⟩
theorem isR_set {w : World} {a : Nat} {x : Value} {bad : Bool} (h1 : w.heap[a]? = some (.cells #[x, .bool bad] 119 (0, 0))) {ao : Option Addr} {n c : Nat} {l : List UInt8} (h2 : IsB w ao n c l) (h3 : n ≤ c) (h4 : ∀ p, ao = some p → T p.block) (hne : ¬ T a) :
  IsR (w.setCell ⟨a, 0, none⟩ (.slice ao n c)) a T l bad := by
 have ho : Only [a] w (w.setCell ⟨a, 0, none⟩ (.slice ao n c)) := (Only.refl [a] w).setCell (by simp) _
 exact ⟨⟨ao, n, c, heap_set h1 0 _, isB_only h2 ho (fun p hp e => hne (e ▸ h4 p hp)), h3, h4⟩, hne⟩

set_option maxHeartbeats 400000 in
theorem spoil_any (a : Nat) (l : List UInt8) (bad : Bool) (w : World) (h : IsR w a T l bad) :
  Calls Try.prog 82 #[.pointer (some ⟨a, 0, none⟩)] w fun e w' => e = .returned (.tuple #[]) ∧ IsR w' a T [] true ∧ Only [a] w w' := by
 obtain ⟨⟨ao, n, c, h1, h2, h3, h4⟩, hne⟩ := h
 have hc0 : w.cell? ⟨a, 0, none⟩ = some (.slice ao n c) := by rw [cell_heap h1]; rfl
 have hc1 : w.cell? ⟨a, 1, none⟩ = some (.bool bad) := by rw [cell_heap h1]; rfl
 have hf0 := free_heap h1 0
 have hf1 := free_heap h1 1
 have HR := Lib.hid h1
 clear h1 h2 h4
 go_enter Try.func82, Try.ntmps82
 go_wp2_with fail
 go_end0
 refine ⟨rfl, ⟨⟨none, 0, 0, ?_, isB_nil _, Nat.le_refl _, by simp⟩, hne⟩, ?_⟩
 ·exact heap_set (heap_set HR.out 0 _) 1 _
 ·exact ((Only.refl [a] w).setCell (by simp) _).setCell (by simp) _

/-- bytes as a text -/
def strB (l : List UInt8) : ByteArray := ⟨l.toArray⟩
theorem conv_any (w : World) (ao : Option Addr) (n c : Nat) (l : List UInt8) (h : IsB w ao n c l) : (convert 29 9 (.slice ao n c)).run Try.prog w = .ok (.string (strB l)) w := by
 obtain ⟨h1, h2, h3⟩ := h
 cases ao with
 | none =>
  obtain ⟨rfl, rfl⟩ := h2 rfl
  obtain rfl := List.length_eq_zero_iff.1 h1
  rw [run_convert_bytes_nil w 29 5 Try.underlying29 Try.underlying5 0 0 9 Try.underlying9]
  rfl
 | some p =>
  rcases h3 with h3 | ⟨b, off, h4, h5⟩
  ·subst h3
   obtain rfl := List.length_eq_zero_iff.1 h1
   rw [run_convert_bytes_string w 29 9 5 _ 0 c Try.underlying29 Try.underlying5 Try.underlying9, run_bytesToString w p 0 c [] (run_loadCells_list w p [] (by simp))]
   rfl
  ·cases h4
   rw [run_convert_bytes_arg w 29 5 Try.underlying29 Try.underlying5 b off n c (l.map fun x => (x.toNat : Int)) (by simpa using h1) (fun i hi => by rw [h5 i hi]; simp [h1, hi]) 9 Try.underlying9]
   simp only [strOfNums, strB, List.map_map]
   congr 4
   rw [List.map_congr_left (g := id)]
   ·simp
   ·intro x _; simp

/-- one byte behind a number's others -/
def pushN (v : Nat) (x : UInt8) : Nat := v * 256 + x.toNat
def accN (l : List UInt8) : Nat := l.foldl pushN 0
theorem accN_one (l : List UInt8) (x : UInt8) : accN (l ++ [x]) = accN l * 256 + x.toNat := by simp [accN, pushN]
theorem accN_lt (l : List UInt8) : accN l < 256 ^ l.length := by
 have key : ∀ (l : List UInt8) (v n : Nat), v < 256 ^ n → l.foldl pushN v < 256 ^ (n + l.length) := by
  intro l
  induction l with
  | nil => intro v n h; exact h
  | cons x l ih =>
   intro v n h
   have hx := x.toNat_lt
   have := ih (pushN v x) (n + 1) (by unfold pushN; rw [Nat.pow_succ]; omega)
   rw [List.length_cons, show n + (l.length + 1) = n + 1 + l.length by omega]
   exact this
 have := key l 0 0 (by simp)
 rwa [Nat.zero_add] at this
theorem accN_lt8 (l : List UInt8) (h : l.length < 8) : accN l < 72057594037927936 := Nat.lt_of_lt_of_le (accN_lt l) (Nat.le_trans (Nat.pow_le_pow_right (by decide) (show l.length ≤ 7 by omega)) (by decide))
/-- the number of eight bytes -/
def val8 (l : List UInt8) : Int := wrap64 (accN (l.take 8) : Int)
theorem wrap_u64_of_lt (v : Nat) (h : v < 18446744073709551616) : IntKind.u64.wrap (v : Int) = (v : Int) := by
 have : IntKind.u64.wrap (v : Int) = (v : Int) % 18446744073709551616 := by simp [IntKind.wrap, IntKind.bits, IntKind.signed]
 rw [this]; omega
theorem step_walk (v : Nat) (x : UInt8) (h : v < 72057594037927936) : bits .or .u64 (IntKind.u64.wrap ((v : Int) * 256)) (IntKind.u64.wrap (x.toNat : Int)) = ((v * 256 + x.toNat : Nat) : Int) := by
 have hx := x.toNat_lt
 have e : (v : Int) * 256 = ((v * 256 : Nat) : Int) := by rw [Int.natCast_mul]; rfl
 rw [e, wrap_u64_of_lt _ (by omega), wrap_u64_of_lt _ (by omega), u64_or_nat _ _ (by omega) (by omega)]
 have e2 := Nat.shiftLeft_add_eq_or_of_lt (i := 8) (b := x.toNat) (by omega) v
 rw [Nat.shiftLeft_eq, show 2 ^ 8 = 256 from rfl] at e2
 rw [← e2]
theorem take_one (l : List UInt8) (k : Nat) (h : k < l.length) : l.take (k + 1) = l.take k ++ [l.getD k 0] := by
 rw [List.take_succ_eq_append_getElem h]
 simp [h]
theorem u64_eq {a b : Int} (h : a = b) : Value.int .u64 a = Value.int .u64 b := by rw [h]
theorem ret_i64 {a b : Int} (h : a = b) : Ending.returned (Value.int .i64 a) = .returned (Value.int .i64 b) := by rw [h]

set_option maxHeartbeats 400000 in
theorem end_any (a : Nat) (l : List UInt8) (bad : Bool) (w : World) (h : IsR w a T l bad) :
  Calls Try.prog 72 #[.pointer (some ⟨a, 0, none⟩)] w fun e w' => e = .returned (.bool (!bad && l.isEmpty)) ∧ w = w' := by
 obtain ⟨⟨ao, n, c, h1, h2, h3, h4⟩, hne⟩ := h
 have hc0 : w.cell? ⟨a, 0, none⟩ = some (.slice ao n c) := by rw [cell_heap h1]; rfl
 have hc1 : w.cell? ⟨a, 1, none⟩ = some (.bool bad) := by rw [cell_heap h1]; rfl
 have he : l.isEmpty = ((n : Int) == 0) := by
  have := h2.len
  subst this
  cases l with
  | nil => rfl
  | cons x l =>
   rw [List.length_cons]
   have : ¬ (((l.length + 1 : Nat) : Int) = 0) := by omega
   simp only [List.isEmpty_cons]
   exact (beq_eq_false_iff_ne.2 this).symm
 rw [he]
 clear h1 h2 h4 he
 cases bad
 all_goals
  go_enter Try.func72, Try.ntmps72
  go_wp2
  go_ret
  exact ⟨rfl, rfl⟩

set_option maxHeartbeats 400000 in
theorem rdI64_none (a : Nat) (l : List UInt8) (bad : Bool) (w : World) (h : IsR w a T l bad) (hl : l.length < 8) :
  Calls Try.prog 71 #[.pointer (some ⟨a, 0, none⟩)] w fun e w' => e = .returned (.int .i64 0) ∧ IsR w' a T [] true ∧ Only [a] w w' := by
 have h' := h
 obtain ⟨⟨ao, n, c, h1, h2, h3, h4⟩, hne⟩ := h
 have hc0 : w.cell? ⟨a, 0, none⟩ = some (.slice ao n c) := by rw [cell_heap h1]; rfl
 have hn : n < 8 := by have := h2.len; omega
 clear h1 h2 h4 hl
 have HR := Lib.hid h'; clear h'
 go_enter Try.func71, Try.ntmps71
 go_wp2_with fail
 refine (spoil_any a l bad _ HR.out).mono ?_
 rintro e w1 ⟨rfl, hr, ho⟩
 go_wp2
 go_ret
 exact ⟨rfl, hr, ho⟩

set_option maxHeartbeats 400000 in
theorem rdI64_some (a : Nat) (l : List UInt8) (bad : Bool) (w : World) (h : IsR w a T l bad) (hl : 8 ≤ l.length) (hm : l.length ≤ 140737488355328) :
  Calls Try.prog 71 #[.pointer (some ⟨a, 0, none⟩)] w fun e w' => e = .returned (.int .i64 (val8 l)) ∧ IsR w' a T (l.drop 8) bad ∧ Only [a] w w' := by
 obtain ⟨⟨ao, n, c, h1, h2, h3, h4⟩, hne⟩ := h
 have hc0 : w.cell? ⟨a, 0, none⟩ = some (.slice ao n c) := by rw [cell_heap h1]; rfl
 have hf0 := free_heap h1 0
 have hlen := h2.len
 obtain ⟨b, off, rfl, hcb⟩ : ∃ b off, ao = some ⟨b, off, none⟩ ∧ ∀ i, i < n → w.cell? ⟨b, off + i, none⟩ = some (.int .u8 ((l.getD i 0).toNat : Int)) := by
  rcases h2.at_ with h0 | h0
  ·omega
  ·exact h0
 have hn8 : 8 ≤ n := by omega
 have hn9 : n ≤ 140737488355328 := by omega
 have hc8 : 8 ≤ c := by omega
 have HL := Lib.hid hlen
 have HR := Lib.hid h1
 have HB := Lib.hid h2
 have HC := Lib.hid hcb
 have hba : T b := h4 _ rfl
 clear h1 h2 h4 hlen hl hm hcb
 go_enter Try.func71, Try.ntmps71
 go_wp2_with fail
 go_loop [3, 20] (fun v i => ∃ k : Nat, k ≤ 8 ∧ i = .int .i64 (k : Int) ∧ v = .int .u64 ((accN (l.take k) : Nat) : Int)) (fun _ i => 8 - (intOf i).toNat)
 case atStart => exact ⟨0, by omega, rfl, rfl⟩
 case round =>
  obtain ⟨k, hk, rfl, rfl⟩ := hrel
  by_cases hlt : k < 8
  ·have hcell := HC.out k (by omega)
   have hone := take_one l k (by rw [HL.out]; omega)
   have hlt8 := accN_lt8 (l.take k) (by rw [List.length_take]; omega)
   generalize l.getD k 0 = x at hcell hone
   have HO := Lib.hid hone; clear hone
   have HV := Lib.hid hlt8; clear hlt8
   go_wp2_with fail
   go_round
   case rel => exact ⟨k + 1, by omega, by go_num, u64_eq (by rw [step_walk _ _ HV.out, HO.out, accN_one])⟩
   case measure => simp [intOf]; omega
  ·obtain rfl : k = 8 := by omega
   generalize hv : accN (l.take 8) = v
   have HV := Lib.hid hv; clear hv
   by_cases hcc : c = 8
   ·subst hcc
    obtain rfl : n = 8 := by omega
    go_wp2_with fail
    go_ret
    refine ⟨ret_i64 (by unfold val8; rw [HV.out]), ?_, (Only.refl [a] w).setCell (by simp) _⟩
    rw [List.drop_of_length_le (by rw [HL.out]; exact Nat.le_refl _)]
    exact isR_set HR.out (isB_none 0) (Nat.le_refl _) (fun p hp => by cases hp; exact hba) hne
   ·have hcx : ¬ (8 = c) := by omega
    go_wp2_with fail
    go_ret
    refine ⟨ret_i64 (by unfold val8; rw [HV.out]), ?_, (Only.refl [a] w).setCell (by simp) _⟩
    exact isR_set HR.out (isB_drop HB.out 8 _ hn8) (by omega) (fun p hp => by cases hp; exact hba) hne

/-- what a reader answers, what it has left, and whether it is bad -/
structure Rd (α : Type) where
 v : α
 l : List UInt8
 bad : Bool
def rI (l : List UInt8) (bad : Bool) : Rd Int := if l.length < 8 then ⟨0, [], true⟩ else ⟨val8 l, l.drop 8, bad⟩
def rC (l : List UInt8) (bad : Bool) (most : Int) : Rd Int := if (rI l bad).v < 0 ∨ most < (rI l bad).v then ⟨0, [], true⟩ else rI l bad
def rT (l : List UInt8) (bad : Bool) (most : Int) : Rd ByteArray :=
 if ((rC l bad most).l.length : Int) < (rC l bad most).v then ⟨⟨#[]⟩, [], true⟩
 else ⟨strB ((rC l bad most).l.take (rC l bad most).v.toNat), (rC l bad most).l.drop (rC l bad most).v.toNat, (rC l bad most).bad⟩
theorem rI_len (l : List UInt8) (bad : Bool) : (rI l bad).l.length ≤ l.length := by
 unfold rI; split
 ·simp
 ·simp
theorem rC_len (l : List UInt8) (bad : Bool) (most : Int) : (rC l bad most).l.length ≤ l.length := by
 unfold rC; split
 ·simp
 ·exact rI_len l bad
theorem rC_pos (l : List UInt8) (bad : Bool) (most : Int) : 0 ≤ (rC l bad most).v := by
 unfold rC; split
 ·simp
 ·omega
theorem rdI64_any (a : Nat) (l : List UInt8) (bad : Bool) (w : World) (h : IsR w a T l bad) (hm : l.length ≤ 140737488355328) :
  Calls Try.prog 71 #[.pointer (some ⟨a, 0, none⟩)] w fun e w' => e = .returned (.int .i64 (rI l bad).v) ∧ IsR w' a T (rI l bad).l (rI l bad).bad ∧ Only [a] w w' := by
 unfold rI
 by_cases hl : l.length < 8
 ·rw [if_pos hl]; exact rdI64_none a l bad w h hl
 ·rw [if_neg hl]; exact rdI64_some a l bad w h (by omega) hm

set_option maxHeartbeats 400000 in
theorem rdCount_any (a : Nat) (l : List UInt8) (bad : Bool) (most : Int) (w : World) (h : IsR w a T l bad) (hm : l.length ≤ 140737488355328) :
  Calls Try.prog 88 #[.pointer (some ⟨a, 0, none⟩), .int .i64 most] w fun e w' => e = .returned (.int .i64 (rC l bad most).v) ∧ IsR w' a T (rC l bad most).l (rC l bad most).bad ∧ Only [a] w w' := by
 unfold rC
 have hk := rdI64_any a l bad w h hm
 clear h hm
 generalize rI l bad = r at hk
 obtain ⟨v, l1, bad1⟩ := r
 simp only at hk ⊢
 have HK := Lib.hid hk; clear hk
 by_cases h0 : v < 0
 ·rw [if_pos (.inl h0)]
  go_enter Try.func88, Try.ntmps88
  go_wp2_with fail
  refine HK.out.mono ?_
  rintro e w1 ⟨rfl, hr, ho⟩
  go_wp2_with fail
  refine (spoil_any a _ _ _ hr).mono ?_
  rintro e w2 ⟨rfl, hr2, ho2⟩
  clear hr
  go_wp2
  go_ret
  exact ⟨rfl, hr2, ho.trans ho2⟩
 ·by_cases h1 : most < v
  ·rw [if_pos (.inr h1)]
   go_enter Try.func88, Try.ntmps88
   go_wp2_with fail
   refine HK.out.mono ?_
   rintro e w1 ⟨rfl, hr, ho⟩
   go_wp2_with fail
   refine (spoil_any a _ _ _ hr).mono ?_
   rintro e w2 ⟨rfl, hr2, ho2⟩
   clear hr
   go_wp2
   go_ret
   exact ⟨rfl, hr2, ho.trans ho2⟩
  ·rw [if_neg (by omega)]
   go_enter Try.func88, Try.ntmps88
   go_wp2_with fail
   refine HK.out.mono ?_
   rintro e w1 ⟨rfl, hr, ho⟩
   go_wp2
   go_ret
   exact ⟨rfl, hr, ho⟩

theorem add_block (p : Addr) (k : Nat) : (p.add k).block = p.block := by unfold Addr.add; split <;> simp
theorem isB_from {w : World} {p : Addr} {n c : Nat} {l : List UInt8} (h : IsB w (some p) n c l) (k c' : Nat) (hk : k ≤ n) : IsB w (some (p.add k)) (n - k) c' (l.drop k) := by
 rcases h.at_ with h3 | ⟨b', off', h4, h5⟩
 ·refine ⟨by rw [List.length_drop, h.len], (fun e => by cases e), .inl (by omega)⟩
 ·cases h4
  rw [Addr.add_lit]
  exact isB_drop h k c' hk
set_option maxHeartbeats 400000 in
theorem rdText_any (a : Nat) (l : List UInt8) (bad : Bool) (most : Int) (w : World) (h : IsR w a T l bad) (hm : l.length ≤ 140737488355328) :
  Calls Try.prog 78 #[.pointer (some ⟨a, 0, none⟩), .int .i64 most] w fun e w' => e = .returned (.string (rT l bad most).v) ∧ IsR w' a T (rT l bad most).l (rT l bad most).bad ∧ Only [a] w w' := by
 unfold rT
 have hk := rdCount_any a l bad most w h hm
 have hp := rC_pos l bad most
 have hlen := rC_len l bad most
 generalize rC l bad most = r at hk hp hlen
 obtain ⟨v, l1, bad1⟩ := r
 simp only at hk hp hlen ⊢
 have hm1 : l1.length ≤ 140737488355328 := by omega
 clear h hm hlen
 have HK := Lib.hid hk; clear hk
 obtain ⟨k, rfl⟩ := Int.eq_ofNat_of_zero_le hp
 by_cases h0 : l1.length < k
 ·rw [if_pos (by omega)]
  go_enter Try.func78, Try.ntmps78
  go_wp2_with fail
  refine HK.out.mono ?_
  rintro e w1 ⟨rfl, hr, ho⟩
  have hr' := hr
  obtain ⟨⟨ao, n, c, h1, h2, h3, h4⟩, hne⟩ := hr'
  have hc0 : w1.cell? ⟨a, 0, none⟩ = some (.slice ao n c) := by rw [cell_heap h1]; rfl
  have hn : n < k := by have := h2.len; omega
  clear h1 h2 h4 h0
  have HR := Lib.hid hr; clear hr
  go_wp2_with fail
  refine (spoil_any a _ _ _ HR.out).mono ?_
  rintro e w2 ⟨rfl, hr2, ho2⟩
  go_wp2
  go_ret
  exact ⟨rfl, hr2, ho.trans ho2⟩
 ·rw [if_neg (by omega)]
  rw [Int.toNat_natCast]
  go_enter Try.func78, Try.ntmps78
  go_wp2_with fail
  refine HK.out.mono ?_
  rintro e w1 ⟨rfl, hr, ho⟩
  obtain ⟨⟨ao, n, c, h1, h2, h3, h4⟩, hne⟩ := hr
  have hc0 : w1.cell? ⟨a, 0, none⟩ = some (.slice ao n c) := by rw [cell_heap h1]; rfl
  have hf0 := free_heap h1 0
  have hlen := h2.len
  have hn : k ≤ n := by omega
  have hconv := conv_any w1 _ _ _ _ (isB_take h2 k hn)
  generalize hs : strB (l1.take k) = s at hconv
  have HS := Lib.hid hs; clear hs
  have HR := Lib.hid h1; clear h1
  have HB := Lib.hid h2; clear h2
  have H4 := Lib.hid h4; clear h4
  have HL := Lib.hid hlen
  have hn9 : n ≤ 140737488355328 := by omega
  clear hlen h0 hm1
  cases ao with
  | none =>
   obtain ⟨rfl, rfl⟩ := HB.out.nil rfl
   obtain rfl : k = 0 := by omega
   go_wp2_with fail
   go_ret
   exact ⟨by rw [HS.out]; rfl, isR_set HR.out HB.out (Nat.le_refl _) H4.out hne, ho.trans ((Only.refl [a] _).setCell (by simp) _)⟩
  | some p =>
   obtain ⟨b, off, ins⟩ := p
   by_cases hkc : k = c
   ·subst hkc
    obtain rfl : n = k := by omega
    go_wp2_with fail
    go_ret
    refine ⟨by rw [HS.out]; rfl, ?_, ho.trans ((Only.refl [a] _).setCell (by simp) _)⟩
    rw [List.drop_of_length_le (by rw [HL.out]; exact Nat.le_refl _)]
    exact isR_set HR.out (isB_zero 0) (Nat.le_refl _) (fun p hp => by cases hp; exact H4.out _ rfl) hne
   ·go_wp2_with fail
    go_ret
    refine ⟨by rw [HS.out]; rfl, ?_, ho.trans ((Only.refl [a] _).setCell (by simp) _)⟩
    exact isR_set HR.out (isB_from HB.out k _ hn) (by omega) (fun p hp => by cases hp; rw [add_block]; exact H4.out _ rfl) hne
theorem own_more {w : World} {base : Nat} {e : TypeId} {v : Value} {l : List UInt8} (h : OwnB w base e v l) :
  ∃ ao c, v = .slice ao l.length c ∧ IsB w ao l.length c l ∧ l.length ≤ c ∧ (∀ p, ao = some p → base ≤ p.block ∧ p.block < w.heap.size) := by
 obtain ⟨ao, c, rfl, h1⟩ := h.isB
 refine ⟨ao, c, rfl, h1, ?_, ?_⟩
 ·rcases h.2 with ⟨h2, h3⟩ | ⟨g, cap, cur, hv, hg, hh, hn, hm, hs, ht⟩
  ·have : l.length = 0 := by simpa using h3
   omega
  ·cases hv
   exact hn
 ·intro p hp
  subst hp
  exact h.lt p.block (by
   rcases h.2 with ⟨h2, h3⟩ | ⟨g, cap, cur, hv, hg, hh, hn, hm, hs, ht⟩
   ·cases h2
   ·cases hv; rfl)

set_option maxHeartbeats 400000 in
theorem read_any (ao : Option Addr) (n c : Nat) (l : List UInt8) (w : World) (h : IsB w ao n c l) (hn : n ≤ 1099511627776) :
  Calls Try.prog 64 #[.slice ao n c] w fun e w' => ∃ a, e = .returned (.pointer (some ⟨a, 0, none⟩)) ∧ IsR w' a (fun b => w.heap.size ≤ b ∧ b < a) l false ∧ w.heap.size ≤ a ∧ a < w'.heap.size ∧ Below w.heap.size w w' := by
 have hlen := h.len
 have hb1 : ([] : List UInt8).length + n ≤ 140737488355328 := by simp; omega
 have HB := Lib.hid h; clear h
 go_enter Try.func64, Try.ntmps64
 go_wp2_with (at_builtin; refine wpList_append_bytes rfl _ _ 29 rfl w.heap.size 5 Try.underlying29 info5 _ [] rfl (OwnB.new _ _ _ [] _ rfl _ rfl (by exact Nat.le_refl _) 0 rfl (by decide)) _ _ _ _ rfl (HB.out.alloc _) hb1 (by simp) ?_; intro v' w2 hown' hgr hb2; clear hgr; rw [List.nil_append] at hown'; obtain ⟨a1, c1, hv1, hbs, hc1, hn1⟩ := own_more hown'; subst hv1; clear hown'; rw [hlen] at hbs hc1)
 have hz := hb2.size
 go_ret
 refine ⟨w2.heap.size, rfl, ⟨⟨_, _, _, heap_new _ _, hbs.alloc _, hc1, fun p hp => hn1 p hp⟩, fun h => Nat.lt_irrefl _ h.2⟩, by simp at hz; omega, by simp, (((Below.refl _ _).alloc (Nat.le_refl _) _).trans hb2).alloc (by simp at hz; omega) _⟩
end Go.Proofs.Ytnicaicjgaoolaa
namespace Go.Proofs.Ytnicaicjgaoolaa
open Go.RowKit

theorem byteAt_nat (z : Int) (i : Nat) : (byteAt z i).toNat = (BitVec.ofInt 64 z).toNat / 2 ^ (8 * (7 - i)) % 256 := by
 unfold byteAt
 rw [UInt8.toNat_ofNat']
theorem accN_be8 (z : Int) : accN (be8 z) = (BitVec.ofInt 64 z).toNat := by
 have h := (BitVec.ofInt 64 z).isLt
 simp only [accN, be8, List.foldl_cons, List.foldl_nil, pushN, byteAt_nat]
 generalize (BitVec.ofInt 64 z).toNat = M at *
 simp only [Nat.reduceMul, Nat.reduceSub, Nat.reducePow]
 omega
theorem toNat_ofInt64 (z : Int) : ((BitVec.ofInt 64 z).toNat : Int) = z % 18446744073709551616 := by
 rw [BitVec.toNat_ofInt]
 have : (0 : Int) ≤ z % ((2 ^ 64 : Nat) : Int) := Int.emod_nonneg _ (by decide)
 rw [Int.toNat_of_nonneg this]; rfl
theorem val8_be8 (z : Int) (rest : List UInt8) (h1 : -9223372036854775808 ≤ z) (h2 : z ≤ 9223372036854775807) : val8 (be8 z ++ rest) = z := by
 unfold val8
 have h3 : (be8 z ++ rest).take 8 = be8 z := by simp [be8]
 rw [h3, accN_be8, toNat_ofInt64]
 unfold wrap64
 omega
theorem strB_size (l : List UInt8) : (strB l).size = l.length := by simp [strB, ByteArray.size]
end Go.Proofs.Ytnicaicjgaoolaa
namespace Go.Proofs.Ytnicaicjgaoolaa
open Go.RowKit

theorem rI_be8 (z : Int) (rest : List UInt8) (bad : Bool) (h1 : -9223372036854775808 ≤ z) (h2 : z ≤ 9223372036854775807) : rI (be8 z ++ rest) bad = ⟨z, rest, bad⟩ := by
 unfold rI
 rw [if_neg (by rw [List.length_append, be8_len]; omega), val8_be8 z rest h1 h2]
 rfl
theorem rC_be8 (z : Int) (rest : List UInt8) (bad : Bool) (most : Int) (h0 : 0 ≤ z) (h1 : z ≤ most) (h2 : most ≤ 9223372036854775807) : rC (be8 z ++ rest) bad most = ⟨z, rest, bad⟩ := by
 unfold rC; rw [rI_be8 z rest bad (by omega) (by omega), if_neg (by simp only; omega)]
theorem strB_list (s : ByteArray) : strB s.data.toList = s := by unfold strB; simp
theorem rT_txt (s : ByteArray) (rest : List UInt8) (bad : Bool) (most : Int) (h1 : (s.size : Int) ≤ most) (h2 : most ≤ 9223372036854775807) : rT (txt s ++ rest) bad most = ⟨s, rest, bad⟩ := by
 unfold rT txt
 rw [List.append_assoc, rC_be8 _ _ bad most (by omega) h1 h2, if_neg (by simp only [List.length_append, size_list]; omega)]
 simp only [Int.toNat_natCast]
 rw [← size_list s, List.take_left, List.drop_left, strB_list]

end Go.Proofs.Ytnicaicjgaoolaa
namespace Go.Proofs.Ytnicaicjgaoolaa
open Go.RowKit Go.ChangeMaps Go.WideMaps Go.Maps
set_option maxRecDepth 20000
theorem new_ok (w : World) : Calls Try.prog 20 #[.int .i64 1048576] w fun e w' => ∃ d D, e = .returned (.tuple #[.pointer (some ⟨d, 0, none⟩), .int .i64 0]) ∧ IsDk w' D d ⟨1048576, false, 1, none⟩ ∧ Below w.heap.size w w' ∧ ∀ b ∈ D, w.heap.size ≤ b := by
 have hb1 : Below w.heap.size w (w.alloc (.map #[] 0)) := (Below.refl _ _).alloc (Nat.le_refl _) _
 have hb2 : Below w.heap.size w ((w.alloc (.map #[] 0)).alloc (.cells #[.int .i64 1048576, .bool false, .int .i64 1, .map (some w.heap.size)] 79)) := hb1.alloc (by simp) _
 have hm := heap_old (heap_new w (.map #[] 0)) (.cells #[.int .i64 1048576, .bool false, .int .i64 1, .map (some w.heap.size)] 79)
 have hd := heap_new (w.alloc (.map #[] 0)) (.cells #[.int .i64 1048576, .bool false, .int .i64 1, .map (some w.heap.size)] 79)
 rw [show (w.alloc (.map #[] 0)).heap.size = w.heap.size + 1 by simp] at hd
 have hsz : ((w.alloc (.map #[] 0)).alloc (.cells #[.int .i64 1048576, .bool false, .int .i64 1, .map (some w.heap.size)] 79)).heap.size = w.heap.size + 2 := by simp
 have HB := Lib.hid hb2; have HM := Lib.hid hm; have HD := Lib.hid hd; have HS := Lib.hid hsz
 clear hb1 hb2 hm hd hsz
 have hmk : ∀ w : World, (Instr.makeMap 77 none).run Try.prog w = .ok (.map (some w.heap.size)) (w.alloc (.map #[] 0)) := fun w => by simp [Instr.makeMap, run_underlying Try.underlying77, Result.andThen]
 go_enter Try.func20, Try.ntmps20
 go_wp2_with fail
 go_ret2
 have hsz := HS.out
 refine ⟨w.heap.size + 1, [w.heap.size + 1, w.heap.size], by simp, ⟨⟨w.heap.size, HD.out, by simp, 0, HM.out⟩, by simp, fun b hb => ?_⟩, HB.out, fun b hb => ?_⟩
 ·simp at hb
  rcases hb with rfl | rfl <;> omega
 ·simp at hb
  rcases hb with rfl | rfl <;> omega
end Go.Proofs.Ytnicaicjgaoolaa
namespace Go.Proofs.Ytnicaicjgaoolaa
open Go.RowKit Go.ChangeMaps Go.WideMaps Go.Maps
set_option maxRecDepth 20000
section
variable (p : String)
def z02x0 : Oper := ⟨some 31, .move (.tmp 7), 84, p, #[], none⟩
def z02x1 : Oper := ⟨some 32, .move (.tmp 7), 84, p, #[⟨17, .gcOnly Departure.lateStores⟩], none⟩
def z02x2 : Oper := ⟨some 33, .move (.tmp 7), 84, p, #[], none⟩
def z02x3 : Oper := ⟨some 34, .nilCheck (.tmp 33), 0, p, #[⟨2, .data⟩], none⟩
def z02x4 : Oper := ⟨some 35, .fieldAddr 86 (.tmp 34) 0, 0, p, #[⟨3, .data⟩], none⟩
def z02x5 : Oper := ⟨some 37, .move (.tmp 2), 3, p, #[], none⟩
def z02x6 : Oper := ⟨some 40, .move (.tmp 7), 84, p, #[], none⟩
def z02x7 : Oper := ⟨some 41, .nilCheck (.tmp 40), 0, p, #[⟨9, .data⟩], none⟩
def z02x8 : Oper := ⟨some 42, .fieldAddr 86 (.tmp 41) 1, 0, p, #[⟨10, .data⟩], none⟩
def z02x9 : Oper := ⟨some 44, .move (.tmp 2), 3, p, #[], none⟩
def z02x10 : Oper := ⟨some 36, .load 29 (.tmp 35), 29, p, #[⟨4, .data⟩], none⟩
def z02x11 : Oper := ⟨some 43, .load 3 (.tmp 42), 3, p, #[⟨11, .data⟩], none⟩
def z02x12 : Oper := ⟨some 38, .slice 29 (.tmp 36) none (some (.tmp 37)) none, 29, p, #[⟨5, .data⟩, ⟨6, .data⟩], none⟩
def z02x13 : Oper := ⟨some 39, .call { callee := Callee.value (Operand.func 26), args := #[.tmp 38], argTypes := #[29] }, 29, p, #[⟨7, .data⟩], none⟩
def z02x14 : Oper := ⟨some 45, .call { callee := Callee.builtin Builtin.min, args := #[.tmp 43, .tmp 44], argTypes := #[3, 3] }, 3, p, #[⟨12, .data⟩, ⟨13, .data⟩], none⟩
def z02x15 : Oper := ⟨some 46, .nilCheck (.tmp 31), 0, p, #[⟨0, .data⟩, ⟨0, .phase⟩, ⟨1, .textOnly Departure.lateStores⟩, ⟨2, .phase⟩, ⟨3, .phase⟩, ⟨4, .phase⟩, ⟨5, .phase⟩, ⟨6, .phase⟩, ⟨7, .phase⟩, ⟨8, .phase⟩, ⟨9, .textOnly Departure.lateStores⟩, ⟨10, .textOnly Departure.lateStoresUnsure⟩, ⟨11, .textOnly Departure.lateStoresUnsure⟩, ⟨12, .phase⟩, ⟨13, .textOnly Departure.lateStores⟩, ⟨14, .textOnly Departure.lateStoresUnsure⟩], none⟩
def z02x16 : Oper := ⟨some 47, .fieldAddr 86 (.tmp 46) 0, 0, p, #[⟨15, .data⟩, ⟨0, .phase⟩, ⟨1, .textOnly Departure.lateStores⟩, ⟨2, .phase⟩, ⟨3, .phase⟩, ⟨4, .phase⟩, ⟨5, .phase⟩, ⟨6, .phase⟩, ⟨7, .phase⟩, ⟨8, .phase⟩, ⟨9, .textOnly Departure.lateStores⟩, ⟨10, .textOnly Departure.lateStoresUnsure⟩, ⟨11, .textOnly Departure.lateStoresUnsure⟩, ⟨12, .phase⟩, ⟨13, .textOnly Departure.lateStores⟩, ⟨14, .textOnly Departure.lateStoresUnsure⟩], none⟩
def z02x17 : Oper := ⟨none, .store 29 (.tmp 47) (.tmp 39), 0, p, #[⟨16, .data⟩, ⟨8, .data⟩, ⟨8, .chain⟩, ⟨0, .phase⟩, ⟨1, .textOnly Departure.lateStores⟩, ⟨2, .phase⟩, ⟨3, .phase⟩, ⟨4, .phase⟩, ⟨5, .phase⟩, ⟨6, .phase⟩, ⟨7, .phase⟩, ⟨8, .phase⟩, ⟨9, .textOnly Departure.lateStores⟩, ⟨10, .textOnly Departure.lateStoresUnsure⟩, ⟨11, .textOnly Departure.lateStoresUnsure⟩, ⟨12, .phase⟩, ⟨13, .textOnly Departure.lateStores⟩, ⟨14, .textOnly Departure.lateStoresUnsure⟩], none⟩
def z02x18 : Oper := ⟨some 48, .nilCheck (.tmp 32), 0, p, #[⟨1, .data⟩, ⟨0, .phase⟩, ⟨1, .phase⟩, ⟨2, .phase⟩, ⟨3, .phase⟩, ⟨4, .phase⟩, ⟨5, .phase⟩, ⟨6, .phase⟩, ⟨7, .phase⟩, ⟨8, .phase⟩, ⟨9, .phase⟩, ⟨10, .phase⟩, ⟨11, .phase⟩, ⟨12, .phase⟩, ⟨13, .phase⟩, ⟨14, .phase⟩, ⟨15, .phase⟩, ⟨16, .phase⟩, ⟨17, .phase⟩], none⟩
def z02x19 : Oper := ⟨some 49, .fieldAddr 86 (.tmp 48) 1, 0, p, #[⟨18, .data⟩, ⟨0, .phase⟩, ⟨1, .phase⟩, ⟨2, .phase⟩, ⟨3, .phase⟩, ⟨4, .phase⟩, ⟨5, .phase⟩, ⟨6, .phase⟩, ⟨7, .phase⟩, ⟨8, .phase⟩, ⟨9, .phase⟩, ⟨10, .phase⟩, ⟨11, .phase⟩, ⟨12, .phase⟩, ⟨13, .phase⟩, ⟨14, .phase⟩, ⟨15, .phase⟩, ⟨16, .phase⟩, ⟨17, .phase⟩], none⟩
def z02x20 : Oper := ⟨none, .store 3 (.tmp 49) (.tmp 45), 0, p, #[⟨19, .data⟩, ⟨14, .data⟩, ⟨17, .chain⟩, ⟨0, .phase⟩, ⟨1, .phase⟩, ⟨2, .phase⟩, ⟨3, .phase⟩, ⟨4, .phase⟩, ⟨5, .phase⟩, ⟨6, .phase⟩, ⟨7, .phase⟩, ⟨8, .phase⟩, ⟨9, .phase⟩, ⟨10, .phase⟩, ⟨11, .phase⟩, ⟨12, .phase⟩, ⟨13, .phase⟩, ⟨14, .phase⟩, ⟨15, .phase⟩, ⟨16, .phase⟩, ⟨17, .phase⟩], none⟩
end
attribute [go_sem, reducible] z02x0 z02x1 z02x2 z02x3 z02x4 z02x5 z02x6 z02x7 z02x8 z02x9 z02x10 z02x11 z02x12 z02x13 z02x14 z02x15 z02x16 z02x17 z02x18 z02x19 z02x20
theorem z02xm0 {p : Prop} (h : p := by
 refine qtl 15 (z02x15 _) rfl ?_
 refine qtl 16 (z02x16 _) rfl ?_
 refine qr1 17 (z02x17 _) rfl fun K hK => ?_
 unfold z02x17
 have hy0 : w5.cell? ⟨fb, 0, none⟩ = some (.slice ao l.length c) := by rw [cell_heap HF5.out]; rfl
 have hz0 := free_heap HF5.out 0
 obtain ⟨a5, c5, rfl, _⟩ := HO5.out.isB
 have hlk : (l.take n).length = n := by rw [List.length_take]; omega
 rw [hlk] at HO5 HO5V
 go_simp
 clear hy0 hz0 hlk
 have HF6 := Lib.hid (heap_set HF5.out 0 (.slice a5 n c5))
 refine hK.out _ _ trivial (fun hHeld => ?_)
 clear hK K
 refine qsp ?_
 refine qtl 18 (z02x18 _) rfl ?_
 refine qtl 19 (z02x19 _) rfl ?_
 refine qr1 20 (z02x20 _) rfl fun K hK => ?_
 unfold z02x20
 have hy1 : (w5.setCell ⟨fb, 0, none⟩ (.slice a5 n c5)).cell? ⟨fb, 1, none⟩ = some (.int .i64 (k : Int)) := by rw [cell_heap HF6.out]; rfl
 have hz1 := free_heap HF6.out 1
 go_simp
 clear hy1 hz1
 refine hK.out _ _ trivial (fun hHeld => ?_)
 clear hK K
 refine qsp ?_
 refine qdn ?_
 go_wp2_with fail
 go_meet
 exact ⟨w5, a5, c5, rfl, HO5.out, HB5.out, HO5V.out⟩) : p := h
theorem z02xm1 {p : Prop} (h : p := by
 refine qr1 8 (z02x13 _) rfl fun K hK => ?_
 unfold z02x13
 go_simp
 refine (F.clone_any ao n c (l.take n) _ HIV.out (by omega)).mono ?_
 rintro e w5 ⟨v5, rfl, ho5, hb5⟩
 have HB5 := Lib.hid hb5
 have HO5 := Lib.hid (ho5.mono (Nat.zero_le _))
 have HO5V := Lib.hid ho5
 have HF5 := Lib.hid (heap_below3 hb5 (lt_of_heap HFV.out) HFV.out)
 clear ho5 hb5
 go_wp2_with fail
 refine hK.out _ _ trivial (fun hHeld => ?_)
 clear hK K
 refine qsp ?_
 exact z02xm0) : p := h
section
variable {w : World} {D : List Nat} {d : Nat} {s : Dk}
set_option maxHeartbeats 2000000 in
theorem cut_any (h : IsDk w D d s) (ho : s.off = false) {l : List UInt8} {k : Nat} (hf : s.file = some (l, k)) (n : Nat) (hn : n ≤ l.length) (hl : l.length ≤ 1048576) (hk : k ≤ l.length) :
  Calls Try.prog 58 #[.pointer (some ⟨d, 0, none⟩), .string logA, .int .i64 (n : Int)] w fun e w' => ∃ D', e = .returned (.int .i64 0) ∧ IsDk w' D' d { s with file := some (l.take n, min k n) } ∧ Moves D D' w w' := by
 obtain ⟨mb, cc, fb, b0, v, hp⟩ := h.parts hf
 have HF := Lib.hid (find_yes hp hf ho)
 have HP := Lib.hid hp
 have hnl : (n : Int) ≤ (l.length : Int) := by omega
 have g1 : decide (l.length < n) = false := decide_eq_false (by omega)
 have g2 : decide ((n : Int) < 0) = false := decide_eq_false (by omega)
 clear h hp
 go_enter Try.func58, Try.ntmps58
 go_wp2_with fail
 refine HF.out.mono ?_
 rintro e W ⟨rfl, hb⟩
 have HB := Lib.hid hb
 have HP1 := Lib.hid (HP.out.below hb)
 obtain ⟨ao, c, e1, hi⟩ := HP1.out.ho.isB
 subst e1
 have hc : W.cell? ⟨fb, 0, none⟩ = some (.slice ao l.length c) := by rw [cell_heap HP1.out.hf]; rfl
 have hkc : n ≤ c := Nat.le_trans hn (own_cap HP1.out.ho)
 have HIV : Hid (IsB W.drew ao n c (l.take n)) := Lib.hid ((isB_take0 hi hn).below (below_drew1 W))
 have HFV : Hid (W.drew.heap[fb]? = some (.cells #[.slice ao l.length c, .int .i64 (k : Int)] 86 (0, 0))) := Lib.hid HP1.out.hf
 have HPV := Lib.hid (HP1.out.below (below_drew1 W))
 have HBV : Hid (Below w.heap.size w W.drew) := Lib.hid (hb.trans ((below_drew1 W).mono hb.size))
 clear hb hi
 go_upto_region 6 with (fail)
 clear hc
 go_cut [] (fun wx => ∃ w5 a5 c5, wx = (w5.setCell ⟨fb, 0, none⟩ (.slice a5 n c5)).setCell ⟨fb, 1, none⟩ (.int .i64 (min (k : Int) (n : Int))) ∧ OwnB w5 0 5 (.slice a5 n c5) (l.take n) ∧ Below W.drew.heap.size W.drew w5 ∧ OwnB w5 W.drew.heap.size 5 (.slice a5 n c5) (l.take n))
 case first =>
  refine wp_region_held_drew (S := fun _ => True) (by kernel_rfl) trivial (fun hHeld => ?_)
  refine qtl 0 (z02x0 _) rfl ?_
  refine qtl 1 (z02x1 _) rfl ?_
  refine qtl 2 (z02x2 _) rfl ?_
  refine qtl 3 (z02x3 _) rfl ?_
  refine qtl 4 (z02x4 _) rfl ?_
  refine qtl 6 (z02x5 _) rfl ?_
  refine qtl 9 (z02x6 _) rfl ?_
  refine qtl 10 (z02x7 _) rfl ?_
  refine qtl 11 (z02x8 _) rfl ?_
  refine qtl 13 (z02x9 _) rfl ?_
  generalize W.drew = V at *
  refine qr2 5 12 (z02x10 _) (z02x11 _) rfl rfl (fun K hK => ?_) fun K hK => ?_
  ·unfold z02x10
   have hy0 : V.cell? ⟨fb, 0, none⟩ = some (.slice ao l.length c) := by rw [cell_heap HFV.out]; rfl
   go_simp
   clear hy0
   refine hK.out _ _ trivial (fun hHeld => ?_)
   clear hK K
   refine qsp ?_
   refine qtl 7 (z02x12 _) rfl ?_
   refine qr2 8 12 (z02x13 _) (z02x11 _) rfl rfl (fun K hK => ?_) fun K hK => ?_
   ·unfold z02x13
    go_simp
    refine (F.clone_any ao n c (l.take n) _ HIV.out (by omega)).mono ?_
    rintro e w5 ⟨v5, rfl, ho5, hb5⟩
    have HB5 := Lib.hid hb5
    have HO5 := Lib.hid (ho5.mono (Nat.zero_le _))
    have HO5V := Lib.hid ho5
    have HF5 := Lib.hid (heap_below3 hb5 (lt_of_heap HFV.out) HFV.out)
    clear ho5 hb5
    go_wp2_with fail
    refine hK.out _ _ trivial (fun hHeld => ?_)
    clear hK K
    refine qsp ?_
    refine qr1 12 (z02x11 _) rfl fun K hK => ?_
    unfold z02x11
    have hy1 : w5.cell? ⟨fb, 1, none⟩ = some (.int .i64 (k : Int)) := by rw [cell_heap HF5.out]; rfl
    go_simp
    clear hy1
    refine hK.out _ _ trivial (fun hHeld => ?_)
    clear hK K
    refine qsp ?_
    refine qtl 14 (z02x14 _) rfl ?_
    exact z02xm0
   ·unfold z02x11
    have hy1 : V.cell? ⟨fb, 1, none⟩ = some (.int .i64 (k : Int)) := by rw [cell_heap HFV.out]; rfl
    go_simp
    clear hy1
    refine hK.out _ _ trivial (fun hHeld => ?_)
    clear hK K
    refine qsp ?_
    refine qtl 14 (z02x14 _) rfl ?_
    exact z02xm1
  ·unfold z02x11
   have hy1 : V.cell? ⟨fb, 1, none⟩ = some (.int .i64 (k : Int)) := by rw [cell_heap HFV.out]; rfl
   go_simp
   clear hy1
   refine hK.out _ _ trivial (fun hHeld => ?_)
   clear hK K
   refine qsp ?_
   refine qtl 14 (z02x14 _) rfl ?_
   refine qr1 5 (z02x10 _) rfl fun K hK => ?_
   unfold z02x10
   have hy0 : V.cell? ⟨fb, 0, none⟩ = some (.slice ao l.length c) := by rw [cell_heap HFV.out]; rfl
   go_simp
   clear hy0
   refine hK.out _ _ trivial (fun hHeld => ?_)
   clear hK K
   refine qsp ?_
   refine qtl 7 (z02x12 _) rfl ?_
   exact z02xm1
 case rest =>
  obtain ⟨w5, a5, c5, rfl, ho5, hb5, ho5v⟩ := hcut
  have hp5 := HPV.out.below hb5
  have o9 : Only [fb] w5 ((w5.setCell ⟨fb, 0, none⟩ (.slice a5 n c5)).setCell ⟨fb, 1, none⟩ (.int .i64 (min (k : Int) (n : Int)))) := ((Only.refl _ _).setCell (by simp) _).setCell (by simp) _
  have hf9 := heap_set (heap_set hp5.hf 0 (.slice a5 n c5)) 1 (.int .i64 (min (k : Int) (n : Int)))
  have hlt5 := own_ltB ho5
  have hmin : ((min k n : Nat) : Int) = min (k : Int) (n : Int) := by omega
  have hp9 := hp5.set (k' := min k n) (D' := D ++ (Value.slice a5 n c5).ownBlock.toList) (s' := { s with file := some (l.take n, min k n) }) o9 (by rw [hmin]; exact hf9) ho5 (fun b hb => by simp [hb]) (fun j hj => by simp [hj]) (fun b hb => by
    simp only [List.mem_append, Option.mem_toList] at hb
    rcases hb with hb | hb
    ·exact hp5.lt b hb
    ·exact hlt5 b hb) ⟨rfl, rfl, rfl⟩
  have HD9 := Lib.hid (hp9.dk rfl)
  have oall : Only D w ((w5.setCell ⟨fb, 0, none⟩ (.slice a5 n c5)).setCell ⟨fb, 1, none⟩ (.int .i64 (min (k : Int) (n : Int)))) := (Only.ofBelow (HBV.out.trans (hb5.mono HBV.out.size)) D).trans (o9.mono (by simpa using HPV.out.fD))
  have HM9 : Hid (Moves D (D ++ (Value.slice a5 n c5).ownBlock.toList) w ((w5.setCell ⟨fb, 0, none⟩ (.slice a5 n c5)).setCell ⟨fb, 1, none⟩ (.int .i64 (min (k : Int) (n : Int))))) := Lib.hid ⟨oall, fun b hb => by
    simp only [List.mem_append, Option.mem_toList] at hb
    rcases hb with hb | hb
    ·exact .inl hb
    ·exact .inr (Nat.le_trans HBV.out.size (ho5v.lt b hb).1), fun b hb => by simp [hb]⟩
  clear hp5 o9 hf9 hlt5 hmin hp9 oall ho5 ho5v hb5
  go_wp2_with fail
  go_ret
  exact ⟨_, rfl, HD9.out, HM9.out⟩
end
end Go.Proofs.Ytnicaicjgaoolaa
namespace Go.Proofs.Ytnicaicjgaoolaa.F
open Go.Proofs.Ytnicaicjgaoolaa
open Go.RowKit

theorem b4_nat (c : BitVec 32) (i : Nat) : (b4 c i).toNat = c.toNat / 2 ^ (8 * (3 - i)) % 256 := by unfold b4; rw [UInt8.toNat_ofNat']
theorem num4_be4 (c : BitVec 32) : num4 (b4 c 0) (b4 c 1) (b4 c 2) (b4 c 3) = c := by
 apply BitVec.eq_of_toNat_eq
 rw [num4_nat, b4_nat, b4_nat, b4_nat, b4_nat]
 have := c.isLt
 simp only [Nat.reduceMul, Nat.reduceSub, Nat.reducePow]
 omega
theorem be4_num4 (x0 x1 x2 x3 : UInt8) : be4 (num4 x0 x1 x2 x3) = [x0, x1, x2, x3] := by
 have h0 := x0.toNat_lt
 have h1 := x1.toNat_lt
 have h2 := x2.toNat_lt
 have h3 := x3.toNat_lt
 have e : ∀ (i : Nat) (y : UInt8), (num4 x0 x1 x2 x3).toNat / 2 ^ (8 * (3 - i)) % 256 = y.toNat → b4 (num4 x0 x1 x2 x3) i = y := fun i y h => UInt8.toNat_inj.1 (by rw [b4_nat, h])
 unfold be4
 rw [e 0 x0 (by rw [num4_nat]; simp only [Nat.reduceMul, Nat.reduceSub, Nat.reducePow]; omega), e 1 x1 (by rw [num4_nat]; simp only [Nat.reduceMul, Nat.reduceSub, Nat.reducePow]; omega),
  e 2 x2 (by rw [num4_nat]; simp only [Nat.reduceMul, Nat.reduceSub, Nat.reducePow]; omega), e 3 x3 (by rw [num4_nat]; simp only [Nat.reduceMul, Nat.reduceSub, Nat.reducePow]; omega)]
theorem be4_inj {a b : BitVec 32} (h : be4 a = be4 b) : a = b := by
 unfold be4 at h
 simp only [List.cons.injEq, and_true] at h
 rw [← num4_be4 a, ← num4_be4 b, h.1, h.2.1, h.2.2.1, h.2.2.2]
theorem be4_at4 (l : List UInt8) (i : Nat) (h : i + 4 ≤ l.length) : be4 (at4 l i) = (l.drop i).take 4 := by
 unfold at4
 rw [be4_num4]
 apply List.ext_getElem?
 intro j
 rcases (by omega : j = 0 ∨ j = 1 ∨ j = 2 ∨ j = 3 ∨ 4 ≤ j) with rfl | rfl | rfl | rfl | h4
 ·simp [List.getElem?_take, List.getElem?_drop, show i < l.length by omega]
 ·simp [List.getElem?_take, List.getElem?_drop, show i + 1 < l.length by omega]
 ·simp [List.getElem?_take, List.getElem?_drop, show i + 2 < l.length by omega]
 ·simp [List.getElem?_take, List.getElem?_drop, show i + 3 < l.length by omega]
 ·rw [List.getElem?_eq_none (by simpa using h4), List.getElem?_eq_none (by simp; omega)]
theorem at4_of (l : List UInt8) (i : Nat) (c : BitVec 32) (h : (l.drop i).take 4 = be4 c) : at4 l i = c := by
 apply be4_inj
 have hl : i + 4 ≤ l.length := by
  have := congrArg List.length h
  rw [List.length_take, List.length_drop, be4_len] at this
  omega
 rw [be4_at4 l i hl, h]

/-- what next says of a whole frame -/
theorem nextF_frame (rec rest : List UInt8) (h : rec.length ≤ 20000) : nextF (frameF rec ++ rest) = (12 + rec.length, 0) := by
 have hl := frameF_len rec
 have hL : (frameF rec ++ rest).length = 12 + rec.length + rest.length := by rw [List.length_append, hl]
 have e : frameF rec ++ rest = be4 (BitVec.ofNat 32 rec.length) ++ (be4 (~~~ (BitVec.ofNat 32 rec.length)) ++ (be4 (Crc.crc (headF rec ++ rec)) ++ (rec ++ rest))) := by
  unfold frameF headF; simp only [List.append_assoc]
 have h0 : at4 (frameF rec ++ rest) 0 = BitVec.ofNat 32 rec.length := at4_of _ _ _ (by rw [e, List.drop_zero]; rfl)
 have h4 : at4 (frameF rec ++ rest) 4 = ~~~ (BitVec.ofNat 32 rec.length) := at4_of _ _ _ (by rw [e]; rfl)
 have h8 : at4 (frameF rec ++ rest) 8 = Crc.crc (headF rec ++ rec) := at4_of _ _ _ (by rw [e]; rfl)
 have hn : (BitVec.ofNat 32 rec.length).toNat = rec.length := by rw [BitVec.toNat_ofNat, Nat.mod_eq_of_lt (by omega)]
 have ht : (frameF rec ++ rest).take 8 = headF rec := by rw [e]; rfl
 have hd : ((frameF rec ++ rest).drop 12).take rec.length = rec := by
  have : (frameF rec ++ rest).drop 12 = rec ++ rest := by rw [e]; rfl
  rw [this, List.take_left]
 unfold nextF
 rw [if_neg (by omega), h0, h4, h8, hn, if_neg (by simp only [ne_eq, not_true_eq_false, false_or]; omega), if_neg (by omega), ht, hd, if_neg (by simp)]
theorem rec_of_frame (rec rest : List UInt8) : ((frameF rec ++ rest).take (12 + rec.length)).drop 12 = rec := by
 have e : frameF rec ++ rest = (headF rec ++ be4 (Crc.crc (headF rec ++ rec))) ++ (rec ++ rest) := by unfold frameF; simp only [List.append_assoc]
 have hl : (headF rec ++ be4 (Crc.crc (headF rec ++ rec))).length = 12 := rfl
 rw [List.drop_take, show 12 + rec.length - 12 = rec.length by omega, e, List.drop_left' hl, List.take_left]
/-- what is cut off is torn -/
theorem nextF_torn (rec : List UInt8) (h : rec.length ≤ 20000) (j : Nat) (hj : j < 12 + rec.length) : nextF ((frameF rec).take j) = (0, 1) := by
 have hl := frameF_len rec
 have hlt : ((frameF rec).take j).length = j := by rw [List.length_take]; omega
 unfold nextF
 by_cases h12 : j < 12
 ·rw [if_pos (by omega)]
 ·rw [if_neg (by omega)]
  have e : frameF rec = be4 (BitVec.ofNat 32 rec.length) ++ (be4 (~~~ (BitVec.ofNat 32 rec.length)) ++ (be4 (Crc.crc (headF rec ++ rec)) ++ rec)) := by
   unfold frameF headF; simp only [List.append_assoc]
  have h0 : at4 ((frameF rec).take j) 0 = BitVec.ofNat 32 rec.length := at4_of _ _ _ (by
   rw [List.drop_zero, List.take_take, Nat.min_eq_left (by omega), e]; rfl)
  have h4 : at4 ((frameF rec).take j) 4 = ~~~ (BitVec.ofNat 32 rec.length) := at4_of _ _ _ (by
   rw [List.drop_take, List.take_take, Nat.min_eq_left (by omega), e]; rfl)
  have hn : (BitVec.ofNat 32 rec.length).toNat = rec.length := by rw [BitVec.toNat_ofNat, Nat.mod_eq_of_lt (by omega)]
  rw [h0, h4, hn, if_neg (by simp only [ne_eq, not_true_eq_false, false_or]; omega), if_pos (by omega)]

/-- frames, one behind the other -/
def frames (ls : List (List UInt8)) : List UInt8 := ls.flatMap frameF
theorem frames_nil : frames [] = [] := rfl
theorem frames_cons (r : List UInt8) (ls : List (List UInt8)) : frames (r :: ls) = frameF r ++ frames ls := rfl
theorem frames_append (ls ms : List (List UInt8)) : frames (ls ++ ms) = frames ls ++ frames ms := by simp [frames]

/-- records that are framed are scanned back, whatever is behind -/
theorem scanF_frames (pre rest : List UInt8) (ls acc : List (List UInt8)) (h : ∀ r ∈ ls, r.length ≤ 20000) (t : Nat) (ht : (frames ls ++ rest).length ≤ t) :
  scanF (pre ++ (frames ls ++ rest)) t pre.length acc = scanF (pre ++ (frames ls ++ rest)) (t - (frames ls).length) (pre.length + (frames ls).length) (acc ++ ls) := by
 induction ls generalizing pre acc t with
 | nil => simp [frames_nil]
 | cons r ls ih =>
  have hr := h r (by simp)
  have hl := frameF_len r
  have hlen : (frames (r :: ls) ++ rest).length = 12 + r.length + (frames ls ++ rest).length := by rw [frames_cons, List.append_assoc, List.length_append, hl]
  obtain ⟨s, rfl⟩ : ∃ s, t = s + 1 := ⟨t - 1, by omega⟩
  have hd : (pre ++ (frames (r :: ls) ++ rest)).drop pre.length = frameF r ++ (frames ls ++ rest) := by rw [List.drop_left, frames_cons, List.append_assoc]
  have hn := nextF_frame r (frames ls ++ rest) hr
  have hrec := rec_of_frame r (frames ls ++ rest)
  have e1 : scanF (pre ++ (frames (r :: ls) ++ rest)) (s + 1) pre.length acc = scanF (pre ++ (frames (r :: ls) ++ rest)) s (pre.length + (12 + r.length)) (acc ++ [r]) := by
   show (if _ then _ else if _ then _ else _) = _
   rw [hd, hn]
   simp only
   rw [if_neg (by rw [List.length_append, hlen]; omega), if_pos trivial, hrec]
  rw [e1]
  have e2 : pre ++ (frames (r :: ls) ++ rest) = (pre ++ frameF r) ++ (frames ls ++ rest) := by rw [frames_cons]; simp only [List.append_assoc]
  have e3 : pre.length + (12 + r.length) = (pre ++ frameF r).length := by rw [List.length_append, hl]
  rw [e2, e3, ih (pre ++ frameF r) (acc ++ [r]) (fun x hx => h x (by simp [hx])) s (by omega)]
  rw [frames_cons, List.length_append, List.length_append, hl]
  have hfl : (frames ls).length ≤ (frames ls ++ rest).length := by rw [List.length_append]; omega
  rw [List.append_assoc acc, List.singleton_append]
  rw [show pre.length + (12 + r.length) + (frames ls).length = pre.length + (12 + r.length + (frames ls).length) by omega]
  exact scanF_fuel _ _ _ _ _ (by simp only [List.length_append, hl] at hlen ht ⊢; omega) (by simp only [List.length_append, hl] at hlen ht ⊢; omega)

theorem scanAll_from (ls : List (List UInt8)) (rest : List UInt8) (h : ∀ r ∈ ls, r.length ≤ 20000) :
  scanAll (frames ls ++ rest) = scanF (frames ls ++ rest) rest.length (frames ls).length ls := by
 unfold scanAll
 have := scanF_frames [] rest ls [] h (frames ls ++ rest).length (Nat.le_refl _)
 simp only [List.nil_append, List.length_nil, Nat.zero_add] at this
 rw [this]
 exact scanF_fuel _ _ _ _ _ (by rw [List.length_append]; omega) (by rw [List.length_append]; omega)
theorem scanAll_frames (ls : List (List UInt8)) (h : ∀ r ∈ ls, r.length ≤ 20000) : scanAll (frames ls) = (ls, (frames ls).length, 0) := by
 have := scanAll_from ls [] h
 rw [List.append_nil] at this
 rw [this]; rfl
theorem scanAll_stop (ls : List (List UInt8)) (rest : List UInt8) (h : ∀ r ∈ ls, r.length ≤ 20000) (h0 : 0 < rest.length) (h1 : ¬ (nextF rest).2 = 0) : scanAll (frames ls ++ rest) = (ls, (frames ls).length, (nextF rest).2) := by
 rw [scanAll_from ls rest h]
 obtain ⟨t, ht⟩ : ∃ t, rest.length = t + 1 := ⟨rest.length - 1, by omega⟩
 rw [ht]
 show (if _ then _ else if _ then _ else _) = _
 rw [List.drop_left, if_neg (by rw [List.length_append]; omega), if_neg h1]
theorem scanAll_torn (ls : List (List UInt8)) (r : List UInt8) (j : Nat) (h : ∀ r ∈ ls, r.length ≤ 20000) (hr : r.length ≤ 20000) (hj : j < 12 + r.length) :
  scanAll (frames ls ++ (frameF r).take j) = (ls, (frames ls).length, if j = 0 then 0 else 1) := by
 by_cases h0 : j = 0
 ·subst h0
  rw [List.take_zero, List.append_nil, scanAll_frames ls h]; rfl
 ·have hl := frameF_len r
  have hn := nextF_torn r hr j hj
  rw [scanAll_stop ls _ h (by rw [List.length_take]; omega) (by rw [hn]; decide), hn, if_neg h0]

end Go.Proofs.Ytnicaicjgaoolaa.F
