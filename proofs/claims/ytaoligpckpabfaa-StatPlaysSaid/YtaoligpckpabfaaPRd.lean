/-
  The readers of numbers and texts.
-/
import Derived.Test.YtaoligpckpabfaaPWr
namespace Go.Proofs.Ytaoligpckpabfaa
open Go.RowKit

/-- behind the pointer to block a lies a reader that has the bytes l left, bad or not -/
structure IsR (w : World) (a : Nat) (T : Nat → Prop) (l : List UInt8) (bad : Bool) : Prop where
  row : ∃ ao n c, w.heap[a]? = some (.cells #[.slice ao n c, .bool bad] 68 (0, 0)) ∧ IsB w ao n c l ∧ n ≤ c ∧ (∀ p, ao = some p → T p.block)
  ne : ¬ T a

variable {T : Nat → Prop}

theorem IsR.only {w w' : World} {a : Nat} {l : List UInt8} {bad : Bool} (h : IsR w a T l bad) (hb : Below w.heap.size w w') : IsR w' a T l bad := by
  obtain ⟨⟨ao, n, c, h1, h2, h3, h4⟩, hne⟩ := h
  exact ⟨⟨ao, n, c, (Only.ofBelow hb []).keeps h1 (by simp), h2.below hb, h3, h4⟩, hne⟩

theorem isB_only {w w' : World} {ao : Option Addr} {n c a : Nat} {l : List UInt8} (h : IsB w ao n c l) (ho : Only [a] w w') (hne : ∀ p, ao = some p → p.block ≠ a) : IsB w' ao n c l := by
  obtain ⟨h1, h2, h3⟩ := h
  refine ⟨h1, h2, ?_⟩
  rcases h3 with h3 | ⟨b, off, h4, h5⟩
  · exact .inl h3
  · exact .inr ⟨b, off, h4, fun i hi => ho.cell (h5 i hi) (by simpa using hne _ h4)⟩
theorem isB_none {w : World} {b off : Nat} (c : Nat) : IsB w (some ⟨b, off, none⟩) 0 c [] := ⟨rfl, (fun e => by cases e), .inl rfl⟩
theorem isR_set {w : World} {a : Nat} {x : Value} {bad : Bool} (h1 : w.heap[a]? = some (.cells #[x, .bool bad] 68 (0, 0))) {ao : Option Addr} {n c : Nat} {l : List UInt8} (h2 : IsB w ao n c l) (h3 : n ≤ c) (h4 : ∀ p, ao = some p → T p.block) (hne : ¬ T a) :
    IsR (w.setCell ⟨a, 0, none⟩ (.slice ao n c)) a T l bad := by
  have ho : Only [a] w (w.setCell ⟨a, 0, none⟩ (.slice ao n c)) := (Only.refl [a] w).setCell (by simp) _
  exact ⟨⟨ao, n, c, heap_set h1 0 _, isB_only h2 ho (fun p hp e => hne (e ▸ h4 p hp)), h3, h4⟩, hne⟩

set_option maxHeartbeats 400000 in
theorem spoil_any (a : Nat) (l : List UInt8) (bad : Bool) (w : World) (h : IsR w a T l bad) :
    Calls Try.prog 47 #[.pointer (some ⟨a, 0, none⟩)] w fun e w' => e = .returned (.tuple #[]) ∧ IsR w' a T [] true ∧ Only [a] w w' := by
  obtain ⟨⟨ao, n, c, h1, h2, h3, h4⟩, hne⟩ := h
  have hc0 : w.cell? ⟨a, 0, none⟩ = some (.slice ao n c) := by rw [cell_heap h1]; rfl
  have hc1 : w.cell? ⟨a, 1, none⟩ = some (.bool bad) := by rw [cell_heap h1]; rfl
  have hf0 := free_heap h1 0
  have hf1 := free_heap h1 1
  have HR := Lib.hid h1
  clear h1 h2 h4
  go_enter Try.func47, Try.ntmps47
  go_wp2_with fail
  go_end0
  refine ⟨rfl, ⟨⟨none, 0, 0, ?_, isB_nil _, Nat.le_refl _, by simp⟩, hne⟩, ?_⟩
  · exact heap_set (heap_set HR.out 0 _) 1 _
  · exact ((Only.refl [a] w).setCell (by simp) _).setCell (by simp) _

set_option maxHeartbeats 400000 in
theorem bad_any (a : Nat) (l : List UInt8) (bad : Bool) (w : World) (h : IsR w a T l bad) :
    Calls Try.prog 42 #[.pointer (some ⟨a, 0, none⟩)] w fun e w' => e = .returned (.bool bad) ∧ w = w' := by
  obtain ⟨⟨ao, n, c, h1, h2, h3, h4⟩, hne⟩ := h
  have hc1 : w.cell? ⟨a, 1, none⟩ = some (.bool bad) := by rw [cell_heap h1]; rfl
  clear h1 h2 h4
  go_enter Try.func42, Try.ntmps42
  go_wp2
  go_ret
  exact ⟨rfl, rfl⟩

/-- bytes as a text -/
def strB (l : List UInt8) : ByteArray := ⟨l.toArray⟩
theorem conv_any (w : World) (ao : Option Addr) (n c : Nat) (l : List UInt8) (h : IsB w ao n c l) : (convert 48 9 (.slice ao n c)).run Try.prog w = .ok (.string (strB l)) w := by
  obtain ⟨h1, h2, h3⟩ := h
  cases ao with
  | none =>
    obtain ⟨rfl, rfl⟩ := h2 rfl
    obtain rfl := List.length_eq_zero_iff.1 h1
    rw [run_convert_bytes_nil w 48 5 Try.underlying48 Try.underlying5 0 0 9 Try.underlying9]
    rfl
  | some p =>
    rcases h3 with h3 | ⟨b, off, h4, h5⟩
    · subst h3
      obtain rfl := List.length_eq_zero_iff.1 h1
      rw [run_convert_bytes_string w 48 9 5 _ 0 c Try.underlying48 Try.underlying5 Try.underlying9, run_bytesToString w p 0 c [] (run_loadCells_list w p [] (by simp))]
      rfl
    · cases h4
      rw [run_convert_bytes_arg w 48 5 Try.underlying48 Try.underlying5 b off n c (l.map fun x => (x.toNat : Int)) (by simpa using h1) (fun i hi => by rw [h5 i hi]; simp [h1, hi]) 9 Try.underlying9]
      simp only [strOfNums, strB, List.map_map]
      congr 4
      rw [List.map_congr_left (g := id)]
      · simp
      · intro x _; simp

/-- one byte behind a number's others -/
def pushN (v : Nat) (x : UInt8) : Nat := v * 256 + x.toNat
def accN (l : List UInt8) : Nat := l.foldl pushN 0
theorem accN_one (l : List UInt8) (x : UInt8) : accN (l ++ [x]) = accN l * 256 + x.toNat := by simp [accN, pushN]
theorem accN_lt (l : List UInt8) : accN l < 256 ^ l.length := by
  have key : ∀ (l : List UInt8) (v n : Nat), v < 256 ^ n → l.foldl pushN v < 256 ^ (n + l.length) := by
    intro l
    induction l with
    | nil => intro v n h; exact h
    | cons x l ih =>
      intro v n h
      have hx := x.toNat_lt
      have := ih (pushN v x) (n + 1) (by unfold pushN; rw [Nat.pow_succ]; omega)
      rw [List.length_cons, show n + (l.length + 1) = n + 1 + l.length by omega]
      exact this
  have := key l 0 0 (by simp)
  rwa [Nat.zero_add] at this
theorem accN_lt8 (l : List UInt8) (h : l.length < 8) : accN l < 72057594037927936 := Nat.lt_of_lt_of_le (accN_lt l) (Nat.le_trans (Nat.pow_le_pow_right (by decide) (show l.length ≤ 7 by omega)) (by decide))
/-- the number of eight bytes -/
def val8 (l : List UInt8) : Int := wrap64 (accN (l.take 8) : Int)
theorem wrap_u64_of_lt (v : Nat) (h : v < 18446744073709551616) : IntKind.u64.wrap (v : Int) = (v : Int) := by
  have : IntKind.u64.wrap (v : Int) = (v : Int) % 18446744073709551616 := by simp [IntKind.wrap, IntKind.bits, IntKind.signed]
  rw [this]; omega
theorem step_walk (v : Nat) (x : UInt8) (h : v < 72057594037927936) : bits .or .u64 (IntKind.u64.wrap ((v : Int) * 256)) (IntKind.u64.wrap (x.toNat : Int)) = ((v * 256 + x.toNat : Nat) : Int) := by
  have hx := x.toNat_lt
  have e : (v : Int) * 256 = ((v * 256 : Nat) : Int) := by rw [Int.natCast_mul]; rfl
  rw [e, wrap_u64_of_lt _ (by omega), wrap_u64_of_lt _ (by omega), u64_or_nat _ _ (by omega) (by omega)]
  have e2 := Nat.shiftLeft_add_eq_or_of_lt (i := 8) (b := x.toNat) (by omega) v
  rw [Nat.shiftLeft_eq, show 2 ^ 8 = 256 from rfl] at e2
  rw [← e2]
theorem take_one (l : List UInt8) (k : Nat) (h : k < l.length) : l.take (k + 1) = l.take k ++ [l.getD k 0] := by
  rw [List.take_succ_eq_append_getElem h]
  simp [h]
theorem u64_eq {a b : Int} (h : a = b) : Value.int .u64 a = Value.int .u64 b := by rw [h]
theorem ret_i64 {a b : Int} (h : a = b) : Ending.returned (Value.int .i64 a) = .returned (Value.int .i64 b) := by rw [h]

set_option maxHeartbeats 400000 in
theorem rdI64_none (a : Nat) (l : List UInt8) (bad : Bool) (w : World) (h : IsR w a T l bad) (hl : l.length < 8) :
    Calls Try.prog 39 #[.pointer (some ⟨a, 0, none⟩)] w fun e w' => e = .returned (.int .i64 0) ∧ IsR w' a T [] true ∧ Only [a] w w' := by
  have h' := h
  obtain ⟨⟨ao, n, c, h1, h2, h3, h4⟩, hne⟩ := h
  have hc0 : w.cell? ⟨a, 0, none⟩ = some (.slice ao n c) := by rw [cell_heap h1]; rfl
  have hn : n < 8 := by have := h2.len; omega
  clear h1 h2 h4 hl
  have HR := Lib.hid h'; clear h'
  go_enter Try.func39, Try.ntmps39
  go_wp2_with fail
  refine (spoil_any a l bad _ HR.out).mono ?_
  rintro e w1 ⟨rfl, hr, ho⟩
  go_wp2
  go_ret
  exact ⟨rfl, hr, ho⟩

set_option maxHeartbeats 400000 in
theorem rdI64_some (a : Nat) (l : List UInt8) (bad : Bool) (w : World) (h : IsR w a T l bad) (hl : 8 ≤ l.length) (hm : l.length ≤ 140737488355328) :
    Calls Try.prog 39 #[.pointer (some ⟨a, 0, none⟩)] w fun e w' => e = .returned (.int .i64 (val8 l)) ∧ IsR w' a T (l.drop 8) bad ∧ Only [a] w w' := by
  obtain ⟨⟨ao, n, c, h1, h2, h3, h4⟩, hne⟩ := h
  have hc0 : w.cell? ⟨a, 0, none⟩ = some (.slice ao n c) := by rw [cell_heap h1]; rfl
  have hf0 := free_heap h1 0
  have hlen := h2.len
  obtain ⟨b, off, rfl, hcb⟩ : ∃ b off, ao = some ⟨b, off, none⟩ ∧ ∀ i, i < n → w.cell? ⟨b, off + i, none⟩ = some (.int .u8 ((l.getD i 0).toNat : Int)) := by
    rcases h2.at_ with h0 | h0
    · omega
    · exact h0
  have hn8 : 8 ≤ n := by omega
  have hn9 : n ≤ 140737488355328 := by omega
  have hc8 : 8 ≤ c := by omega
  have HL := Lib.hid hlen
  have HR := Lib.hid h1
  have HB := Lib.hid h2
  have HC := Lib.hid hcb
  have hba : T b := h4 _ rfl
  clear h1 h2 h4 hlen hl hm hcb
  go_enter Try.func39, Try.ntmps39
  go_wp2_with fail
  go_loop [3, 20] (fun v i => ∃ k : Nat, k ≤ 8 ∧ i = .int .i64 (k : Int) ∧ v = .int .u64 ((accN (l.take k) : Nat) : Int)) (fun _ i => 8 - (intOf i).toNat)
  case atStart => exact ⟨0, by omega, rfl, rfl⟩
  case round =>
    obtain ⟨k, hk, rfl, rfl⟩ := hrel
    by_cases hlt : k < 8
    · have hcell := HC.out k (by omega)
      have hone := take_one l k (by rw [HL.out]; omega)
      have hlt8 := accN_lt8 (l.take k) (by rw [List.length_take]; omega)
      generalize l.getD k 0 = x at hcell hone
      have HO := Lib.hid hone; clear hone
      have HV := Lib.hid hlt8; clear hlt8
      go_wp2_with fail
      go_round
      case rel => exact ⟨k + 1, by omega, by go_num, u64_eq (by rw [step_walk _ _ HV.out, HO.out, accN_one])⟩
      case measure => simp [intOf]; omega
    · obtain rfl : k = 8 := by omega
      generalize hv : accN (l.take 8) = v
      have HV := Lib.hid hv; clear hv
      by_cases hcc : c = 8
      · subst hcc
        obtain rfl : n = 8 := by omega
        go_wp2_with fail
        go_ret
        refine ⟨ret_i64 (by unfold val8; rw [HV.out]), ?_, (Only.refl [a] w).setCell (by simp) _⟩
        rw [List.drop_of_length_le (by rw [HL.out]; exact Nat.le_refl _)]
        exact isR_set HR.out (isB_none 0) (Nat.le_refl _) (fun p hp => by cases hp; exact hba) hne
      · have hcx : ¬ (8 = c) := by omega
        go_wp2_with fail
        go_ret
        refine ⟨ret_i64 (by unfold val8; rw [HV.out]), ?_, (Only.refl [a] w).setCell (by simp) _⟩
        exact isR_set HR.out (isB_drop HB.out 8 _ hn8) (by omega) (fun p hp => by cases hp; exact hba) hne

theorem IsR.keep {w w' : World} {a : Nat} {l : List UInt8} {bad : Bool} (h : IsR w a T l bad) {S : List Nat} (ho : Only S w w') (ha : a ∉ S) (hT : ∀ k, T k → k ∉ S) : IsR w' a T l bad := by
  obtain ⟨⟨ao, n, c, h1, h2, h3, h4⟩, hne⟩ := h
  refine ⟨⟨ao, n, c, ho.keeps h1 ha, ?_, h3, h4⟩, hne⟩
  obtain ⟨g1, g2, g3⟩ := h2
  refine ⟨g1, g2, ?_⟩
  rcases g3 with g3 | ⟨b, off, g4, g5⟩
  · exact .inl g3
  · have hb : b ∉ S := hT _ (h4 _ g4)
    exact .inr ⟨b, off, g4, fun i hi => ho.cell (g5 i hi) hb⟩

/-- what a reader answers, what it has left, and whether it is bad -/
structure Rd (α : Type) where
  v : α
  l : List UInt8
  bad : Bool
def rI (l : List UInt8) (bad : Bool) : Rd Int := if l.length < 8 then ⟨0, [], true⟩ else ⟨val8 l, l.drop 8, bad⟩
def rC (l : List UInt8) (bad : Bool) (most : Int) : Rd Int := if (rI l bad).v < 0 ∨ most < (rI l bad).v then ⟨0, [], true⟩ else rI l bad
def rT (l : List UInt8) (bad : Bool) (most : Int) : Rd ByteArray :=
  if ((rC l bad most).l.length : Int) < (rC l bad most).v then ⟨⟨#[]⟩, [], true⟩
  else ⟨strB ((rC l bad most).l.take (rC l bad most).v.toNat), (rC l bad most).l.drop (rC l bad most).v.toNat, (rC l bad most).bad⟩
theorem rI_len (l : List UInt8) (bad : Bool) : (rI l bad).l.length ≤ l.length := by
  unfold rI; split
  · simp
  · simp
theorem rC_len (l : List UInt8) (bad : Bool) (most : Int) : (rC l bad most).l.length ≤ l.length := by
  unfold rC; split
  · simp
  · exact rI_len l bad
theorem rC_pos (l : List UInt8) (bad : Bool) (most : Int) : 0 ≤ (rC l bad most).v := by
  unfold rC; split
  · simp
  · omega
theorem rT_len (l : List UInt8) (bad : Bool) (most : Int) : (rT l bad most).l.length ≤ l.length := by
  have := rC_len l bad most
  unfold rT; split
  · simp
  · simp; omega

theorem rdI64_any (a : Nat) (l : List UInt8) (bad : Bool) (w : World) (h : IsR w a T l bad) (hm : l.length ≤ 140737488355328) :
    Calls Try.prog 39 #[.pointer (some ⟨a, 0, none⟩)] w fun e w' => e = .returned (.int .i64 (rI l bad).v) ∧ IsR w' a T (rI l bad).l (rI l bad).bad ∧ Only [a] w w' := by
  unfold rI
  by_cases hl : l.length < 8
  · rw [if_pos hl]; exact rdI64_none a l bad w h hl
  · rw [if_neg hl]; exact rdI64_some a l bad w h (by omega) hm

set_option maxHeartbeats 400000 in
theorem rdCount_any (a : Nat) (l : List UInt8) (bad : Bool) (most : Int) (w : World) (h : IsR w a T l bad) (hm : l.length ≤ 140737488355328) :
    Calls Try.prog 40 #[.pointer (some ⟨a, 0, none⟩), .int .i64 most] w fun e w' => e = .returned (.int .i64 (rC l bad most).v) ∧ IsR w' a T (rC l bad most).l (rC l bad most).bad ∧ Only [a] w w' := by
  unfold rC
  have hk := rdI64_any a l bad w h hm
  clear h hm
  generalize rI l bad = r at hk
  obtain ⟨v, l1, bad1⟩ := r
  simp only at hk ⊢
  have HK := Lib.hid hk; clear hk
  by_cases h0 : v < 0
  · rw [if_pos (.inl h0)]
    go_enter Try.func40, Try.ntmps40
    go_wp2_with fail
    refine HK.out.mono ?_
    rintro e w1 ⟨rfl, hr, ho⟩
    go_wp2_with fail
    refine (spoil_any a _ _ _ hr).mono ?_
    rintro e w2 ⟨rfl, hr2, ho2⟩
    clear hr
    go_wp2
    go_ret
    exact ⟨rfl, hr2, ho.trans ho2⟩
  · by_cases h1 : most < v
    · rw [if_pos (.inr h1)]
      go_enter Try.func40, Try.ntmps40
      go_wp2_with fail
      refine HK.out.mono ?_
      rintro e w1 ⟨rfl, hr, ho⟩
      go_wp2_with fail
      refine (spoil_any a _ _ _ hr).mono ?_
      rintro e w2 ⟨rfl, hr2, ho2⟩
      clear hr
      go_wp2
      go_ret
      exact ⟨rfl, hr2, ho.trans ho2⟩
    · rw [if_neg (by omega)]
      go_enter Try.func40, Try.ntmps40
      go_wp2_with fail
      refine HK.out.mono ?_
      rintro e w1 ⟨rfl, hr, ho⟩
      go_wp2
      go_ret
      exact ⟨rfl, hr, ho⟩

theorem add_block (p : Addr) (k : Nat) : (p.add k).block = p.block := by unfold Addr.add; split <;> simp
theorem isB_from {w : World} {p : Addr} {n c : Nat} {l : List UInt8} (h : IsB w (some p) n c l) (k c' : Nat) (hk : k ≤ n) : IsB w (some (p.add k)) (n - k) c' (l.drop k) := by
  rcases h.at_ with h3 | ⟨b', off', h4, h5⟩
  · refine ⟨by rw [List.length_drop, h.len], (fun e => by cases e), .inl (by omega)⟩
  · cases h4
    rw [Addr.add_lit]
    exact isB_drop h k c' hk
set_option maxHeartbeats 400000 in
theorem rdText_any (a : Nat) (l : List UInt8) (bad : Bool) (most : Int) (w : World) (h : IsR w a T l bad) (hm : l.length ≤ 140737488355328) :
    Calls Try.prog 41 #[.pointer (some ⟨a, 0, none⟩), .int .i64 most] w fun e w' => e = .returned (.string (rT l bad most).v) ∧ IsR w' a T (rT l bad most).l (rT l bad most).bad ∧ Only [a] w w' := by
  unfold rT
  have hk := rdCount_any a l bad most w h hm
  have hp := rC_pos l bad most
  have hlen := rC_len l bad most
  generalize rC l bad most = r at hk hp hlen
  obtain ⟨v, l1, bad1⟩ := r
  simp only at hk hp hlen ⊢
  have hm1 : l1.length ≤ 140737488355328 := by omega
  clear h hm hlen
  have HK := Lib.hid hk; clear hk
  obtain ⟨k, rfl⟩ := Int.eq_ofNat_of_zero_le hp
  by_cases h0 : l1.length < k
  · rw [if_pos (by omega)]
    go_enter Try.func41, Try.ntmps41
    go_wp2_with fail
    refine HK.out.mono ?_
    rintro e w1 ⟨rfl, hr, ho⟩
    have hr' := hr
    obtain ⟨⟨ao, n, c, h1, h2, h3, h4⟩, hne⟩ := hr'
    have hc0 : w1.cell? ⟨a, 0, none⟩ = some (.slice ao n c) := by rw [cell_heap h1]; rfl
    have hn : n < k := by have := h2.len; omega
    clear h1 h2 h4 h0
    have HR := Lib.hid hr; clear hr
    go_wp2_with fail
    refine (spoil_any a _ _ _ HR.out).mono ?_
    rintro e w2 ⟨rfl, hr2, ho2⟩
    go_wp2
    go_ret
    exact ⟨rfl, hr2, ho.trans ho2⟩
  · rw [if_neg (by omega)]
    rw [Int.toNat_natCast]
    go_enter Try.func41, Try.ntmps41
    go_wp2_with fail
    refine HK.out.mono ?_
    rintro e w1 ⟨rfl, hr, ho⟩
    obtain ⟨⟨ao, n, c, h1, h2, h3, h4⟩, hne⟩ := hr
    have hc0 : w1.cell? ⟨a, 0, none⟩ = some (.slice ao n c) := by rw [cell_heap h1]; rfl
    have hf0 := free_heap h1 0
    have hlen := h2.len
    have hn : k ≤ n := by omega
    have hconv := conv_any w1 _ _ _ _ (isB_take h2 k hn)
    generalize hs : strB (l1.take k) = s at hconv
    have HS := Lib.hid hs; clear hs
    have HR := Lib.hid h1; clear h1
    have HB := Lib.hid h2; clear h2
    have H4 := Lib.hid h4; clear h4
    have HL := Lib.hid hlen
    have hn9 : n ≤ 140737488355328 := by omega
    clear hlen h0 hm1
    cases ao with
    | none =>
      obtain ⟨rfl, rfl⟩ := HB.out.nil rfl
      obtain rfl : k = 0 := by omega
      go_wp2_with fail
      go_ret
      exact ⟨by rw [HS.out]; rfl, isR_set HR.out HB.out (Nat.le_refl _) H4.out hne, ho.trans ((Only.refl [a] _).setCell (by simp) _)⟩
    | some p =>
      obtain ⟨b, off, ins⟩ := p
      by_cases hkc : k = c
      · subst hkc
        obtain rfl : n = k := by omega
        go_wp2_with fail
        go_ret
        refine ⟨by rw [HS.out]; rfl, ?_, ho.trans ((Only.refl [a] _).setCell (by simp) _)⟩
        rw [List.drop_of_length_le (by rw [HL.out]; exact Nat.le_refl _)]
        exact isR_set HR.out (isB_zero 0) (Nat.le_refl _) (fun p hp => by cases hp; exact H4.out _ rfl) hne
      · go_wp2_with fail
        go_ret
        refine ⟨by rw [HS.out]; rfl, ?_, ho.trans ((Only.refl [a] _).setCell (by simp) _)⟩
        exact isR_set HR.out (isB_from HB.out k _ hn) (by omega) (fun p hp => by cases hp; rw [add_block]; exact H4.out _ rfl) hne
theorem own_more {w : World} {base : Nat} {e : TypeId} {v : Value} {l : List UInt8} (h : OwnB w base e v l) :
    ∃ ao c, v = .slice ao l.length c ∧ IsB w ao l.length c l ∧ l.length ≤ c ∧ (∀ p, ao = some p → base ≤ p.block ∧ p.block < w.heap.size) := by
  obtain ⟨ao, c, rfl, h1⟩ := h.isB
  refine ⟨ao, c, rfl, h1, ?_, ?_⟩
  · rcases h.2 with ⟨h2, h3⟩ | ⟨g, cap, cur, hv, hg, hh, hn, hm, hs, ht⟩
    · have : l.length = 0 := by simpa using h3
      omega
    · cases hv
      exact hn
  · intro p hp
    subst hp
    exact h.lt p.block (by
      rcases h.2 with ⟨h2, h3⟩ | ⟨g, cap, cur, hv, hg, hh, hn, hm, hs, ht⟩
      · cases h2
      · cases hv; rfl)

set_option maxHeartbeats 400000 in
theorem read_any (ao : Option Addr) (n c : Nat) (l : List UInt8) (w : World) (h : IsB w ao n c l) (hn : n ≤ 1099511627776) :
    Calls Try.prog 26 #[.slice ao n c] w fun e w' => ∃ a, e = .returned (.pointer (some ⟨a, 0, none⟩)) ∧ IsR w' a (fun b => w.heap.size ≤ b ∧ b < a) l false ∧ w.heap.size ≤ a ∧ a < w'.heap.size ∧ Below w.heap.size w w' := by
  have hlen := h.len
  have hb1 : ([] : List UInt8).length + n ≤ 140737488355328 := by simp; omega
  have HB := Lib.hid h; clear h
  go_enter Try.func26, Try.ntmps26
  go_wp2_with (at_builtin; refine wpList_append_bytes rfl _ _ 48 rfl w.heap.size 5 Try.underlying48 info5 _ [] rfl (OwnB.new _ _ _ [] _ rfl _ rfl (by exact Nat.le_refl _) 0 rfl (by decide)) _ _ _ _ rfl (HB.out.alloc _) hb1 (by simp) ?_; intro v' w2 hown' hgr hb2; clear hgr; rw [List.nil_append] at hown'; obtain ⟨a1, c1, hv1, hbs, hc1, hn1⟩ := own_more hown'; subst hv1; clear hown'; rw [hlen] at hbs hc1)
  have hz := hb2.size
  go_ret
  refine ⟨w2.heap.size, rfl, ⟨⟨_, _, _, heap_new _ _, hbs.alloc _, hc1, fun p hp => hn1 p hp⟩, fun h => Nat.lt_irrefl _ h.2⟩, by simp at hz; omega, by simp, (((Below.refl _ _).alloc (Nat.le_refl _) _).trans hb2).alloc (by simp at hz; omega) _⟩
end Go.Proofs.Ytaoligpckpabfaa
