/-
  Read, and the document's own reader.
-/
import Derived.Test.YtpikdeikcmdcmaaPBack
namespace Go.Proofs.Ytpikdeikcmdcmaa
open Go.RowKit

/-- behind the pointer to block a lies the document's own reader of B, at place k, bad or not -/
structure IsF (w : World) (a : Nat) (ao : Option Addr) (n c : Nat) (B : List UInt8) (k : Nat) (bad : Bool) : Prop where
  row : w.heap[a]? = some (.cells #[.slice ao n c, .int .i64 (k : Int), .bool bad] 65 (0, 0))
  bytes : IsB w ao n c B
  le : n ≤ c
  ne : n = 0 ∨ ∀ p, ao = some p → p.block ≠ a
  at_ : k ≤ n
  room : n ≤ 1099511627776

theorem IsF.below {w w' : World} {a : Nat} {ao : Option Addr} {n c : Nat} {B : List UInt8} {k : Nat} {bad : Bool} (h : IsF w a ao n c B k bad) (hb : Below w.heap.size w w') : IsF w' a ao n c B k bad :=
  ⟨(Only.ofBelow hb []).keeps h.row (by simp), h.bytes.below hb, h.le, h.ne, h.at_, h.room⟩

theorem IsF.draws {w : World} {a : Nat} {ao : Option Addr} {n c : Nat} {B : List UInt8} {k : Nat} {bad : Bool} (h : IsF w a ao n c B k bad) (d : Nat) : IsF (w.drewN d) a ao n c B k bad :=
  h.below ⟨rfl, rfl, rfl, Nat.le_refl _, fun _ _ => rfl⟩
theorem isB_only2 {w w' : World} {ao : Option Addr} {n c a : Nat} {l : List UInt8} (h : IsB w ao n c l) (ho : Only [a] w w') (hne : n = 0 ∨ ∀ p, ao = some p → p.block ≠ a) : IsB w' ao n c l := by
  rcases hne with h0 | h0
  · exact ⟨h.len, h.nil, .inl h0⟩
  · exact isB_only h ho h0
theorem IsF.only {w w' : World} {a : Nat} {ao : Option Addr} {n c : Nat} {B : List UInt8} {k : Nat} {bad : Bool} (h : IsF w a ao n c B k bad) {x : Nat} (ho : Only [x] w w') (hx : a ≠ x) (hne : n = 0 ∨ ∀ p, ao = some p → p.block ≠ x) : IsF w' a ao n c B k bad :=
  ⟨ho.keeps h.row (by simpa using hx), isB_only2 h.bytes ho hne, h.le, h.ne, h.at_, h.room⟩
theorem IsF.spoil {w : World} {a : Nat} {ao : Option Addr} {n c : Nat} {B : List UInt8} {k : Nat} {bad : Bool} (h : IsF w a ao n c B k bad) : IsF (w.setCell ⟨a, 2, none⟩ (.bool true)) a ao n c B k true :=
  ⟨heap_set h.row 2 _, isB_only2 h.bytes ((Only.refl [a] w).setCell (by simp) _) h.ne, h.le, h.ne, h.at_, h.room⟩
theorem IsF.go {w : World} {a : Nat} {ao : Option Addr} {n c : Nat} {B : List UInt8} {k : Nat} {bad : Bool} (h : IsF w a ao n c B k bad) (k' : Nat) (z : Int) (hz : z = (k' : Int)) (hk : k' ≤ n) : IsF (w.setCell ⟨a, 1, none⟩ (.int .i64 z)) a ao n c B k' bad :=
  ⟨by subst hz; exact heap_set h.row 1 _, isB_only2 h.bytes ((Only.refl [a] w).setCell (by simp) _) h.ne, h.le, h.ne, hk, h.room⟩

set_option maxHeartbeats 400000 in
theorem fEnd_any (a : Nat) (ao : Option Addr) (n c : Nat) (B : List UInt8) (k : Nat) (bad : Bool) (w : World) (h : IsF w a ao n c B k bad) :
    Calls Try.prog 38 #[.pointer (some ⟨a, 0, none⟩)] w fun e w' => ∃ d, e = .returned (.bool (!bad && ((k : Int) == (n : Int)))) ∧ w' = w.drewN d := by
  have hc0 : w.cell? ⟨a, 0, none⟩ = some (.slice ao n c) := by rw [cell_heap h.row]; rfl
  have hc1 : w.cell? ⟨a, 1, none⟩ = some (.int .i64 (k : Int)) := by rw [cell_heap h.row]; rfl
  have hc2 : w.cell? ⟨a, 2, none⟩ = some (.bool bad) := by rw [cell_heap h.row]; rfl
  clear h
  cases bad
  · go_enter Try.func38, Try.ntmps38
    go_wp2_with fail
    go_quiet (fail)
    go_wp2
    go_ret
    exact ⟨_, rfl, rfl⟩
  · go_enter Try.func38, Try.ntmps38
    go_wp2_with fail
    go_quiet (fail)
    go_wp2
    go_ret
    exact ⟨_, rfl, rfl⟩

set_option maxHeartbeats 400000 in
theorem fI64_bad (a : Nat) (ao : Option Addr) (n c : Nat) (B : List UInt8) (k : Nat) (w : World) (h : IsF w a ao n c B k true) :
    Calls Try.prog 35 #[.pointer (some ⟨a, 0, none⟩)] w fun e w' => e = .returned (.int .i64 0) ∧ IsF w' a ao n c B k true ∧ Only [a] w w' := by
  have hc2 : w.cell? ⟨a, 2, none⟩ = some (.bool true) := by rw [cell_heap h.row]; rfl
  have hf2 := free_heap h.row 2
  have HR := Lib.hid h
  clear h
  go_enter Try.func35, Try.ntmps35
  go_wp2_with fail
  go_quiet (fail)
  go_wp2_with fail
  go_ret
  exact ⟨rfl, (HR.out.draws _).spoil, ((Only.refl [a] w).drewN _).setCell (by simp) _⟩

set_option maxHeartbeats 400000 in
theorem fI64_short (a : Nat) (ao : Option Addr) (n c : Nat) (B : List UInt8) (k : Nat) (w : World) (h : IsF w a ao n c B k false) (hs : n - k < 8) :
    Calls Try.prog 35 #[.pointer (some ⟨a, 0, none⟩)] w fun e w' => e = .returned (.int .i64 0) ∧ IsF w' a ao n c B k true ∧ Only [a] w w' := by
  have hc0 : w.cell? ⟨a, 0, none⟩ = some (.slice ao n c) := by rw [cell_heap h.row]; rfl
  have hc1 : w.cell? ⟨a, 1, none⟩ = some (.int .i64 (k : Int)) := by rw [cell_heap h.row]; rfl
  have hc2 : w.cell? ⟨a, 2, none⟩ = some (.bool false) := by rw [cell_heap h.row]; rfl
  have hf2 := free_heap h.row 2
  have hkn := h.at_
  have hroom := h.room
  have HR := Lib.hid h
  clear h
  go_enter Try.func35, Try.ntmps35
  go_wp2_with fail
  go_quiet (fail)
  go_wp2_with fail
  go_ret
  exact ⟨rfl, (HR.out.draws _).spoil, ((Only.refl [a] w).drewN _).setCell (by simp) _⟩

set_option maxHeartbeats 400000 in
theorem fI64_some (a : Nat) (ao : Option Addr) (n c : Nat) (B : List UInt8) (k : Nat) (w : World) (h : IsF w a ao n c B k false) (hs : 8 ≤ n - k) :
    Calls Try.prog 35 #[.pointer (some ⟨a, 0, none⟩)] w fun e w' => e = .returned (.int .i64 (val8 (B.drop k))) ∧ IsF w' a ao n c B (k + 8) false ∧ Only [a] w w' := by
  have hc0 : w.cell? ⟨a, 0, none⟩ = some (.slice ao n c) := by rw [cell_heap h.row]; rfl
  have hc1 : w.cell? ⟨a, 1, none⟩ = some (.int .i64 (k : Int)) := by rw [cell_heap h.row]; rfl
  have hc2 : w.cell? ⟨a, 2, none⟩ = some (.bool false) := by rw [cell_heap h.row]; rfl
  have hf1 := free_heap h.row 1
  have hkn := h.at_
  have hroom := h.room
  obtain ⟨b, off, rfl, hcb⟩ : ∃ b off, ao = some ⟨b, off, none⟩ ∧ ∀ i, i < n → w.cell? ⟨b, off + i, none⟩ = some (.int .u8 ((B.getD i 0).toNat : Int)) := by
    rcases h.bytes.at_ with h0 | h0
    · omega
    · exact h0
  have HL := Lib.hid h.bytes.len
  have HR := Lib.hid h
  have HC := Lib.hid hcb
  clear h hcb
  go_enter Try.func35, Try.ntmps35
  go_wp2_with fail
  go_quiet (fail)
  go_wp2_with fail
  go_loopw [3, 4] (fun v i wr => ∃ j d : Nat, j ≤ 8 ∧ i = .int .i64 (j : Int) ∧ v = .int .u64 ((accN ((B.drop k).take j) : Nat) : Int) ∧ wr = w.drewN d) (fun _ i _ => 8 - (intOf i).toNat)
  case atStart => exact ⟨0, _, by omega, rfl, rfl, rfl⟩
  case round =>
    obtain ⟨j, d, hj, rfl, rfl, rfl⟩ := hrel
    by_cases hlt : j < 8
    · have hcell := HC.out (k + j) (by omega)
      have hone := take_one (B.drop k) j (by rw [List.length_drop, HL.out]; omega)
      have hg : (B.drop k).getD j 0 = B.getD (k + j) 0 := by simp [List.getElem?_drop]
      rw [hg] at hone
      have hlt8 := accN_lt8 ((B.drop k).take j) (by rw [List.length_take]; omega)
      generalize B.getD (k + j) 0 = x at hcell hone
      have HO := Lib.hid hone; clear hone
      have HV := Lib.hid hlt8; clear hlt8 hg
      go_wp2_with fail
      go_quiet (fail)
      go_wp2_with fail
      go_roundw
      case rel => exact ⟨j + 1, _, by omega, by go_num, u64_eq (by rw [step_walk _ _ HV.out, HO.out, accN_one]), rfl⟩
      case measure => simp [intOf]; omega
    · obtain rfl : j = 8 := by omega
      generalize hv : accN ((B.drop k).take 8) = v
      have HV := Lib.hid hv; clear hv
      go_wp2_with fail
      go_ret
      exact ⟨ret_i64 (by unfold val8; rw [HV.out]), (HR.out.draws _).go (k + 8) _ (by omega) (by omega), ((Only.refl [a] w).drewN _).setCell (by simp) _⟩

/-- what the document's own reader answers, where it is then, and whether it is bad -/
structure Rf (α : Type) where
  v : α
  k : Nat
  bad : Bool
def fI (B : List UInt8) (k : Nat) (bad : Bool) : Rf Int := if bad = true ∨ B.length - k < 8 then ⟨0, k, true⟩ else ⟨val8 (B.drop k), k + 8, false⟩
def fC (B : List UInt8) (k : Nat) (bad : Bool) (most : Int) : Rf Int :=
  if (fI B k bad).bad = true ∨ (fI B k bad).v < 0 ∨ most < (fI B k bad).v then ⟨0, (fI B k bad).k, true⟩ else fI B k bad
def fT (B : List UInt8) (k : Nat) (bad : Bool) (most : Int) : Rf ByteArray :=
  if (fC B k bad most).bad = true ∨ (B.length : Int) - ((fC B k bad most).k : Int) < (fC B k bad most).v then ⟨⟨#[]⟩, (fC B k bad most).k, true⟩
  else ⟨strB ((B.drop (fC B k bad most).k).take (fC B k bad most).v.toNat), (fC B k bad most).k + (fC B k bad most).v.toNat, false⟩
theorem fC_pos (B : List UInt8) (k : Nat) (bad : Bool) (most : Int) : 0 ≤ (fC B k bad most).v := by
  unfold fC; split
  · simp
  · omega

theorem fI64_any (a : Nat) (ao : Option Addr) (n c : Nat) (B : List UInt8) (k : Nat) (bad : Bool) (w : World) (h : IsF w a ao n c B k bad) :
    Calls Try.prog 35 #[.pointer (some ⟨a, 0, none⟩)] w fun e w' => e = .returned (.int .i64 (fI B k bad).v) ∧ IsF w' a ao n c B (fI B k bad).k (fI B k bad).bad ∧ Only [a] w w' := by
  have hl := h.bytes.len
  unfold fI
  cases bad
  · by_cases hs : B.length - k < 8
    · rw [if_pos (.inr hs)]; exact fI64_short a ao n c B k w h (by omega)
    · rw [if_neg (by simp; omega)]; exact fI64_some a ao n c B k w h (by omega)
  · rw [if_pos (.inl rfl)]; exact fI64_bad a ao n c B k w h

set_option maxHeartbeats 400000 in
theorem fCount_any (a : Nat) (ao : Option Addr) (n c : Nat) (B : List UInt8) (k : Nat) (bad : Bool) (most : Int) (w : World) (h : IsF w a ao n c B k bad) :
    Calls Try.prog 36 #[.pointer (some ⟨a, 0, none⟩), .int .i64 most] w fun e w' => e = .returned (.int .i64 (fC B k bad most).v) ∧ IsF w' a ao n c B (fC B k bad most).k (fC B k bad most).bad ∧ Only [a] w w' := by
  unfold fC
  have hk := fI64_any a ao n c B k bad w h
  clear h
  generalize fI B k bad = r at hk
  obtain ⟨v, k1, bad1⟩ := r
  simp only at hk ⊢
  have HK := Lib.hid hk; clear hk
  cases bad1
  · by_cases h0 : v < 0 ∨ most < v
    · rw [if_pos (.inr h0)]
      by_cases h1 : v < 0
      · clear h0
        go_enter Try.func36, Try.ntmps36
        go_wp2_with fail
        refine HK.out.mono ?_
        rintro e w1 ⟨rfl, hr, ho⟩
        have hc2 : w1.cell? ⟨a, 2, none⟩ = some (.bool false) := by rw [cell_heap hr.row]; rfl
        have hf2 := free_heap hr.row 2
        have HR := Lib.hid hr; clear hr
        go_wp2_with fail
        go_ret
        exact ⟨rfl, HR.out.spoil, ho.trans ((Only.refl [a] _).setCell (by simp) _)⟩
      · have h2 : most < v := h0.resolve_left h1
        clear h0
        go_enter Try.func36, Try.ntmps36
        go_wp2_with fail
        refine HK.out.mono ?_
        rintro e w1 ⟨rfl, hr, ho⟩
        have hc2 : w1.cell? ⟨a, 2, none⟩ = some (.bool false) := by rw [cell_heap hr.row]; rfl
        have hf2 := free_heap hr.row 2
        have HR := Lib.hid hr; clear hr
        go_wp2_with fail
        go_ret
        exact ⟨rfl, HR.out.spoil, ho.trans ((Only.refl [a] _).setCell (by simp) _)⟩
    · rw [if_neg (by simpa using h0)]
      obtain ⟨h1, h2⟩ : ¬ v < 0 ∧ ¬ most < v := by omega
      clear h0
      go_enter Try.func36, Try.ntmps36
      go_wp2_with fail
      refine HK.out.mono ?_
      rintro e w1 ⟨rfl, hr, ho⟩
      have hc2 : w1.cell? ⟨a, 2, none⟩ = some (.bool false) := by rw [cell_heap hr.row]; rfl
      have HR := Lib.hid hr; clear hr
      go_wp2_with fail
      go_ret
      exact ⟨rfl, HR.out, ho⟩
  · rw [if_pos (.inl rfl)]
    go_enter Try.func36, Try.ntmps36
    go_wp2_with fail
    refine HK.out.mono ?_
    rintro e w1 ⟨rfl, hr, ho⟩
    have hc2 : w1.cell? ⟨a, 2, none⟩ = some (.bool true) := by rw [cell_heap hr.row]; rfl
    have hf2 := free_heap hr.row 2
    have HR := Lib.hid hr; clear hr
    go_wp2_with fail
    go_ret
    exact ⟨rfl, HR.out.spoil, ho.trans ((Only.refl [a] _).setCell (by simp) _)⟩

theorem IsF.win {w : World} {a : Nat} {ao : Option Addr} {n c : Nat} {B : List UInt8} {k : Nat} {bad : Bool} (h : IsF w a ao n c B k bad) (d m : Nat) (hm : k + m ≤ n) :
    IsB (w.drewN d) (ao.map (·.add k)) m (c - k) ((B.drop k).take m) := by
  have hb := (h.draws d).bytes
  cases ao with
  | none =>
    obtain ⟨rfl, rfl⟩ := hb.nil rfl
    obtain rfl : m = 0 := by omega
    exact ⟨by simp, (fun _ => ⟨rfl, by simp⟩), .inl rfl⟩
  | some p =>
    have h2 := isB_take (isB_from hb k (c - k) (by omega)) m (by omega)
    exact h2

set_option maxHeartbeats 400000 in
theorem fText_any (a : Nat) (ao : Option Addr) (n c : Nat) (B : List UInt8) (k : Nat) (bad : Bool) (most : Int) (w : World) (h : IsF w a ao n c B k bad) :
    Calls Try.prog 37 #[.pointer (some ⟨a, 0, none⟩), .int .i64 most] w fun e w' => e = .returned (.string (fT B k bad most).v) ∧ IsF w' a ao n c B (fT B k bad most).k (fT B k bad most).bad ∧ Only [a] w w' := by
  unfold fT
  have hl := h.bytes.len
  have hk := fCount_any a ao n c B k bad most w h
  have hp := fC_pos B k bad most
  clear h
  generalize fC B k bad most = r at hk hp
  obtain ⟨v, k1, bad1⟩ := r
  simp only at hk hp ⊢
  obtain ⟨m, rfl⟩ := Int.eq_ofNat_of_zero_le hp
  clear hp
  have HK := Lib.hid hk; clear hk
  cases bad1
  · by_cases h0 : (n : Int) - (k1 : Int) < (m : Int)
    · rw [if_pos (.inr (by rw [hl]; exact h0))]
      have HL := Lib.hid hl; clear hl
      go_enter Try.func37, Try.ntmps37
      go_wp2_with fail
      refine HK.out.mono ?_
      rintro e w1 ⟨rfl, hr, ho⟩
      have hc0 : w1.cell? ⟨a, 0, none⟩ = some (.slice ao n c) := by rw [cell_heap hr.row]; rfl
      have hc1 : w1.cell? ⟨a, 1, none⟩ = some (.int .i64 (k1 : Int)) := by rw [cell_heap hr.row]; rfl
      have hc2 : w1.cell? ⟨a, 2, none⟩ = some (.bool false) := by rw [cell_heap hr.row]; rfl
      have hf2 := free_heap hr.row 2
      have hkn := hr.at_
      have hroom := hr.room
      have HR := Lib.hid hr; clear hr
      go_wp2_with fail
      go_quiet (fail)
      go_wp2_with fail
      go_ret
      exact ⟨rfl, (HR.out.draws _).spoil, ho.trans (((Only.refl [a] _).drewN _).setCell (by simp) _)⟩
    · rw [if_neg (by rw [hl]; simpa using h0), Int.toNat_natCast]
      go_enter Try.func37, Try.ntmps37
      go_wp2_with fail
      refine HK.out.mono ?_
      rintro e w1 ⟨rfl, hr, ho⟩
      have hc0 : w1.cell? ⟨a, 0, none⟩ = some (.slice ao n c) := by rw [cell_heap hr.row]; rfl
      have hc1 : w1.cell? ⟨a, 1, none⟩ = some (.int .i64 (k1 : Int)) := by rw [cell_heap hr.row]; rfl
      have hc2 : w1.cell? ⟨a, 2, none⟩ = some (.bool false) := by rw [cell_heap hr.row]; rfl
      have hf1 := free_heap hr.row 1
      have hkn := hr.at_
      have hroom := hr.room
      have hle := hr.le
      have hmn : k1 + m ≤ n := by omega
      have HL := Lib.hid hl; clear hl
      have HR := Lib.hid hr; clear hr
      by_cases hkc : k1 = c
      · subst hkc
        obtain rfl : n = k1 := by omega
        obtain rfl : m = 0 := by omega
        have hconv := fun d => conv_any (w1.drewN d) ao 0 0 [] (by cases ao with | none => exact isB_nil _ | some p => exact isB_zero 0)
        have hs : strB ((B.drop n).take 0) = strB [] := by simp
        generalize strB [] = s at hconv hs
        have HS := Lib.hid hs; clear hs
        go_wp2_with fail
        go_quiet (fail)
        go_wp2_with fail
        go_quiet (fail)
        go_wp2_with fail
        go_ret
        exact ⟨by rw [HS.out]; rfl, (HR.out.draws _).go (n + 0) _ (by omega) hmn, ho.trans (((Only.refl [a] _).drewN _).setCell (by simp) _)⟩
      · have hconv := fun d => conv_any (w1.drewN d) (ao.map (·.add k1)) m (c - k1) ((B.drop k1).take m) (HR.out.win d m hmn)
        generalize hs : strB ((B.drop k1).take m) = s at hconv
        have HS := Lib.hid hs; clear hs
        go_wp2_with fail
        go_quiet (fail)
        go_wp2_with fail
        go_quiet (fail)
        go_wp2_with fail
        go_ret
        exact ⟨by rw [HS.out]; rfl, (HR.out.draws _).go (k1 + m) _ (by omega) hmn, ho.trans (((Only.refl [a] _).drewN _).setCell (by simp) _)⟩
  · rw [if_pos (.inl rfl)]
    go_enter Try.func37, Try.ntmps37
    go_wp2_with fail
    refine HK.out.mono ?_
    rintro e w1 ⟨rfl, hr, ho⟩
    have hc2 : w1.cell? ⟨a, 2, none⟩ = some (.bool true) := by rw [cell_heap hr.row]; rfl
    have hf2 := free_heap hr.row 2
    have HR := Lib.hid hr; clear hr
    go_wp2_with fail
    go_quiet (fail)
    go_wp2_with fail
    go_ret
    exact ⟨rfl, (HR.out.draws _).spoil, ho.trans (((Only.refl [a] _).drewN _).setCell (by simp) _)⟩
end Go.Proofs.Ytpikdeikcmdcmaa
