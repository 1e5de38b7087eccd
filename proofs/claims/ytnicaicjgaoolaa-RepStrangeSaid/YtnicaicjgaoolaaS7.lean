/-
  What the proof of the law leans on: contracts of the program's functions, one behind another. No condition.
-/
import Derived.Test.YtnicaicjgaoolaaS6
import Derived.Test.YtnicaicjgaoolaaS3
set_option linter.unusedVariables false
set_option linter.unusedSimpArgs false
namespace Go.Proofs.Ytnicaicjgaoolaa
open Go.RowKit Go.ChangeMaps Go.WideMaps Go.Maps
set_option maxRecDepth 20000
section
variable (p : String)
def z0wx0 : Oper := ⟨some 3, .move (.tmp 0), 63, p, #[], none⟩
def z0wx1 : Oper := ⟨some 4, .nilCheck (.tmp 3), 0, p, #[⟨0, .data⟩], none⟩
def z0wx2 : Oper := ⟨some 5, .fieldAddr 99 (.tmp 4) 2, 0, p, #[⟨1, .data⟩], none⟩
def z0wx3 : Oper := ⟨some 6, .load 4 (.tmp 5), 4, p, #[⟨2, .data⟩], none⟩
def z0wx4 : Oper := ⟨some 7, .move (.tmp 6), 4, p, #[⟨3, .data⟩], none⟩
def z0wx5 : Oper := ⟨some 8, .move (.tmp 0), 63, p, #[⟨4, .guard⟩], some (4, false)⟩
def z0wx6 : Oper := ⟨some 9, .nilCheck (.tmp 8), 0, p, #[⟨5, .data⟩, ⟨4, .guard⟩], some (4, false)⟩
def z0wx7 : Oper := ⟨some 10, .fieldAddr 99 (.tmp 9) 0, 0, p, #[⟨6, .data⟩, ⟨4, .guard⟩], some (4, false)⟩
def z0wx8 : Oper := ⟨some 11, .load 54 (.tmp 10), 54, p, #[⟨7, .data⟩, ⟨4, .guard⟩], some (4, false)⟩
def z0wx9 : Oper := ⟨some 12, .call { callee := Callee.value (Operand.func 33), args := #[.tmp 11], argTypes := #[54] }, 3, p, #[⟨8, .data⟩, ⟨4, .chain⟩, ⟨4, .guard⟩], some (4, false)⟩
def z0wx10 : Oper := ⟨some 13, .move (.tmp 0), 63, p, #[⟨4, .guard⟩], some (4, false)⟩
def z0wx11 : Oper := ⟨some 14, .nilCheck (.tmp 13), 0, p, #[⟨10, .data⟩, ⟨4, .guard⟩], some (4, false)⟩
def z0wx12 : Oper := ⟨some 15, .fieldAddr 99 (.tmp 14) 1, 0, p, #[⟨11, .data⟩, ⟨4, .guard⟩], some (4, false)⟩
def z0wx13 : Oper := ⟨some 16, .load 3 (.tmp 15), 3, p, #[⟨12, .data⟩, ⟨4, .guard⟩], some (4, false)⟩
def z0wx14 : Oper := ⟨some 17, .binOp BinOp.neq 3 (.tmp 12) (.tmp 16) 3, 4, p, #[⟨9, .data⟩, ⟨13, .data⟩, ⟨4, .guard⟩], some (4, false)⟩
def z0wx15 : Oper := ⟨some 18, .pick (.tmp 7) (Operand.const (Value.bool true)) (.tmp 17), 4, p, #[⟨4, .data⟩, ⟨14, .data⟩], none⟩
def z0wx16 : Oper := ⟨some 19, .move (.tmp 18), 4, p, #[⟨15, .data⟩, ⟨9, .chain⟩], none⟩
def z0wx17 : Oper := ⟨some 20, .move (.tmp 0), 63, p, #[⟨16, .guard⟩], some (16, false)⟩
def z0wx18 : Oper := ⟨some 21, .nilCheck (.tmp 20), 0, p, #[⟨17, .data⟩, ⟨16, .guard⟩], some (16, false)⟩
def z0wx19 : Oper := ⟨some 22, .fieldAddr 99 (.tmp 21) 0, 0, p, #[⟨18, .data⟩, ⟨16, .guard⟩], some (16, false)⟩
def z0wx20 : Oper := ⟨some 23, .load 54 (.tmp 22), 54, p, #[⟨19, .data⟩, ⟨16, .guard⟩], some (16, false)⟩
def z0wx21 : Oper := ⟨some 24, .call { callee := Callee.value (Operand.func 32), args := #[.tmp 23], argTypes := #[54] }, 4, p, #[⟨20, .data⟩, ⟨16, .chain⟩, ⟨16, .guard⟩], some (16, false)⟩
def z0wx22 : Oper := ⟨some 25, .unOp UnOp.not 4 (.tmp 24), 4, p, #[⟨21, .data⟩, ⟨16, .guard⟩], some (16, false)⟩
def z0wx23 : Oper := ⟨some 26, .pick (.tmp 19) (Operand.const (Value.bool true)) (.tmp 25), 4, p, #[⟨16, .data⟩, ⟨22, .data⟩], none⟩
def z0wx24 : Oper := ⟨some 2, .assign (.tmp 26), 4, p, #[⟨23, .data⟩, ⟨21, .chain⟩, ⟨0, .phase⟩, ⟨1, .phase⟩, ⟨2, .phase⟩, ⟨3, .phase⟩, ⟨4, .phase⟩, ⟨5, .phase⟩, ⟨6, .phase⟩, ⟨7, .phase⟩, ⟨8, .phase⟩, ⟨9, .phase⟩, ⟨10, .phase⟩, ⟨11, .phase⟩, ⟨12, .phase⟩, ⟨13, .phase⟩, ⟨14, .phase⟩, ⟨15, .phase⟩, ⟨16, .phase⟩, ⟨17, .phase⟩, ⟨18, .phase⟩, ⟨19, .phase⟩, ⟨20, .phase⟩, ⟨21, .phase⟩, ⟨22, .phase⟩, ⟨23, .phase⟩], none⟩
end
attribute [go_sem, reducible] z0wx0 z0wx1 z0wx2 z0wx3 z0wx4 z0wx5 z0wx6 z0wx7 z0wx8 z0wx9 z0wx10 z0wx11 z0wx12 z0wx13 z0wx14 z0wx15 z0wx16 z0wx17 z0wx18 z0wx19 z0wx20 z0wx21 z0wx22 z0wx23 z0wx24
def Dis (A B : List Nat) : Prop := ∀ x ∈ A, x ∉ B
theorem Dis.symm {A B : List Nat} (h : Dis A B) : Dis B A := fun x hb ha => h x ha hb
/-- A', but for what is new, is of A -/
def Ext (A A' : List Nat) (w : World) : Prop := ∀ b ∈ A', b ∈ A ∨ w.heap.size ≤ b
theorem Ext.refl (A : List Nat) (w : World) : Ext A A w := fun b h => .inl h
theorem Moves.dis {D D' X : List Nat} {w w' : World} (h : Moves D D' w w') (hd : Dis D X) (hx : ∀ b ∈ X, b < w.heap.size) : Dis D' X := fun b hb hX => by
 rcases h.gr b hb with h1 | h1
 ·exact hd b h1 hX
 ·have := hx b hX; omega
/-- bytes that never turn: their block is none of A -/
def Imm (w : World) (A : List Nat) (v : Value) (l : List UInt8) : Prop := ∃ ao c, v = .slice ao l.length c ∧ IsB w ao l.length c l ∧ l.length ≤ c ∧ ∀ p, ao = some p → p.block ∉ A ∧ p.block < w.heap.size
theorem Imm.step {w w' : World} {A A' S : List Nat} {v : Value} {l : List UInt8} (h : Imm w A v l) (ho : Only S w w') (hS : ∀ b ∈ S, b ∈ A) (he : Ext A A' w) : Imm w' A' v l := by
 obtain ⟨ao, c, rfl, h1, h2, h3⟩ := h
 refine ⟨ao, c, rfl, isB_avoid h1 ho (fun b off i hb => fun hm => (h3 _ hb.1).1 (hS b hm)), h2, fun p hp => ?_⟩
 obtain ⟨h4, h5⟩ := h3 p hp
 refine ⟨fun hm => ?_, Nat.lt_of_lt_of_le h5 ho.size⟩
 rcases he _ hm with h6 | h6
 ·exact h4 h6
 ·omega
theorem Imm.below {w w' : World} {A : List Nat} {v : Value} {l : List UInt8} (h : Imm w A v l) (hb : Below w.heap.size w w') : Imm w' A v l := h.step (Only.ofBelow hb []) (fun b hb => by cases hb) (Ext.refl _ _)
theorem Imm.new {w w' : World} {A : List Nat} {v : Value} {l : List UInt8} (h : OwnB w' w.heap.size 5 v l) (hA : ∀ b ∈ A, b < w.heap.size) : Imm w' A v l := by
 obtain ⟨ao, c, rfl, h1, h2, h3⟩ := own_more h
 exact ⟨ao, c, rfl, h1, h2, fun p hp => ⟨fun hm => by have := hA _ hm; have := (h3 p hp).1; omega, (h3 p hp).2⟩⟩
theorem Imm.mono {w : World} {A A' : List Nat} {v : Value} {l : List UInt8} (h : Imm w A' v l) (hs : ∀ b ∈ A, b ∈ A') : Imm w A v l := by
 obtain ⟨ao, c, h0, h1, h2, h3⟩ := h
 exact ⟨ao, c, h0, h1, h2, fun p hp => ⟨fun hm => (h3 p hp).1 (hs _ hm), (h3 p hp).2⟩⟩
structure Wl where
 lives : Int
 done : Bool
 recs : List (List UInt8)
def endsOf (recs : List (List UInt8)) : List Int := (List.range recs.length).map fun i => ((F.frames (recs.take (i + 1))).length : Int)
theorem endsOf_len (recs : List (List UInt8)) : (endsOf recs).length = recs.length := by simp [endsOf]
/-- the log's rows -/
structure WRows (w : World) (A L : List Nat) (vr ve : Value) (recs : List (List UInt8)) : Prop where
 rr : ∃ us : List Value, us.length = recs.length ∧ w.ownsRow 0 29 1 vr recs.length us ∧ ∀ i, i < recs.length → Imm w A (us.getD i undef) (recs.getD i [])
 re : OwnI w 0 3 ve (endsOf recs)
 vrL : ∀ k, vr.ownBlock = some k → k ∈ L
 veL : ∀ k, ve.ownBlock = some k → k ∈ L
structure IsWl (w : World) (A L : List Nat) (l d : Nat) (s : Wl) : Prop where
 ex : ∃ vr ve, w.heap[l]? = some (.cells #[.pointer (some ⟨d, 0, none⟩), .int .i64 s.lives, .bool s.done, .int .i64 1, vr, ve] 99 (0, 0)) ∧ WRows w A L vr ve s.recs
 mem : l ∈ L
 lt : ∀ b ∈ L, b < w.heap.size
theorem WRows.keep {w w' : World} {A A' L S : List Nat} {vr ve : Value} {recs : List (List UInt8)} (h : WRows w A L vr ve recs) (ho : Only S w w') (hL : ∀ b ∈ L, b ∉ S) (hS : ∀ b ∈ S, b ∈ A) (he : Ext A A' w) : WRows w' A' L vr ve recs := by
 obtain ⟨⟨us, h1, h2, h3⟩, h4, h5, h6⟩ := h
 exact ⟨⟨us, h1, rows_only0 h2 ho (fun k hk => hL k (h5 k hk)), fun i hi => (h3 i hi).step ho hS he⟩, rows_only0 h4 ho (fun k hk => hL k (h6 k hk)), h5, h6⟩
theorem IsWl.keep {w w' : World} {A A' L S : List Nat} {l d : Nat} {s : Wl} (h : IsWl w A L l d s) (ho : Only S w w') (hL : ∀ b ∈ L, b ∉ S) (hS : ∀ b ∈ S, b ∈ A) (he : Ext A A' w) : IsWl w' A' L l d s := by
 obtain ⟨⟨vr, ve, h1, h2⟩, h3, h4⟩ := h
 exact ⟨⟨vr, ve, ho.keeps h1 (hL _ h3), h2.keep ho hL hS he⟩, h3, fun b hb => Nat.lt_of_lt_of_le (h4 b hb) ho.size⟩
theorem IsWl.below {w w' : World} {A L : List Nat} {l d : Nat} {s : Wl} (h : IsWl w A L l d s) (hb : Below w.heap.size w w') : IsWl w' A L l d s := h.keep (Only.ofBelow hb []) (fun b _ => by simp) (fun b hb => by cases hb) (Ext.refl _ _)
section
variable {w : World} {A D L : List Nat} {l d : Nat} {s : Wl} {k : Dk}
theorem first_any (h : IsWl w A L l d s) : Calls Try.prog 60 #[.pointer (some ⟨l, 0, none⟩)] w fun e w' => e = .returned (.int .i64 1) ∧ w = w' := by
 obtain ⟨⟨vr, ve, h1, _⟩, _⟩ := h
 have hc : w.cell? ⟨l, 3, none⟩ = some (.int .i64 1) := by rw [cell_heap h1]; rfl
 clear h1
 go_enter Try.func60, Try.ntmps60
 go_wp2_with fail
 go_ret
 exact ⟨rfl, rfl⟩
theorem next_any (h : IsWl w A L l d s) (hl : s.recs.length ≤ 1000000000) : Calls Try.prog 61 #[.pointer (some ⟨l, 0, none⟩)] w fun e w' => e = .returned (.int .i64 (1 + (s.recs.length : Int))) ∧ ∃ q, w' = w.drewN q := by
 obtain ⟨⟨vr, ve, h1, ⟨us, hu, hr, _⟩, _⟩, _⟩ := h
 obtain ⟨ao, c, rfl, _, _⟩ := rows_form hr
 have hc : w.cell? ⟨l, 3, none⟩ = some (.int .i64 1) := by rw [cell_heap h1]; rfl
 have hc4 : w.cell? ⟨l, 4, none⟩ = some (.slice ao s.recs.length c) := by rw [cell_heap h1]; rfl
 have q1 : IntKind.i64.wrap (1 + (s.recs.length : Int)) = 1 + (s.recs.length : Int) := IntWalk.i64_in _ (by omega)
 clear h1 hu hr
 go_enter Try.func61, Try.ntmps61
 go_wp2_with fail
 go_quiet (fail)
 go_wp2_with fail
 go_ret
 exact ⟨rfl, nq, rfl⟩
/-- does the log do nothing more -/
def offW (s : Wl) (k : Dk) : Bool := s.done || (!(k.lives == s.lives) || k.off)
set_option maxHeartbeats 1000000 in
theorem off_any (h : IsWl w A L l d s) (hd : IsDk w D d k) : Calls Try.prog 76 #[.pointer (some ⟨l, 0, none⟩)] w fun e w' => e = .returned (.bool (offW s k)) ∧ ∃ q, w' = w.drewN q := by
 have HD := Lib.hid hd
 obtain ⟨⟨vr, ve, h1, _⟩, _⟩ := h
 have hc0 : w.cell? ⟨l, 0, none⟩ = some (.pointer (some ⟨d, 0, none⟩)) := by rw [cell_heap h1]; rfl
 have hc1 : w.cell? ⟨l, 1, none⟩ = some (.int .i64 s.lives) := by rw [cell_heap h1]; rfl
 have hc2 : w.cell? ⟨l, 2, none⟩ = some (.bool s.done) := by rw [cell_heap h1]; rfl
 clear h1 hd
 unfold offW
 generalize s.done = dn at *
 generalize s.lives = sl at *
 cases dn with
 | true =>
  go_enter Try.func76, Try.ntmps76
  go_upto_region 1 with (fail)
  refine wp_region_held_drew (S := fun w' => w'.cell? ⟨l, 0, none⟩ = some (.pointer (some ⟨d, 0, none⟩)) ∧ w'.cell? ⟨l, 1, none⟩ = some (.int .i64 sl) ∧ w'.cell? ⟨l, 2, none⟩ = some (.bool true)) (by kernel_rfl) ⟨hc0, hc1, hc2⟩ (fun hHeld => ?_)
  refine qtl 0 (z0wx0 _) rfl ?_
  refine qtl 1 (z0wx1 _) rfl ?_
  refine qtl 2 (z0wx2 _) rfl ?_
  refine qtl 3 (z0wx3 _) rfl ?_
  refine qtl 4 (z0wx4 _) rfl ?_
  refine qtu 5 (z0wx5 _) rfl ?_
  refine qtu 6 (z0wx6 _) rfl ?_
  refine qtu 7 (z0wx7 _) rfl ?_
  refine qtu 8 (z0wx8 _) rfl ?_
  refine qtu 9 (z0wx9 _) rfl ?_
  refine qtu 10 (z0wx10 _) rfl ?_
  refine qtu 11 (z0wx11 _) rfl ?_
  refine qtu 12 (z0wx12 _) rfl ?_
  refine qtu 13 (z0wx13 _) rfl ?_
  refine qtu 14 (z0wx14 _) rfl ?_
  refine qtl 15 (z0wx15 _) rfl ?_
  refine qtl 16 (z0wx16 _) rfl ?_
  refine qtu 17 (z0wx17 _) rfl ?_
  refine qtu 18 (z0wx18 _) rfl ?_
  refine qtu 19 (z0wx19 _) rfl ?_
  refine qtu 20 (z0wx20 _) rfl ?_
  refine qtu 21 (z0wx21 _) rfl ?_
  refine qtu 22 (z0wx22 _) rfl ?_
  refine qtl 23 (z0wx23 _) rfl ?_
  refine qtl 24 (z0wx24 _) rfl ?_
  refine qdn ?_
  go_wp2_with fail
  go_ret
  exact ⟨by simp, 1, rfl⟩
 | false =>
  by_cases hl : k.lives = sl
  ·have hlb : (k.lives == sl) = true := by simpa using hl
   rw [hlb]
   have hne : (k.lives != sl) = false := by rw [bne, hlb]; rfl
   clear hl hlb
   go_enter Try.func76, Try.ntmps76
   go_upto_region 1 with (fail)
   refine wp_region_held_drew (S := fun w' => w'.cell? ⟨l, 0, none⟩ = some (.pointer (some ⟨d, 0, none⟩)) ∧ w'.cell? ⟨l, 1, none⟩ = some (.int .i64 sl) ∧ w'.cell? ⟨l, 2, none⟩ = some (.bool false)) (by kernel_rfl) ⟨hc0, hc1, hc2⟩ (fun hHeld => ?_)
   refine qtl 0 (z0wx0 _) rfl ?_
   refine qtl 1 (z0wx1 _) rfl ?_
   refine qtl 2 (z0wx2 _) rfl ?_
   refine qtl 3 (z0wx3 _) rfl ?_
   refine qtl 4 (z0wx4 _) rfl ?_
   refine qtl 5 (z0wx5 _) rfl ?_
   refine qtl 6 (z0wx6 _) rfl ?_
   refine qtl 7 (z0wx7 _) rfl ?_
   refine qtl 8 (z0wx8 _) rfl ?_
   refine qtl 10 (z0wx10 _) rfl ?_
   refine qtl 11 (z0wx11 _) rfl ?_
   refine qtl 12 (z0wx12 _) rfl ?_
   refine qtl 13 (z0wx13 _) rfl ?_
   refine qr1 9 (z0wx9 _) rfl fun K hK => ?_
   unfold z0wx9
   go_simp
   refine (lives_any (HD.out.below (below_drew1 w))).mono ?_
   rintro e wa ⟨rfl, rfl⟩
   go_wp2_with fail
   refine hK.out _ _ hHeld (fun hHeld => ?_)
   clear hK K
   refine qsp ?_
   refine qtl 14 (z0wx14 _) rfl ?_
   refine qtl 15 (z0wx15 _) rfl ?_
   refine qtl 16 (z0wx16 _) rfl ?_
   refine qtl 17 (z0wx17 _) rfl ?_
   refine qtl 18 (z0wx18 _) rfl ?_
   refine qtl 19 (z0wx19 _) rfl ?_
   refine qtl 20 (z0wx20 _) rfl ?_
   refine qr1 21 (z0wx21 _) rfl fun K hK => ?_
   unfold z0wx21
   go_simp
   refine (power_any (HD.out.below (below_drew1 w))).mono ?_
   rintro e wb ⟨rfl, rfl⟩
   go_wp2_with fail
   refine hK.out _ _ hHeld (fun hHeld => ?_)
   clear hK K
   refine qsp ?_
   refine qtl 22 (z0wx22 _) rfl ?_
   refine qtl 23 (z0wx23 _) rfl ?_
   refine qtl 24 (z0wx24 _) rfl ?_
   refine qdn ?_
   go_wp2_with fail
   go_ret
   exact ⟨by simp, 1, rfl⟩
  ·have hlb : (k.lives == sl) = false := by simpa using hl
   rw [hlb]
   have hne : (k.lives != sl) = true := by rw [bne, hlb]; rfl
   clear hl hlb
   go_enter Try.func76, Try.ntmps76
   go_upto_region 1 with (fail)
   refine wp_region_held_drew (S := fun w' => w'.cell? ⟨l, 0, none⟩ = some (.pointer (some ⟨d, 0, none⟩)) ∧ w'.cell? ⟨l, 1, none⟩ = some (.int .i64 sl) ∧ w'.cell? ⟨l, 2, none⟩ = some (.bool false)) (by kernel_rfl) ⟨hc0, hc1, hc2⟩ (fun hHeld => ?_)
   refine qtl 0 (z0wx0 _) rfl ?_
   refine qtl 1 (z0wx1 _) rfl ?_
   refine qtl 2 (z0wx2 _) rfl ?_
   refine qtl 3 (z0wx3 _) rfl ?_
   refine qtl 4 (z0wx4 _) rfl ?_
   refine qtl 5 (z0wx5 _) rfl ?_
   refine qtl 6 (z0wx6 _) rfl ?_
   refine qtl 7 (z0wx7 _) rfl ?_
   refine qtl 8 (z0wx8 _) rfl ?_
   refine qtl 10 (z0wx10 _) rfl ?_
   refine qtl 11 (z0wx11 _) rfl ?_
   refine qtl 12 (z0wx12 _) rfl ?_
   refine qtl 13 (z0wx13 _) rfl ?_
   refine qr1 9 (z0wx9 _) rfl fun K hK => ?_
   unfold z0wx9
   go_simp
   refine (lives_any (HD.out.below (below_drew1 w))).mono ?_
   rintro e wa ⟨rfl, rfl⟩
   go_wp2_with fail
   refine hK.out _ _ hHeld (fun hHeld => ?_)
   clear hK K
   refine qsp ?_
   refine qtl 14 (z0wx14 _) rfl ?_
   refine qtl 15 (z0wx15 _) rfl ?_
   refine qtl 16 (z0wx16 _) rfl ?_
   refine qtu 17 (z0wx17 _) rfl ?_
   refine qtu 18 (z0wx18 _) rfl ?_
   refine qtu 19 (z0wx19 _) rfl ?_
   refine qtu 20 (z0wx20 _) rfl ?_
   refine qtu 21 (z0wx21 _) rfl ?_
   refine qtu 22 (z0wx22 _) rfl ?_
   refine qtl 23 (z0wx23 _) rfl ?_
   refine qtl 24 (z0wx24 _) rfl ?_
   refine qdn ?_
   go_wp2_with fail
   go_ret
   exact ⟨by simp, 1, rfl⟩
/-- an error is noted -/
def chkW (s : Wl) (e : Int) : Wl := { s with done := s.done || !(e == 0) }
theorem WRows.only_l {w' : World} {vr ve : Value} {recs : List (List UInt8)} {cs : Array Value} (h : WRows w A L vr ve recs) (ho : Only [l] w w') (hl : w.heap[l]? = some (.cells cs 99 (0, 0))) (hA : l ∈ A) : WRows w' A L vr ve recs := by
 obtain ⟨⟨us, h1, h2, h3⟩, h4, h5, h6⟩ := h
 refine ⟨⟨us, h1, rows_only0 h2 ho (fun b hb hm => ?_), fun i hi => (h3 i hi).step ho (by simpa using hA) (Ext.refl _ _)⟩, rows_only0 h4 ho (fun b hb hm => ?_), h5, h6⟩
 ·rcases h2.2 with ⟨rfl, _⟩ | ⟨g, cap, cur, rfl, _, hg, _⟩
  ·simp [Value.ownBlock] at hb
  ·simp [Value.ownBlock] at hb
   rw [List.mem_singleton.1 hm] at hb
   subst hb
   rw [hg] at hl; simp at hl
 ·rcases h4.2 with ⟨rfl, _⟩ | ⟨g, cap, cur, rfl, _, hg, _⟩
  ·simp [Value.ownBlock] at hb
  ·simp [Value.ownBlock] at hb
   rw [List.mem_singleton.1 hm] at hb
   subst hb
   rw [hg] at hl; simp at hl
theorem check_any (h : IsWl w A L l d s) (hA : ∀ b ∈ L, b ∈ A) (e0 : Int) : Calls Try.prog 77 #[.pointer (some ⟨l, 0, none⟩), .int .i64 e0] w fun e w' => e = .returned (.int .i64 e0) ∧ IsWl w' A L l d (chkW s e0) ∧ Only L w w' := by
 obtain ⟨⟨vr, ve, h1, h2⟩, h3, h4⟩ := h
 have hc2 : w.cell? ⟨l, 2, none⟩ = some (.bool s.done) := by rw [cell_heap h1]; rfl
 have hz2 := free_heap h1 2
 have hfin : ∀ b : Bool, b = (s.done || !(e0 == 0)) → IsWl (w.setCell ⟨l, 2, none⟩ (.bool b)) A L l d (chkW s e0) ∧ Only L w (w.setCell ⟨l, 2, none⟩ (.bool b)) := by
  intro b hb
  have ho : Only [l] w (w.setCell ⟨l, 2, none⟩ (.bool b)) := (Only.refl _ _).setCell (by simp) _
  refine ⟨⟨⟨vr, ve, ?_, h2.only_l ho h1 (hA _ h3)⟩, h3, fun x hx => Nat.lt_of_lt_of_le (h4 x hx) ho.size⟩, ho.mono (by simpa using h3)⟩
  have := heap_set h1 2 (.bool b)
  rw [hb] at this ⊢
  exact this
 have HF := Lib.hid hfin
 clear h1 h2 h3 h4 hfin
 generalize s.done = dn at *
 cases dn with
 | true =>
  go_enter Try.func77, Try.ntmps77
  go_wp2_with fail
  go_ret
  obtain ⟨f1, f2⟩ := HF.out true (by simp)
  exact ⟨rfl, f1, f2⟩
 | false =>
  by_cases h0 : e0 = 0
  ·have hb : (e0 != 0) = false := by simpa using h0
   have HE : Hid ((e0 == 0) = true) := Lib.hid (by simpa using h0)
   clear h0
   go_enter Try.func77, Try.ntmps77
   go_wp2_with fail
   go_ret
   obtain ⟨f1, f2⟩ := HF.out false (by rw [HE.out]; rfl)
   exact ⟨rfl, f1, f2⟩
  ·have hb : (e0 != 0) = true := by simpa using h0
   have HE : Hid ((e0 == 0) = false) := Lib.hid (by simpa using h0)
   clear h0
   go_enter Try.func77, Try.ntmps77
   go_wp2_with fail
   go_ret
   obtain ⟨f1, f2⟩ := HF.out true (by rw [HE.out]; rfl)
   exact ⟨rfl, f1, f2⟩
theorem endsOf_at (recs : List (List UInt8)) (i : Nat) (hi : i < recs.length) : (endsOf recs).getD i 0 = ((F.frames (recs.take (i + 1))).length : Int) := by
 simp [endsOf, hi]
theorem wend_any (h : IsWl w A L l d s) (n : Nat) (hn : n ≤ s.recs.length) (hb : s.recs.length ≤ 1000000000) : Calls Try.prog 81 #[.pointer (some ⟨l, 0, none⟩), .int .i64 (n : Int)] w fun e w' => e = .returned (.int .i64 ((F.frames (s.recs.take n)).length : Int)) ∧ w = w' := by
 obtain ⟨⟨vr, ve, h1, _, h2, _⟩, _⟩ := h
 by_cases h0 : n = 0
 ·subst h0
  clear h1 h2
  go_enter Try.func81, Try.ntmps81
  go_wp2_with fail
  go_ret
  exact ⟨rfl, rfl⟩
 ·obtain ⟨j, rfl⟩ : ∃ j, n = j + 1 := ⟨n - 1, by omega⟩
  obtain ⟨ao, c, rfl, hi⟩ := h2.isI
  rw [endsOf_len] at hi
  have hat := endsOf_at s.recs j (by omega)
  have hc5 : w.cell? ⟨l, 5, none⟩ = some (.slice ao (endsOf s.recs).length c) := by rw [cell_heap h1]; rfl
  rw [endsOf_len] at hc5
  rcases hi.at_ with h3 | ⟨b, off, rfl, h4⟩
  ·omega
  have hce := h4 j (by omega)
  rw [hat] at hce
  have g0 : (((j + 1 : Nat) : Int) == 0) = false := by rw [beq_eq_false_iff_ne]; omega
  have q1 : IntKind.i64.wrap (((j + 1 : Nat) : Int) - 1) = (j : Int) := by rw [IntWalk.i64_in _ (by omega)]; omega
  have hjl : (j : Int) < (s.recs.length : Int) := by omega
  clear h1 h2 hi h4 hat h0
  generalize (F.frames (s.recs.take (j + 1))).length = fl at *
  generalize s.recs.length = n9 at *
  go_enter Try.func81, Try.ntmps81
  go_wp2_with fail
  go_ret
  exact ⟨rfl, rfl⟩
end
end Go.Proofs.Ytnicaicjgaoolaa
namespace Go.Proofs.Ytnicaicjgaoolaa
open Go.RowKit Go.ChangeMaps Go.WideMaps Go.Maps
set_option maxRecDepth 20000
section
variable (p : String)
def z0xx0 : Oper := ⟨some 24, .move (.tmp 0), 63, p, #[], none⟩
def z0xx1 : Oper := ⟨some 25, .nilCheck (.tmp 24), 0, p, #[⟨0, .data⟩], none⟩
def z0xx2 : Oper := ⟨some 26, .fieldAddr 99 (.tmp 25) 4, 0, p, #[⟨1, .data⟩], none⟩
def z0xx3 : Oper := ⟨some 27, .load 36 (.tmp 26), 36, p, #[⟨2, .data⟩], none⟩
def z0xx4 : Oper := ⟨some 28, .move (.tmp 1), 2, p, #[], none⟩
def z0xx5 : Oper := ⟨some 29, .move (.tmp 0), 63, p, #[], none⟩
def z0xx6 : Oper := ⟨some 30, .nilCheck (.tmp 29), 0, p, #[⟨5, .data⟩], none⟩
def z0xx7 : Oper := ⟨some 31, .fieldAddr 99 (.tmp 30) 3, 0, p, #[⟨6, .data⟩], none⟩
def z0xx8 : Oper := ⟨some 32, .load 2 (.tmp 31), 2, p, #[⟨7, .data⟩], none⟩
def z0xx9 : Oper := ⟨some 33, .binOp BinOp.sub 2 (.tmp 28) (.tmp 32) 2, 2, p, #[⟨4, .data⟩, ⟨8, .data⟩], none⟩
def z0xx10 : Oper := ⟨some 34, .indexAddr 36 (.tmp 27) (.tmp 33), 0, p, #[⟨3, .data⟩, ⟨9, .data⟩], none⟩
def z0xx11 : Oper := ⟨some 35, .load 29 (.tmp 34), 29, p, #[⟨10, .data⟩], none⟩
def z0xx12 : Oper := ⟨some 36, .call { callee := Callee.value (Operand.func 26), args := #[.tmp 35], argTypes := #[29] }, 29, p, #[⟨11, .data⟩], none⟩
def z0xx13 : Oper := ⟨some 4, .assign (.tmp 36), 29, p, #[⟨12, .data⟩, ⟨12, .chain⟩, ⟨0, .phase⟩, ⟨1, .phase⟩, ⟨2, .phase⟩, ⟨3, .phase⟩, ⟨4, .phase⟩, ⟨5, .phase⟩, ⟨6, .phase⟩, ⟨7, .phase⟩, ⟨8, .phase⟩, ⟨9, .phase⟩, ⟨10, .phase⟩, ⟨11, .phase⟩, ⟨12, .phase⟩], none⟩
def z0xx14 : Oper := ⟨some 5, .assign (Operand.const (Value.int IntKind.i64 0)), 43, p, #[⟨13, .chain⟩, ⟨0, .phase⟩, ⟨1, .phase⟩, ⟨2, .phase⟩, ⟨3, .phase⟩, ⟨4, .phase⟩, ⟨5, .phase⟩, ⟨6, .phase⟩, ⟨7, .phase⟩, ⟨8, .phase⟩, ⟨9, .phase⟩, ⟨10, .phase⟩, ⟨11, .phase⟩, ⟨12, .phase⟩, ⟨13, .phase⟩], none⟩
end
attribute [go_sem, reducible] z0xx0 z0xx1 z0xx2 z0xx3 z0xx4 z0xx5 z0xx6 z0xx7 z0xx8 z0xx9 z0xx10 z0xx11 z0xx12 z0xx13 z0xx14
/-- a log and its disk -/
structure WD (w : World) (A D L : List Nat) (l d : Nat) (s : Wl) (k : Dk) : Prop where
 wl : IsWl w A L l d s
 dk : IsDk w D d k
 dis : Dis D L
 dA : ∀ b ∈ D, b ∈ A
 lA : ∀ b ∈ L, b ∈ A
 alt : ∀ b ∈ A, b < w.heap.size
section
variable {w : World} {A D L : List Nat} {l d : Nat} {s : Wl} {k : Dk}
theorem WD.below {w' : World} (h : WD w A D L l d s k) (hb : Below w.heap.size w w') : WD w' A D L l d s k :=
 ⟨h.wl.below hb, h.dk.below hb, h.dis, h.dA, h.lA, fun b hb2 => Nat.lt_of_lt_of_le (h.alt b hb2) hb.size⟩
theorem WD.drewN (h : WD w A D L l d s k) (q : Nat) : WD (w.drewN q) A D L l d s k := h.below ⟨rfl, rfl, rfl, Nat.le_refl _, fun _ _ => rfl⟩
theorem WD.only_L {w' : World} {s' : Wl} (h : WD w A D L l d s k) (hw : IsWl w' A L l d s') (ho : Only L w w') : WD w' A D L l d s' k :=
 ⟨hw, h.dk.keep ho h.dis, h.dis, h.dA, h.lA, fun b hb => Nat.lt_of_lt_of_le (h.alt b hb) ho.size⟩
theorem WD.only_D {w' : World} {k' : Dk} (h : WD w A D L l d s k) (hk : IsDk w' D d k') (ho : Only D w w') : WD w' A D L l d s k' :=
 ⟨h.wl.keep ho h.dis.symm h.dA (Ext.refl _ _), hk, h.dis, h.dA, h.lA, fun b hb => Nat.lt_of_lt_of_le (h.alt b hb) ho.size⟩
def syncW (s : Wl) (k : Dk) : Int × Wl × Dk :=
 if offW s k then (10, chkW s 10, k) else match k.file with | none => (0, s, k) | some (l, _) => (0, chkW s 0, { k with file := some (l, l.length) })
theorem offW_off {s : Wl} {k : Dk} (h : offW s k = false) : k.off = false := by
 unfold offW at h
 simp at h
 exact h.2.2
set_option maxHeartbeats 1000000 in
theorem wsync_any (h : WD w A D L l d s k) : Calls Try.prog 67 #[.pointer (some ⟨l, 0, none⟩)] w fun e w' => e = .returned (.int .i64 (syncW s k).1) ∧ WD w' A D L l d (syncW s k).2.1 (syncW s k).2.2 ∧ Only (D ++ L) w w' := by
 have H := Lib.hid h
 have HOF := Lib.hid (off_any h.wl h.dk)
 have hc0 : w.cell? ⟨l, 0, none⟩ = some (.pointer (some ⟨d, 0, none⟩)) := by
  obtain ⟨⟨vr, ve, h1, _⟩, _⟩ := h.wl
  rw [cell_heap h1]; rfl
 clear h
 unfold syncW
 cases hoff : offW s k with
 | true =>
  rw [hoff] at HOF
  clear hoff
  go_enter Try.func67, Try.ntmps67
  go_wp2_with fail
  refine HOF.out.mono ?_
  rintro e w1 ⟨rfl, q, rfl⟩
  have H1 := Lib.hid (H.out.drewN q)
  have HO1 : Hid (Only (D ++ L) w (w.drewN q)) := Lib.hid ((Only.refl _ _).drewN q)
  generalize w.drewN q = W at *
  go_wp2_with fail
  refine (check_any H1.out.wl H1.out.lA 10).mono ?_
  rintro e w2 ⟨rfl, hw2, ho2⟩
  have H2 := Lib.hid (H1.out.only_L hw2 ho2)
  have HO2 := Lib.hid (HO1.out.trans (ho2.mono (fun b hb => by simp [hb])))
  clear hw2 ho2
  go_wp2_with fail
  go_ret
  exact ⟨rfl, H2.out, HO2.out⟩
 | false =>
  rw [hoff] at HOF
  have HKO := Lib.hid (offW_off hoff)
  clear hoff
  cases hf : k.file with
  | none =>
   have HFL := Lib.hid hf
   clear hf
   go_enter Try.func67, Try.ntmps67
   go_wp2_with fail
   refine HOF.out.mono ?_
   rintro e w1 ⟨rfl, q, rfl⟩
   have H1 := Lib.hid (H.out.drewN q)
   have HO1 : Hid (Only (D ++ L) w (w.drewN q)) := Lib.hid ((Only.refl _ _).drewN q)
   have hc1 : (w.drewN q).cell? ⟨l, 0, none⟩ = some (.pointer (some ⟨d, 0, none⟩)) := hc0
   generalize w.drewN q = W at *
   go_wp2_with fail
   refine (sync_no H1.out.dk HKO.out HFL.out).mono ?_
   rintro e w2 ⟨rfl, hb2⟩
   have H2 := Lib.hid (H1.out.below hb2)
   have HO2 := Lib.hid (HO1.out.trans (Only.ofBelow hb2 (D ++ L)))
   clear hb2
   go_wp2_with fail
   go_ret
   exact ⟨rfl, H2.out, HO2.out⟩
  | some p =>
   obtain ⟨bl, kk⟩ := p
   have HFL := Lib.hid hf
   clear hf
   go_enter Try.func67, Try.ntmps67
   go_wp2_with fail
   refine HOF.out.mono ?_
   rintro e w1 ⟨rfl, q, rfl⟩
   have H1 := Lib.hid (H.out.drewN q)
   have HO1 : Hid (Only (D ++ L) w (w.drewN q)) := Lib.hid ((Only.refl _ _).drewN q)
   have hc1 : (w.drewN q).cell? ⟨l, 0, none⟩ = some (.pointer (some ⟨d, 0, none⟩)) := hc0
   generalize w.drewN q = W at *
   go_wp2_with fail
   refine (sync_yes H1.out.dk HKO.out HFL.out).mono ?_
   rintro e w2 ⟨rfl, hd2, ho2⟩
   have H2 := Lib.hid (H1.out.only_D hd2 ho2)
   have HO2 := Lib.hid (HO1.out.trans (ho2.mono (fun b hb => by simp [hb])))
   clear hd2 ho2
   go_wp2_with fail
   refine (check_any H2.out.wl H2.out.lA 0).mono ?_
   rintro e w3 ⟨rfl, hw3, ho3⟩
   have H3 := Lib.hid (H2.out.only_L hw3 ho3)
   have HO3 := Lib.hid (HO2.out.trans (ho3.mono (fun b hb => by simp [hb])))
   clear hw3 ho3
   go_wp2_with fail
   go_ret
   exact ⟨rfl, H3.out, HO3.out⟩
set_option maxHeartbeats 1000000 in
theorem at_ok (h : WD w A D L l d s k) (hoff : offW s k = false) (n : Nat) (hn : n < s.recs.length) (hb : s.recs.length ≤ 1000000000) (hr : (s.recs.getD n []).length ≤ 1048576) :
  Calls Try.prog 62 #[.pointer (some ⟨l, 0, none⟩), .int .i64 ((n : Int) + 1)] w fun e w' => ∃ v, e = .returned (.tuple #[v, .int .i64 0]) ∧ OwnB w' w.heap.size 5 v (s.recs.getD n []) ∧ Below w.heap.size w w' := by
 have H := Lib.hid h
 have HOF := Lib.hid (off_any h.wl h.dk)
 rw [hoff] at HOF
 obtain ⟨⟨vr, ve, h1, ⟨us, hu, hru, him⟩, _⟩, _⟩ := h.wl
 obtain ⟨ao, c, e1, hi, _, _⟩ := him n hn
 have hgu := hru
 rcases hru.2 with ⟨_, h0⟩ | ⟨g, cap, cur, rfl, _, hg, hgn, hgm, hgs, hgt⟩
 ·omega
 have hcell : w.cell? ⟨g, n, none⟩ = some (.slice ao (s.recs.getD n []).length c) := by
  have := World.ownsRow.cellAt hgu n (by omega)
  rw [this, ← e1]
  have hun : n < us.length := by omega
  simp [List.getD, hun]
 have hc4 : w.cell? ⟨l, 4, none⟩ = some (.slice (some ⟨g, 0, none⟩) s.recs.length cap) := by rw [cell_heap h1]; rfl
 have hc3 : w.cell? ⟨l, 3, none⟩ = some (.int .i64 1) := by rw [cell_heap h1]; rfl
 have HNX := Lib.hid (fun q => next_any (h.wl.below (w' := w.drewN q) ⟨rfl, rfl, rfl, Nat.le_refl _, fun _ _ => rfl⟩) hb)
 have HI := Lib.hid hi
 have g1 : decide ((n : Int) + 1 < 1) = false := decide_eq_false (by omega)
 have g2 : decide (1 + (s.recs.length : Int) ≤ (n : Int) + 1) = false := decide_eq_false (by omega)
 have q1 : IntKind.i64.wrap (n : Int) = (n : Int) := IntWalk.i64_in _ (by omega)
 have hni : (n : Int) < (s.recs.length : Int) := by omega
 have HFIN : Hid (s.recs.getD n [] = s.recs.getD n []) := Lib.hid rfl
 clear h h1 hu hru him hgu hg hgs hgt hgn hgm e1 hi hoff HFIN
 generalize s.recs.getD n [] = rl at *
 generalize s.recs.length = N at *
 go_enter Try.func62, Try.ntmps62
 go_wp2_with fail
 refine HOF.out.mono ?_
 rintro e w1 ⟨rfl, q, rfl⟩
 go_wp2_with fail
 refine (HNX.out q).mono ?_
 rintro e w2 ⟨rfl, q2, rfl⟩
 go_upto_region 5 with (fail)
 have HBW : Hid (Below w.heap.size w (w.drewN (q + q2))) := Lib.hid ⟨rfl, rfl, rfl, Nat.le_refl _, fun _ _ => rfl⟩
 have hk4 : (w.drewN (q + q2)).cell? ⟨l, 4, none⟩ = some (.slice (some ⟨g, 0, none⟩) N cap) := hc4
 have hk3 : (w.drewN (q + q2)).cell? ⟨l, 3, none⟩ = some (.int .i64 1) := hc3
 have hkg : (w.drewN (q + q2)).cell? ⟨g, n, none⟩ = some (.slice ao rl.length c) := hcell
 have HI2 : Hid (IsB (w.drewN (q + q2)) ao rl.length c rl) := Lib.hid (HI.out.below HBW.out)
 clear hc4 hc3 hcell HI
 generalize (w.drewN (q + q2)) = W at *
 have hr4 : ∀ w', Below W.heap.size W w' → w'.cell? ⟨l, 4, none⟩ = some (.slice (some ⟨g, 0, none⟩) N cap) := fun w' hb => cell_later hb hk4
 have hr3 : ∀ w', Below W.heap.size W w' → w'.cell? ⟨l, 3, none⟩ = some (.int .i64 1) := fun w' hb => cell_later hb hk3
 have hrg : ∀ w', Below W.heap.size W w' → w'.cell? ⟨g, n, none⟩ = some (.slice ao rl.length c) := fun w' hb => cell_later hb hkg
 have HI : Hid (∀ w', Below W.heap.size W w' → IsB w' ao rl.length c rl) := Lib.hid fun w' hb => HI2.out.below hb
 clear hk4 hk3 hkg
 refine wp_region_held_drew (S := fun w' => Below W.heap.size W w') (by kernel_rfl) (below_drew1 W) (fun hHeld => ?_)
 refine qtl 0 (z0xx0 _) rfl ?_
 refine qtl 1 (z0xx1 _) rfl ?_
 refine qtl 2 (z0xx2 _) rfl ?_
 refine qtl 3 (z0xx3 _) rfl ?_
 refine qtl 4 (z0xx4 _) rfl ?_
 refine qtl 5 (z0xx5 _) rfl ?_
 refine qtl 6 (z0xx6 _) rfl ?_
 refine qtl 7 (z0xx7 _) rfl ?_
 refine qtl 8 (z0xx8 _) rfl ?_
 refine qtl 9 (z0xx9 _) rfl ?_
 refine qtl 10 (z0xx10 _) rfl ?_
 refine qtl 11 (z0xx11 _) rfl ?_
 refine qr1 12 (z0xx12 _) rfl fun K hK => ?_
 unfold z0xx12
 go_simp
 refine (F.clone_any ao rl.length c rl _ (HI.out _ (by exact below_drew1 W)) (by omega)).mono ?_
 rintro e w5 ⟨v5, rfl, ho5, hb5⟩
 have HB5 := Lib.hid ((below_drew1 W).trans hb5)
 have HO5 := Lib.hid ho5
 have hh5 : Below W.heap.size W w5 := (below_drew1 W).trans hb5
 clear ho5 hb5
 go_wp2_with fail
 refine hK.out _ _ hh5 (fun hHeld => ?_)
 clear hK K
 refine qsp ?_
 clear hh5
 refine qtl 13 (z0xx13 _) rfl ?_
 refine qtl 14 (z0xx14 _) rfl ?_
 refine qdn ?_
 go_wp2_with fail
 go_ret2
 exact ⟨v5, rfl, HO5.out.mono (show w.heap.size ≤ W.drew.heap.size from HBW.out.size), HBW.out.trans (HB5.out.mono HBW.out.size)⟩
end
end Go.Proofs.Ytnicaicjgaoolaa
