/-
  What the proof of the law leans on: contracts of the program's functions, one behind another. No condition.
-/
import Derived.Laws.IdiomRangeMap
import Derived.Deep.AppendLies
import Derived.Laws.OwnMore
import Derived.OrdersHeld
import Derived.WalkKit
import Derived.Deep.RegionHeld
import Derived.Test.YtnicaicjgaoolaaS2
import Derived.Test.YtnicaicjgaoolaaS1
set_option linter.unusedVariables false
set_option linter.unusedSimpArgs false
namespace Go.Proofs.Ytnicaicjgaoolaa
open Go.RowKit Go.ChangeMaps Go.WideMaps Go.Maps
set_option maxRecDepth 20000
structure Dk where
 room : Int
 off : Bool
 lives : Int
 file : Option (List UInt8 × Nat)
def Dk.total (s : Dk) : Nat := match s.file with | none => 0 | some (l, _) => l.length
def IsFile (w : World) (D : List Nat) (mb : Nat) : Option (List UInt8 × Nat) → Prop
 | none => ∃ c, w.heap[mb]? = some (.map #[] c)
 | some (l, safe) => ∃ c fb b0 v, w.heap[mb]? = some (.map #[⟨.string logA, .pointer (some ⟨fb, 0, none⟩), b0⟩] c) ∧ b0 < c ∧ fb ∈ D ∧ w.heap[fb]? = some (.cells #[v, .int .i64 (safe : Int)] 86 (0, 0)) ∧ OwnB w 0 5 v l ∧ ∀ k, v.ownBlock = some k → k ∈ D
structure IsDk (w : World) (D : List Nat) (d : Nat) (s : Dk) : Prop where
 ex : ∃ mb, w.heap[d]? = some (.cells #[.int .i64 s.room, .bool s.off, .int .i64 s.lives, .map (some mb)] 79 (0, 0)) ∧ mb ∈ D ∧ IsFile w D mb s.file
 mem : d ∈ D
 lt : ∀ b ∈ D, b < w.heap.size
/-- what a call may turn: blocks of D; what it has then: those, and new ones -/
structure Moves (D D' : List Nat) (w w' : World) : Prop where
 only : Only D w w'
 gr : ∀ b ∈ D', b ∈ D ∨ w.heap.size ≤ b
 sub : ∀ b ∈ D, b ∈ D'
theorem Moves.refl (D : List Nat) (w : World) : Moves D D w w := ⟨Only.refl _ _, fun b h => .inl h, fun b h => h⟩
theorem Moves.trans {D D' D'' : List Nat} {w w' w'' : World} (h : Moves D D' w w') (k : Moves D' D'' w' w'') : Moves D D'' w w'' :=
 ⟨⟨k.only.os.trans h.only.os, k.only.tape.trans h.only.tape, k.only.output.trans h.only.output, Nat.le_trans h.only.size k.only.size, fun i hi hs => by
  refine (k.only.block i (Nat.lt_of_lt_of_le hi h.only.size) (fun hm => ?_)).trans (h.only.block i hi hs)
  rcases h.gr i hm with h1 | h1
  ·exact hs h1
  ·omega⟩, fun b hb => by
  rcases k.gr b hb with h1 | h1
  ·exact h.gr b h1
  ·exact .inr (Nat.le_trans h.only.size h1), fun b hb => k.sub b (h.sub b hb)⟩
theorem Moves.of_only {D : List Nat} {w w' : World} (h : Only D w w') : Moves D D w w' := ⟨h, fun b h => .inl h, fun b h => h⟩
theorem Moves.of_below {D : List Nat} {w w' : World} (h : Below w.heap.size w w') : Moves D D w w' := Moves.of_only (Only.ofBelow h D)
theorem heap_below3 {w w' : World} {B j : Nat} {o : Obj} (hb : Below B w w') (hj : j < B) (h : w.heap[j]? = some o) : w'.heap[j]? = some o := (hb.block j hj).trans h
theorem isB_avoid {w w' : World} {S : List Nat} {ao : Option Addr} {n c : Nat} {l : List UInt8} (h : IsB w ao n c l) (ho : Only S w w') (hS : ∀ b off (i : Nat), ao = some ⟨b, off, none⟩ ∧ i < n → b ∉ S) : IsB w' ao n c l := by
 obtain ⟨h1, h2, h3⟩ := h
 refine ⟨h1, h2, ?_⟩
 rcases h3 with h3 | ⟨b, off, h4, h5⟩
 ·exact .inl h3
 ·refine .inr ⟨b, off, h4, fun i hi => ?_⟩
  have hc := h5 i hi
  have hlt : b < w.heap.size := by
   unfold World.cell? at hc
   simp only at hc
   cases hq : w.heap[b]? with
   | none => rw [hq] at hc; simp at hc
   | some o => exact lt_of_heap hq
  rw [World.cell?_of_block (ho.block b hlt (hS b off i ⟨h4, hi⟩))]
  exact hc
theorem isB_notmap {w : World} {b off i n c : Nat} {ao : Option Addr} {l : List UInt8} {es : Array MapEntry} {q : Nat} (h : IsB w ao n c l) (hb : ao = some ⟨b, off, none⟩ ∧ i < n) (hm : w.heap[b]? = some (.map es q)) : False := by
 obtain ⟨rfl, hi⟩ := hb
 rcases h.at_ with h3 | ⟨b', off', h4, h5⟩
 ·omega
 ·cases h4
  have hc := h5 i hi
  unfold World.cell? at hc
  simp [hm] at hc
theorem rows_only0 {w w' : World} {base : Nat} {e : TypeId} {k : Nat} {v : Value} {n : Nat} {xs : List Value} {S : List Nat} (h : w.ownsRow base e k v n xs) (ho : Only S w w') (hs : ∀ b, v.ownBlock = some b → b ∉ S) : w'.ownsRow base e k v n xs := by
 refine ⟨h.1, ?_⟩
 rcases h.2 with h2 | ⟨g, cap, cur, rfl, hg, hh, r⟩
 ·exact .inl h2
 ·exact .inr ⟨g, cap, cur, rfl, hg, ho.keeps hh (hs g rfl), r⟩
theorem IsFile.keep {w w' : World} {D S : List Nat} {mb : Nat} {f : Option (List UInt8 × Nat)} (h : IsFile w D mb f) (ho : Only S w w') (hm : mb ∈ D) (hS : ∀ b ∈ D, b ∉ S) : IsFile w' D mb f := by
 cases f with
 | none =>
  obtain ⟨c, h1⟩ := h
  exact ⟨c, ho.keeps h1 (hS _ hm)⟩
 | some p =>
  obtain ⟨l, safe⟩ := p
  obtain ⟨c, fb, b0, v, h1, h2, h3, h4, h5, h6⟩ := h
  exact ⟨c, fb, b0, v, ho.keeps h1 (hS _ hm), h2, h3, ho.keeps h4 (hS _ h3), rows_only0 h5 ho (fun b hb => hS _ (h6 b hb)), h6⟩
theorem IsDk.keep {w w' : World} {D S : List Nat} {d : Nat} {s : Dk} (h : IsDk w D d s) (ho : Only S w w') (hS : ∀ b ∈ D, b ∉ S) : IsDk w' D d s := by
 obtain ⟨⟨mb, h1, h2, h3⟩, h4, h5⟩ := h
 exact ⟨⟨mb, ho.keeps h1 (hS _ h4), h2, h3.keep ho h2 hS⟩, h4, fun b hb => Nat.lt_of_lt_of_le (h5 b hb) ho.size⟩
theorem IsDk.below {w w' : World} {D : List Nat} {d : Nat} {s : Dk} (h : IsDk w D d s) (hb : Below w.heap.size w w') : IsDk w' D d s := h.keep (Only.ofBelow hb []) (fun b _ => by simp)
section
variable {w : World} {D : List Nat} {d : Nat} {s : Dk}
theorem power_any (h : IsDk w D d s) : Calls Try.prog 32 #[.pointer (some ⟨d, 0, none⟩)] w fun e w' => e = .returned (.bool (!s.off)) ∧ w = w' := by
 obtain ⟨⟨mb, h1, _⟩, _⟩ := h
 have hc : w.cell? ⟨d, 1, none⟩ = some (.bool s.off) := by rw [cell_heap h1]; rfl
 clear h1
 go_enter Try.func32, Try.ntmps32
 go_wp2_with fail
 go_ret
 exact ⟨rfl, rfl⟩
theorem lives_any (h : IsDk w D d s) : Calls Try.prog 33 #[.pointer (some ⟨d, 0, none⟩)] w fun e w' => e = .returned (.int .i64 s.lives) ∧ w = w' := by
 obtain ⟨⟨mb, h1, _⟩, _⟩ := h
 have hc : w.cell? ⟨d, 2, none⟩ = some (.int .i64 s.lives) := by rw [cell_heap h1]; rfl
 clear h1
 go_enter Try.func33, Try.ntmps33
 go_wp2_with fail
 go_ret
 exact ⟨rfl, rfl⟩
theorem may_off (h : IsDk w D d s) (ho : s.off = true) (ao : Option Addr) (n c : Nat) : Calls Try.prog 85 #[.pointer (some ⟨d, 0, none⟩), .slice ao n c] w fun e w' => e = .returned (.int .i64 10) ∧ w = w' := by
 obtain ⟨⟨mb, h1, _⟩, _⟩ := h
 have hc : w.cell? ⟨d, 1, none⟩ = some (.bool true) := by rw [cell_heap h1, ho]; rfl
 clear h1
 go_enter Try.func85, Try.ntmps85
 go_wp2_with fail
 go_ret
 exact ⟨rfl, rfl⟩
theorem may_on (h : IsDk w D d s) (ho : s.off = false) (H : Nat) (t : ByteArray) (hH : w.cell? ⟨H, 0, none⟩ = some (.string t)) (ht : GoodN t) : Calls Try.prog 85 #[.pointer (some ⟨d, 0, none⟩), .slice (some ⟨H, 0, none⟩) 1 1] w fun e w' => e = .returned (.int .i64 0) ∧ w = w' := by
 obtain ⟨⟨mb, h1, _⟩, _⟩ := h
 have hc : w.cell? ⟨d, 1, none⟩ = some (.bool false) := by rw [cell_heap h1, ho]; rfl
 have HG := Lib.hid (good_any t w ht)
 clear h1
 go_enter Try.func85, Try.ntmps85
 go_wp2_with fail
 go_loopw [6, 13] (fun _ i wr => wr = w ∧ ∃ k : Nat, k ≤ 1 ∧ i = .int .i64 (k : Int)) (fun _ i _ => 1 - (intOf i).toNat)
 case atStart => exact ⟨rfl, 0, by omega, rfl⟩
 case round =>
  obtain ⟨rfl, k, hk, rfl⟩ := hrel
  by_cases h0 : k = 0
  ·subst h0
   go_wp2_with fail
   refine HG.out.mono ?_
   rintro e w1 ⟨rfl, rfl⟩
   go_wp2_with fail
   go_roundw
   case rel => exact ⟨trivial, 1, by omega, rfl⟩
   case measure => simp [intOf]
  ·obtain rfl : k = 1 := by omega
   go_wp2_with fail
   go_ret
   exact ⟨rfl, rfl⟩
theorem find_off (h : IsDk w D d s) (ho : s.off = true) (t : ByteArray) : Calls Try.prog 74 #[.pointer (some ⟨d, 0, none⟩), .string t] w fun e w' => e = .returned (.tuple #[.pointer none, .int .i64 10]) ∧ Below w.heap.size w w' := by
 have hb : Below w.heap.size w (w.alloc (.cells #[.string t] 9)) := (Below.refl _ _).alloc (Nat.le_refl _) _
 have HM := Lib.hid (fun ao n c => may_off (h.below hb) ho ao n c)
 have HB := Lib.hid hb
 clear h hb
 go_enter Try.func74, Try.ntmps74
 go_wp2_with fail
 refine (HM.out _ _ _).mono ?_
 rintro e w1 ⟨rfl, rfl⟩
 go_wp2_with fail
 go_ret2
 exact ⟨rfl, HB.out⟩
/-- no such file -/
theorem find_none {mb : Nat} (h : IsDk w D d s) (ho : s.off = false) (t : ByteArray) (ht : GoodN t) (h1 : w.cell? ⟨d, 3, none⟩ = some (.map (some mb))) (hl : ∀ w', Below w.heap.size w w' → (Instr.lookup 77 (.map (some mb)) (.string t) false).run Try.prog w' = .ok (.pointer none) w') :
  Calls Try.prog 74 #[.pointer (some ⟨d, 0, none⟩), .string t] w fun e w' => e = .returned (.tuple #[.pointer none, .int .i64 4]) ∧ Below w.heap.size w w' := by
 have hb : Below w.heap.size w (w.alloc (.cells #[.string t] 9)) := (Below.refl _ _).alloc (Nat.le_refl _) _
 have HM := Lib.hid (may_on (h.below hb) ho w.heap.size t (by rw [cell_heap (heap_new _ _)]; rfl) ht)
 have HB := Lib.hid hb
 have hl1 := hl _ hb
 have h3 := cell_later hb h1
 clear h hb hl h1
 go_enter Try.func74, Try.ntmps74
 go_wp2_with fail
 refine HM.out.mono ?_
 rintro e w1 ⟨rfl, rfl⟩
 go_wp2_with fail
 go_ret2
 exact ⟨rfl, HB.out⟩
theorem find_some {mb fb : Nat} (h : IsDk w D d s) (ho : s.off = false) (t : ByteArray) (ht : GoodN t) (h1 : w.cell? ⟨d, 3, none⟩ = some (.map (some mb))) (hl : ∀ w', Below w.heap.size w w' → (Instr.lookup 77 (.map (some mb)) (.string t) false).run Try.prog w' = .ok (.pointer (some ⟨fb, 0, none⟩)) w') :
  Calls Try.prog 74 #[.pointer (some ⟨d, 0, none⟩), .string t] w fun e w' => e = .returned (.tuple #[.pointer (some ⟨fb, 0, none⟩), .int .i64 0]) ∧ Below w.heap.size w w' := by
 have hb : Below w.heap.size w (w.alloc (.cells #[.string t] 9)) := (Below.refl _ _).alloc (Nat.le_refl _) _
 have HM := Lib.hid (may_on (h.below hb) ho w.heap.size t (by rw [cell_heap (heap_new _ _)]; rfl) ht)
 have HB := Lib.hid hb
 have hl1 := hl _ hb
 have h3 := cell_later hb h1
 clear h hb hl h1
 go_enter Try.func74, Try.ntmps74
 go_wp2_with fail
 refine HM.out.mono ?_
 rintro e w1 ⟨rfl, rfl⟩
 go_wp2_with fail
 go_ret2
 exact ⟨rfl, HB.out⟩
end
end Go.Proofs.Ytnicaicjgaoolaa
namespace Go.Proofs.Ytnicaicjgaoolaa
open Go.RowKit Go.ChangeMaps Go.WideMaps Go.Maps
set_option maxRecDepth 20000
theorem setBlock_at (w : World) (r : Nat) (o : Obj) (h : r < w.heap.size) : (setBlock w r o).heap[r]? = some o := by
 unfold setBlock
 simp [h]
theorem setBlock_only (w : World) (r : Nat) (o : Obj) : Only [r] w (setBlock w r o) := by
 refine ⟨rfl, rfl, rfl, by simp [setBlock], fun k _ hk => ?_⟩
 unfold setBlock
 simp only
 rw [Array.getElem?_setIfInBounds_ne (by simp at hk; omega)]
/-- is the entry still to come -/
def leftI (w : World) (r : Nat) : Nat := match w.heap[r]? with | some (.mapIter _ _ seen _) => if seen.size = 0 then 1 else 0 | _ => 0
theorem leftI_block {w w' : World} {r : Nat} (h : w'.heap[r]? = w.heap[r]?) : leftI w' r = leftI w r := by unfold leftI; rw [h]
/-- the iterator, before and behind the only entry -/
structure Iter1 (w w1 w2 : World) (mb c : Nat) (e : MapEntry) : Prop where
 range : (Instr.range 77 (.map (some mb))).run Try.prog w = .ok (.pointer (some ⟨w.heap.size, 0, none⟩)) w1
 next : ∀ ty, (Instr.next (.pointer (some ⟨w.heap.size, 0, none⟩)) false ty).run Try.prog w1 = .ok (.tuple #[.bool true, e.key, e.val]) w2
 entry : (Instr.entry (.pointer (some ⟨w.heap.size, 0, none⟩))).run Try.prog w2 = .ok (.tuple #[e.key, e.val]) w2
 done : ∀ ty w3, w3.heap[w.heap.size]? = w2.heap[w.heap.size]? → w3.heap[mb]? = w2.heap[mb]? → (Instr.next (.pointer (some ⟨w.heap.size, 0, none⟩)) false ty).run Try.prog w3 = .ok (.tuple #[.bool false]) w3
 b1 : Below w.heap.size w w1
 b2 : Below w.heap.size w w2
 sz : w2.heap.size = w.heap.size + 1
 l1 : leftI w1 w.heap.size = 1
 l2 : leftI w2 w.heap.size = 0
theorem iter1 {w : World} {mb c : Nat} {e : MapEntry} (h : w.heap[mb]? = some (.map #[e] c)) (he : e.born < c) : ∃ w1 w2, Iter1 w w1 w2 mb c e := by
 have hlt := lt_of_heap h
 have hn := heap_new w (.mapIter (some mb) c #[] c)
 have hb1 : (w.alloc (.mapIter (some mb) c #[] c)).heap[mb]? = some (.map #[e] c) := heap_old h _
 have hsz : (w.alloc (.mapIter (some mb) c #[] c)).heap.size = w.heap.size + 1 := by simp
 have ho := setBlock_only (w.alloc (.mapIter (some mb) c #[] c)) w.heap.size (.mapIter (some mb) c #[e.born] c)
 have hb2 := ho.keeps hb1 (by simp; omega)
 have hr2 := setBlock_at (w.alloc (.mapIter (some mb) c #[] c)) w.heap.size (.mapIter (some mb) c #[e.born] c) (by rw [hsz]; omega)
 have hB1 : Below w.heap.size w (w.alloc (.mapIter (some mb) c #[] c)) := (Below.refl _ _).alloc (Nat.le_refl _) _
 refine ⟨_, _, run_range_map w 77 9 84 mb #[e] c Try.underlying77 h, fun ty => next_one hn hb1 he, entry_one hr2 hb2, fun ty w3 hb hm => ?_, hB1, hB1.trans (ho.below (by rw [hsz]; omega) (by simp)), by simp [setBlock], by unfold leftI; rw [hn]; rfl, by unfold leftI; rw [hr2]; rfl⟩
 have hr3 : w3.heap[w.heap.size]? = some (.mapIter (some mb) c #[e.born] c) := hb.trans hr2
 exact next_end hr3 (hm.trans hb2) he
theorem own_size {w : World} {base : Nat} {e : TypeId} {v : Value} {l : List UInt8} (h : OwnB w base e v l) : l.length ≤ 9223372036854775807 := by
 rcases h.2 with ⟨_, h0⟩ | ⟨g, cap, cur, _, _, _, hn, hm, _⟩
 ·have : l.length = 0 := by simpa using h0
  omega
 ·unfold maxLen at hm
  omega
section
variable {w : World} {D : List Nat} {d : Nat} {s : Dk}
set_option maxHeartbeats 400000 in
theorem total_any (h : IsDk w D d s) : Calls Try.prog 89 #[.pointer (some ⟨d, 0, none⟩)] w fun e w' => e = .returned (.int .i64 (s.total : Int)) ∧ Below w.heap.size w w' := by
 obtain ⟨⟨mb, h1, _, hf⟩, _⟩ := h
 have hc : w.cell? ⟨d, 3, none⟩ = some (.map (some mb)) := by rw [cell_heap h1]; rfl
 cases hfile : s.file with
 | none =>
  have ht : s.total = 0 := by unfold Dk.total; rw [hfile]
  rw [hfile] at hf
  obtain ⟨c, hm⟩ := hf
  have hr := run_range_map (P := Try.prog) w 77 9 84 mb #[] c Try.underlying77 hm
  have hn : ∀ ty, (Instr.next (.pointer (some ⟨w.heap.size, 0, none⟩)) false ty).run Try.prog (w.alloc (.mapIter (some mb) c #[] c)) = .ok (.tuple #[.bool false]) (w.alloc (.mapIter (some mb) c #[] c)) := fun ty => next_no (heap_new w _) (heap_old hm _)
  have HB : Hid (Below w.heap.size w (w.alloc (.mapIter (some mb) c #[] c))) := Lib.hid ((Below.refl _ _).alloc (Nat.le_refl _) _)
  rw [ht]
  clear h1 hm ht hfile
  generalize (w.alloc (.mapIter (some mb) c #[] c)) = w1 at *
  go_enter Try.func89, Try.ntmps89
  go_wp2_with fail
  go_loopw [3, 5] (fun v _ wr => wr = w1 ∧ v = .int .i64 0) (fun _ _ _ => 0)
  case atStart => exact ⟨rfl, rfl⟩
  case round =>
   obtain ⟨rfl, rfl⟩ := hrel
   go_wp2_with fail
   go_ret
   exact ⟨rfl, HB.out⟩
 | some p =>
  obtain ⟨l, safe⟩ := p
  have ht : s.total = l.length := by unfold Dk.total; rw [hfile]
  rw [hfile] at hf
  obtain ⟨c, fb, b0, v, hm, hb0, _, h4, h5, _⟩ := hf
  obtain ⟨w1, w2, hI⟩ := iter1 hm hb0
  have hlen := own_size h5
  obtain ⟨ao, cp, rfl, _⟩ := h5.isB
  have hr := hI.range
  have hn := hI.next
  have he := hI.entry
  have hd : ∀ ty, (Instr.next (.pointer (some ⟨w.heap.size, 0, none⟩)) false ty).run Try.prog w2 = .ok (.tuple #[.bool false]) w2 := fun ty => hI.done ty w2 rfl rfl
  have hc0 : w2.cell? ⟨fb, 0, none⟩ = some (.slice ao l.length cp) := by rw [cell_heap (heap_below3 hI.b2 (lt_of_heap h4) h4)]; rfl
  have HB := Lib.hid hI.b2
  rw [ht]
  have HL := Lib.hid (And.intro hI.l1 hI.l2)
  clear h1 hm ht hfile h4 h5 hI
  simp only at hn he
  go_enter Try.func89, Try.ntmps89
  go_wp2_with fail
  go_loopw [3, 5] (fun v _ wr => (wr = w1 ∧ v = .int .i64 0) ∨ (wr = w2 ∧ v = .int .i64 (l.length : Int))) (fun _ _ wr => leftI wr w.heap.size)
  case atStart => exact .inl ⟨rfl, rfl⟩
  case round =>
   rcases hrel with ⟨rfl, rfl⟩ | ⟨rfl, rfl⟩
   ·clear hd
    go_wp2_with fail
    go_roundw
    case rel => exact .inr ⟨trivial, by go_num⟩
    case measure => rw [HL.out.1, HL.out.2]; omega
   ·clear hn
    go_wp2_with fail
    go_ret
    exact ⟨rfl, HB.out⟩
end
end Go.Proofs.Ytnicaicjgaoolaa
namespace Go.Proofs.Ytnicaicjgaoolaa
open Go.RowKit
/-- what is appended can be read -/
def Src (w : World) (ao : Option Addr) (m : Nat) (news : List Value) : Prop := (ao = none ∧ m = 0) ∨ ∃ ad, ao = some ad ∧ ∀ j u, news[j]? = some u → w.cell? (ad.add j) = some u
theorem grown_only {w w' : World} {v : Value} (h : w.grownBy w' v.ownBlock) : Only v.ownBlock.toList w w' :=
 ⟨h.os, h.tape, h.output, h.size, fun k hk hn => h.block k hk (fun e => hn (by rw [← e]; simp))⟩
theorem rows_form {w : World} {base n : Nat} {e : TypeId} {size : Nat} {v : Value} {xs : List Value} (h : w.ownsRow base e size v n xs) : ∃ ao c, v = .slice ao n c ∧ n ≤ c ∧ c ≤ 9223372036854775807 := by
 rcases h.2 with ⟨rfl, h0⟩ | ⟨g, cap, cur, rfl, _, _, hn, hm, _⟩
 ·exact ⟨none, 0, by rw [h0], by omega, by decide⟩
 ·unfold maxLen at hm
  exact ⟨_, cap, rfl, hn, by omega⟩
section
variable {P : Program} {w : World}
theorem run_append_foot (t ty e : TypeId) (i : TypeInfo) (z : Value) (size bytes : Nat) (ht : P.underlying t = some (.slice e)) (hi : P.info? e = some i) (hz : i.zero = some z)
  (hsize : i.size = size) (hby : i.bytes = bytes) (hzs : z.cells.size = size) (hsz : 0 < size)
  (v : Value) (n : Nat) (xs : List Value) (hown : w.ownsRow 0 e size v n xs)
  (ao : Option Addr) (m c : Nat) (hnil : ao = none → c = 0) (news : List Value) (hl : news.length = m * size) (hsrc : Src w ao m news) (h1 : ∀ u ∈ news, u.oneCell' = true)
  (h63 : n + m ≤ maxLen) (hbytes : (n + m) * bytes ≤ 140737488355328) :
  ∃ v' w', (Builtin.append_ #[t, t] ty #[v, .slice ao m c]).run P w = .ok v' w' ∧ w'.ownsRow 0 e size v' (n + m) (xs ++ news) ∧ Only v.ownBlock.toList w w' ∧
   (∀ k, v'.ownBlock = some k → v.ownBlock = some k ∨ w.heap.size ≤ k) := by
 rcases hsrc with ⟨rfl, rfl⟩ | ⟨ad, rfl, hnews⟩
 ·obtain rfl : c = 0 := hnil rfl
  obtain rfl : news = [] := List.length_eq_zero_iff.1 (by simpa using hl)
  exact ⟨v, w, run_append_owned_none (P := P) (w := w) 0 t ty e i size ht hi v n xs hown, by simpa using hown, Only.refl _ _, fun k hk => .inl hk⟩
 ·obtain ⟨v', w', hr, h2, h3, _, h5⟩ := run_append_own_at (P := P) w 0 t ty e i z size bytes ht hi hz hsize hby hzs hsz v n xs hown ad m c news hl hnews h1 h63 hbytes (Nat.zero_le _)
  refine ⟨v', w', hr, h2, grown_only h3, fun k hk => ?_⟩
  rcases h5 with h5 | h5
  ·exact .inl (by rw [← h5]; exact hk)
  ·right
   rw [h5] at hk
   cases hk
   exact Nat.le_refl _
theorem wpList_append_foot {ops : Array Oper} {rest : List Oper} {o : Oper} {a : Act} {Q : Exit → Act → World → Prop} (hgd : o.guard = none) (s x : Operand) (t : TypeId)
  (ho : o.op = .call { callee := .builtin .append, args := #[s, x], argTypes := #[t, t] })
  (e : TypeId) (i : TypeInfo) (z : Value) (size bytes : Nat) (ht : P.underlying t = some (.slice e)) (hi : P.info? e = some i) (hz : i.zero = some z)
  (hsize : i.size = size) (hby : i.bytes = bytes) (hzs : z.cells.size = size) (hsz : 0 < size)
  (v : Value) (n : Nat) (xs : List Value) (hs : a.eval s = v) (hown : w.ownsRow 0 e size v n xs)
  (ao : Option Addr) (m c : Nat) (hx : a.eval x = .slice ao m c) (hnil : ao = none → c = 0) (news : List Value) (hl : news.length = m * size) (hsrc : Src w ao m news) (h1 : ∀ u ∈ news, u.oneCell' = true)
  (h63 : n + m ≤ maxLen) (hbytes : (n + m) * bytes ≤ 140737488355328)
  (h : ∀ v' w', w'.ownsRow 0 e size v' (n + m) (xs ++ news) → Only v.ownBlock.toList w w' → (∀ k, v'.ownBlock = some k → v.ownBlock = some k ∨ w.heap.size ≤ k) → wpList P ops Q rest (a.put o.dst v') w') : wpList P ops Q (o :: rest) a w := by
 obtain ⟨v', w', hr, h2, h3, h4⟩ := run_append_foot (w := w) t o.type e i z size bytes ht hi hz hsize hby hzs hsz v n xs hown ao m c hnil news hl hsrc h1 h63 hbytes
 refine wpList_plain hgd fun K hK => ?_
 unfold Oper.wp
 simp [execOp, ho, resolve, invoke, builtin, hs, hx, hr, Result.andThen]
 exact hK _ _ (h v' w' h2 h3 h4)
theorem IsB.src {ao : Option Addr} {m c : Nat} {l : List UInt8} (h : IsB w ao m c l) : Src w ao m (l.map bv) := by
 obtain ⟨h1, h2, h3⟩ := h
 cases ao with
 | none => exact .inl ⟨rfl, (h2 rfl).1⟩
 | some ad =>
  refine .inr ⟨ad, rfl, fun j u hj => ?_⟩
  rcases h3 with h3 | ⟨b, off, h4, h5⟩
  ·subst h3
   obtain rfl : l = [] := List.length_eq_zero_iff.1 h1
   simp at hj
  ·obtain rfl : ad = ⟨b, off, none⟩ := by simpa using h4
   have hjl : j < l.length := by
    rcases Nat.lt_or_ge j l.length with hlt | hge
    ·exact hlt
    ·simp [List.getElem?_eq_none hge] at hj
   have := h5 j (by omega)
   rw [Addr.add_lit, this]
   simp [hjl] at hj
   simp [← hj, hjl, bv]
/-- APPEND of bytes -/
theorem wpList_append_bf {ops : Array Oper} {rest : List Oper} {o : Oper} {a : Act} {Q : Exit → Act → World → Prop} (hgd : o.guard = none) (s x : Operand) (t : TypeId)
  (ho : o.op = .call { callee := .builtin .append, args := #[s, x], argTypes := #[t, t] })
  (e : TypeId) (ht : P.underlying t = some (.slice e)) (hi : (P.info? e).map (fun i => (i.zero, i.size, i.bytes)) = some (some (.int .u8 0), 1, 1))
  (v : Value) (l : List UInt8) (hs : a.eval s = v) (hown : OwnB w 0 e v l)
  (ao : Option Addr) (m c : Nat) (l2 : List UInt8) (hx : a.eval x = .slice ao m c) (hsrc : IsB w ao m c l2) (hbytes : l.length + m ≤ 140737488355328)
  (h : ∀ v' w', OwnB w' 0 e v' (l ++ l2) → Only v.ownBlock.toList w w' → (∀ k, v'.ownBlock = some k → v.ownBlock = some k ∨ w.heap.size ≤ k) → wpList P ops Q rest (a.put o.dst v') w') : wpList P ops Q (o :: rest) a w := by
 obtain ⟨i0, hi0, hz0, hz1, hz2⟩ := info_parts hi
 refine wpList_append_foot hgd s x t ho e i0 (.int .u8 0) 1 1 ht hi0 hz0 hz1 hz2 rfl (by decide) v _ _ hs hown ao m c hx (fun e => (hsrc.nil e).2) (l2.map bv) (by rw [List.length_map, hsrc.len, Nat.mul_one]) hsrc.src ?_ (by unfold maxLen; omega) (by omega) ?_
 ·intro u hu
  obtain ⟨y, _, rfl⟩ := List.mem_map.1 hu
  rfl
 ·intro v' w' g1 g2 g3
  refine h v' w' ?_ g2 g3
  unfold OwnB
  rw [List.length_append, hsrc.len, List.map_append]
  exact g1
end
end Go.Proofs.Ytnicaicjgaoolaa
namespace Go.Proofs.Ytnicaicjgaoolaa
section
variable {P : Program} {ops : Array Oper} {Q : Exit → Act → World → Prop} {md : Region.Mode} {S : World → Prop}
def CallsIf (P : Program) (ops : Array Oper) (S : World → Prop) (o : Oper) (v : Value) (a : Act) : Prop :=
 Region.wanted o (yielded ops a.tmps) = true ∧ ∀ w, S w → ∃ f args, (execOp a.eval o).run P w = .ok (.enter f args) w ∧ Calls P f args w (fun e w' => e = .returned v ∧ w = w')
theorem CallsIf.wpOp {i : Nat} {o : Oper} {v : Value} {a : Act} (hi : ops[i]? = some o) (hy : CallsIf P ops S o v a)
  {K : Act → World → Prop} {w : World} (hS : S w) (h : K (a.put o.dst v) w) : wpOp P ops Q i K a w := by
 unfold Go.wpOp
 simp only [hi]
 obtain ⟨hw, hv⟩ := hy
 obtain ⟨f, args, h1, h2⟩ := hv w hS
 simp only [hw, if_true, Oper.wp, h1, Oper.upon]
 refine .inl (h2.mono ?_)
 rintro e w' ⟨rfl, rfl⟩
 exact h
theorem CallsIf.of_same {o : Oper} {v : Value} {a a' : Act} (hy : CallsIf P ops S o v a) (he : execOp a'.eval o = execOp a.eval o)
  (hw : Region.wanted o (yielded ops a'.tmps) = Region.wanted o (yielded ops a.tmps)) : CallsIf P ops S o v a' := by
 unfold CallsIf at *
 rw [he, hw]
 exact hy
theorem wpOp_putC {j : Nat} {oi oj : Oper} {v : Value} (hj : ops[j]? = some oj) (hap : oi.apart ops oj = true)
  (hsi : ∀ cs b, oi.op ≠ .select cs b) (hsj : ∀ cs b, oj.op ≠ .select cs b)
  (hQ : ∀ c a w, Q (.panic c) (a.put oi.dst v) w → Q (.panic c) a w) {K : Act → World → Prop} {a : Act} {w : World}
  (hy : CallsIf P ops S oi v a) (h : wpOp P ops Q j K (a.put oi.dst v) w) :
  wpOp P ops Q j (fun a' w' => CallsIf P ops S oi v a' ∧ K (a'.put oi.dst v) w') a w := by
 obtain ⟨h1, h2, h3⟩ := Oper.apart_spec hap
 have keep : ∀ (a : Act), CallsIf P ops S oi v a → ∀ u, CallsIf P ops S oi v (a.put oj.dst u) := fun a hy u =>
  hy.of_same (execOp_put oi hsi a oj.dst u h3) (wanted_put oi a oj.dst u h3)
 have keepD : ∀ d, CallsIf P ops S oi v { a with defers := d :: a.defers } := fun d => hy.of_same rfl rfl
 unfold wpOp at *
 simp only [hj] at *
 rw [wanted_put oj a oi.dst v h1] at h
 split
 ·rename_i hw
  simp only [hw, if_true] at h
  rcases h with h | ⟨hasks, hlets⟩
  case inr => exact .inr ⟨by unfold Oper.asks at *; rw [execOp_put oj hsj a oi.dst v h1] at hasks; exact hasks, hlets⟩
  refine .inl ?_
  unfold Oper.wp at *
  rw [execOp_put oj hsj a oi.dst v h1] at h
  generalize (execOp a.eval oj).run P w = r at *
  cases r with
  | ok n w' =>
   cases n <;> simp only [Oper.upon] at h ⊢
   case value u => exact ⟨keep a hy u, by rw [← Act.put_comm a v u h2]; exact h⟩
   case skip => exact ⟨keep a hy _, by rw [← Act.put_comm a v undef h2]; exact h⟩
   case defer d =>
    refine ⟨keep _ (keepD d) _, ?_⟩
    rw [← Act.put_comm _ v undef h2, ← Act.put_defers]
    exact h
   case enter f args =>
    refine Calls.mono h fun e w'' he => ?_
    cases e with
    | returned u => exact ⟨keep a hy u, by rw [← Act.put_comm a v u h2]; exact he⟩
    | panicked c => exact hQ _ _ _ he
    | outgrown => exact he
   case row row args => exact Rows.mono h fun u w'' he => ⟨keep a hy u, by rw [← Act.put_comm a v u h2]; exact he⟩
  | halt x w' =>
   cases x <;> simp only [Oper.upon] at h ⊢
   case panic u => exact hQ _ _ _ h
 ·rename_i hw
  simp only [hw] at h
  exact ⟨keep a hy _, by rw [← Act.put_comm a v undef h2]; exact h⟩
theorem wpAnyH_firstC {i : Nat} {oi : Oper} {v : Value} (hi : ops[i]? = some oi) (hsel : ∀ (j : Nat) (o : Oper) cs b, ops[j]? = some o → o.op ≠ .select cs b)
  (hQ : ∀ c a w, Q (.panic c) (a.put oi.dst v) w → Q (.panic c) a w) :
  ∀ (fuel : Nat) (listed : Array Bool) (a : Act) (w : World),
   (∀ j oj, ops[j]? = some oj → j ≠ i → listed.getD j true = false → (∀ e ∈ oj.after, Region.binds md e = true → e.on ≠ i) → oi.apart ops oj = true) →
   i ∈ Region.ready md ops listed → CallsIf P ops S oi v a → S w →
   wpAnyH P md ops Q S fuel (listed.setIfInBounds i true) (a.put oi.dst v) w → wpAnyH P md ops Q S (fuel + 1) listed a w := by
 intro fuel
 induction fuel with
 | zero =>
  intro listed a w _ hr hy hS H
  refine ⟨fun h => (by rw [h] at hr; cases hr), fun j hj => ?_⟩
  by_cases hji : j = i
  ·subst hji; exact hy.wpOp hi hS ⟨hS, H⟩
  ·have := ready_mono hj hji
   rw [H.1] at this
   cases this
 | succ fuel ih =>
  intro listed a w hfree hr hy hS H
  refine ⟨fun h => (by rw [h] at hr; cases hr), fun j hj => ?_⟩
  by_cases hji : j = i
  ·subst hji; exact hy.wpOp hi hS ⟨hS, H⟩
  ·have h1 := H.2 j (ready_mono hj hji)
   obtain ⟨hjun, oj, hoj, hall⟩ := mem_ready.1 hj
   have hnot : ∀ e ∈ oj.after, Region.binds md e = true → e.on ≠ i := fun e he hb heq => by
    have h1 := hall e he hb
    have h0 := (mem_ready.1 hr).1
    rw [heq] at h1
    rcases Nat.lt_or_ge i listed.size with h' | h'
    ·simp [h'] at h0 h1; rw [h0] at h1; cases h1
    ·simp [Array.getElem?_eq_none h'] at h1
   have h2 := wpOp_putC hoj (hfree j oj hoj hji hjun hnot) (fun cs b => hsel i oi cs b hi) (fun cs b => hsel j oj cs b hoj) hQ hy h1
   have hfree' : ∀ k ok, ops[k]? = some ok → k ≠ i → (listed.setIfInBounds j true).getD k true = false →
     (∀ e ∈ ok.after, Region.binds md e = true → e.on ≠ i) → oi.apart ops ok = true := fun k ok hk hki hun hno => by
    refine hfree k ok hk hki ?_ hno
    by_cases hjk : j = k
    ·subst hjk; exact hjun
    ·rw [getD_set_ne true hjk] at hun; exact hun
   refine wpOp_mono (fun a' w' h3 => ⟨h3.2.1, ih (listed.setIfInBounds j true) a' w' hfree' (ready_mono hr (Ne.symm hji)) h3.1 h3.2.1 ?_⟩) h2
   rw [Array.setIfInBounds_comm _ _ hji]
   exact h3.2.2
/-- Take number 'i' first, A CALL: in every world that meets S it gives v and leaves the world as it is. -/
theorem wpAnyH_takeC {i : Nat} {oi : Oper} {v : Value} {fuel : Nat} {listed : Array Bool} {a : Act} {w : World} (hi : ops[i]? = some oi)
  (hs : Region.noSelect ops = true) (hf : Region.free md ops listed i = true) (hr : (Region.ready md ops listed).contains i = true)
  (hQ : ∀ c a w, Q (.panic c) (a.put oi.dst v) w → Q (.panic c) a w) (hwt : Region.wanted oi (yielded ops a.tmps) = true) (f : FuncId) (args : Array Value) (hrun : ∀ w, S w → (execOp a.eval oi).run P w = .ok (.enter f args) w) (hc : ∀ w, S w → Calls P f args w (fun e w' => e = .returned v ∧ w = w')) (hS : S w)
  (h : wpAnyH P md ops Q S fuel (listed.setIfInBounds i true) (a.put oi.dst v) w) : wpAnyH P md ops Q S (fuel + 1) listed a w :=
 wpAnyH_firstC hi (Region.noSelect_spec hs) hQ fuel listed a w (Region.free_spec hi hf) (by simpa using hr) ⟨hwt, fun w hw => ⟨f, args, hrun w hw, hc w hw⟩⟩ hS h
theorem exec_build {P : Program} {ρ : Operand → Value} {o : Oper} {t : TypeId} {ps : Array (Nat × Operand)} {v : Value} {w : World} (ho : o.op = .build t ps) (parts : Array (Nat × Value)) (hp : (ps.toList.map fun p => (p.1, ρ p.2)) = parts.toList) (hr : (Instr.build t parts).run P w = .ok v w) : (execOp ρ o).run P w = .ok (.value v) w := by
 have hp2 : ps.map (fun p => (p.1, ρ p.2)) = parts := Array.ext' (by rw [Array.toList_map]; exact hp)
 subst hp2
 simp [execOp, ho, hr, Result.andThen]
end
end Go.Proofs.Ytnicaicjgaoolaa
namespace Go.Proofs.Ytnicaicjgaoolaa
open Go.RowKit
/-- what is left is said simply -/
theorem qsp {p q : Prop} (h : q) (e : p = q := by ((try simp only [Act.put, List.setIfInBounds_toArray, List.set_cons_zero, List.set_cons_succ]) <;> exact rfl)) : p := by rw [e]; exact h
section
variable {P : Program} {ops : Array Oper} {Q : Exit → Act → World → Prop} {md : Region.Mode} {S : World → Prop} {fuel : Nat} {listed : Array Bool} {a a' : Act} {w : World}
/-- one that reads is taken -/
theorem qtl (i : Nat) (oi : Oper) {v : Value} (hi : ops[i]? = some oi)
  (h : wpAnyH P md ops Q S fuel (listed.setIfInBounds i true) a' w)
  (hw : Region.wanted oi (yielded ops a.tmps) = true := by rfl)
  (hy : ∀ w, S w → (execOp a.eval oi).run P w = .ok (.value v) w := by (intro w hSw; (try dsimp only at hSw); go_simp <;> with_reducible rfl))
  (ha : a.put oi.dst v = a' := by ((try simp only [Act.put, List.setIfInBounds_toArray, List.set_cons_zero, List.set_cons_succ]) <;> exact rfl))
  (hs : Region.noSelect ops = true := by kernel_rfl) (hf : Region.free md ops listed i = true := by kernel_rfl) (hr : (Region.ready md ops listed).contains i = true := by kernel_rfl)
  (hQ : ∀ c a w, Q (.panic c) (a.put oi.dst v) w → Q (.panic c) a w := by exact fun _ _ _ h => h) (hS : S w := by exact hHeld) : wpAnyH P md ops Q S (fuel + 1) listed a w :=
 wpAnyH_take hi hs hf hr hQ (Or.inl ⟨hw, hy⟩) hS (by rw [ha]; exact h)
/-- the same, where it is said what it yields -/
theorem qtv (i : Nat) (oi : Oper) {v : Value} (hi : ops[i]? = some oi) (hy : ∀ w, S w → (execOp a.eval oi).run P w = .ok (.value v) w)
  (h : wpAnyH P md ops Q S fuel (listed.setIfInBounds i true) a' w)
  (hw : Region.wanted oi (yielded ops a.tmps) = true := by rfl)
  (ha : a.put oi.dst v = a' := by ((try simp only [Act.put, List.setIfInBounds_toArray, List.set_cons_zero, List.set_cons_succ]) <;> exact rfl))
  (hs : Region.noSelect ops = true := by kernel_rfl) (hf : Region.free md ops listed i = true := by kernel_rfl) (hr : (Region.ready md ops listed).contains i = true := by kernel_rfl)
  (hQ : ∀ c a w, Q (.panic c) (a.put oi.dst v) w → Q (.panic c) a w := by exact fun _ _ _ h => h) (hS : S w := by exact hHeld) : wpAnyH P md ops Q S (fuel + 1) listed a w :=
 wpAnyH_take hi hs hf hr hQ (Or.inl ⟨hw, hy⟩) hS (by rw [ha]; exact h)
/-- one that is not wanted is taken -/
theorem qtu (i : Nat) (oi : Oper) (hi : ops[i]? = some oi)
  (h : wpAnyH P md ops Q S fuel (listed.setIfInBounds i true) a' w)
  (hw : Region.wanted oi (yielded ops a.tmps) = false := by rfl)
  (ha : a.put oi.dst undef = a' := by ((try simp only [Act.put, List.setIfInBounds_toArray, List.set_cons_zero, List.set_cons_succ]) <;> exact rfl))
  (hs : Region.noSelect ops = true := by kernel_rfl) (hf : Region.free md ops listed i = true := by kernel_rfl) (hr : (Region.ready md ops listed).contains i = true := by kernel_rfl)
  (hQ : ∀ c a w, Q (.panic c) (a.put oi.dst undef) w → Q (.panic c) a w := by exact fun _ _ _ h => h) (hS : S w := by exact hHeld) : wpAnyH P md ops Q S (fuel + 1) listed a w :=
 wpAnyH_take (v := undef) hi hs hf hr hQ (Or.inr ⟨hw, rfl⟩) hS (by rw [ha]; exact h)
/-- one comes up -/
theorem qr1 (i : Nat) (o : Oper) (ho : ops[i]? = some o)
  (h : ∀ K' : Act → World → Prop, Shut (∀ a w, S w → (S w → wpAnyH P md ops Q S fuel (listed.setIfInBounds i true) a w) → K' a w) → if Region.wanted o (yielded ops a.tmps) = true then Oper.wp P o a w K' Q else K' (a.put o.dst undef) w)
  (hr : Region.ready md ops listed = [i] := by kernel_rfl) : wpAnyH P md ops Q S (fuel + 1) listed a w :=
 wpAnyH_ready hr (by simp) (AllReadyH.cons ho h AllReadyH.nil)
/-- one of two comes up -/
theorem qr2 (i j : Nat) (o p : Oper) (ho : ops[i]? = some o) (hp : ops[j]? = some p)
  (h : ∀ K' : Act → World → Prop, Shut (∀ a w, S w → (S w → wpAnyH P md ops Q S fuel (listed.setIfInBounds i true) a w) → K' a w) → if Region.wanted o (yielded ops a.tmps) = true then Oper.wp P o a w K' Q else K' (a.put o.dst undef) w)
  (k : ∀ K' : Act → World → Prop, Shut (∀ a w, S w → (S w → wpAnyH P md ops Q S fuel (listed.setIfInBounds j true) a w) → K' a w) → if Region.wanted p (yielded ops a.tmps) = true then Oper.wp P p a w K' Q else K' (a.put p.dst undef) w)
  (hr : Region.ready md ops listed = [i, j] := by kernel_rfl) : wpAnyH P md ops Q S (fuel + 1) listed a w :=
 wpAnyH_ready hr (by simp) (AllReadyH.cons ho h (AllReadyH.cons hp k AllReadyH.nil))
/-- all have come up -/
theorem qdn (h : Q .normal a w) (hr : Region.ready md ops listed = [] := by kernel_rfl) : wpAnyH P md ops Q S fuel listed a w := wpAnyH_done hr h fuel
end
end Go.Proofs.Ytnicaicjgaoolaa
