/-
  Frames, written.
-/
import Derived.Test.YtdmbllokajolhaaCat
namespace Go.Proofs.Ytdmbllokajolhaa
open Go.RowKit

def headF (rec : List UInt8) : List UInt8 := be4 (BitVec.ofNat 32 rec.length) ++ be4 (~~~ (BitVec.ofNat 32 rec.length))
/-- a record's frame -/
def frameF (rec : List UInt8) : List UInt8 := headF rec ++ be4 (Crc.crc (headF rec ++ rec)) ++ rec
theorem headF_len (rec : List UInt8) : (headF rec).length = 8 := rfl
theorem frameF_len (rec : List UInt8) : (frameF rec).length = 12 + rec.length := by
  unfold frameF
  rw [List.length_append, List.length_append, headF_len, be4_len]

theorem two_cells (w : World) (a1 : Option Addr) (n1 c1 : Nat) (l1 : List UInt8) (h1 : IsB w a1 n1 c1 l1) (m1 : n1 ≤ 140737488351232) (a2 : Option Addr) (n2 c2 : Nat) (l2 : List UInt8) (h2 : IsB w a2 n2 c2 l2) (m2 : n2 ≤ 140737488351232) (t : TypeId) (fr : Nat × Nat) (H : Nat) (hH : H = w.heap.size) :
    ∀ i, i < 2 → ∃ a n c, (w.alloc (.cells #[.slice a1 n1 c1, .slice a2 n2 c2] t fr)).cell? ⟨H, 0 + i, none⟩ = some (.slice a n c) ∧ IsB (w.alloc (.cells #[.slice a1 n1 c1, .slice a2 n2 c2] t fr)) a n c ([l1, l2].getD i []) ∧ n ≤ 140737488351232 := by
  subst hH
  intro i hi
  rcases (by omega : i = 0 ∨ i = 1) with rfl | rfl
  · exact ⟨a1, n1, c1, by rw [World.cell?_alloc_mark]; rfl, h1.alloc _, m1⟩
  · exact ⟨a2, n2, c2, by rw [World.cell?_alloc_mark]; rfl, h2.alloc _, m2⟩
theorem own_len {w : World} {base : Nat} {e : TypeId} {v : Value} {l : List UInt8} (h : OwnB w base e v l) (n : Nat) (hn : l.length = n) :
    ∃ ao c, v = .slice ao n c ∧ IsB w ao n c l := by
  subst hn; exact h.isB
theorem nat32 (m : Nat) (h : m < 4294967296) : ((BitVec.ofNat 32 m).toNat : Int) = (m : Int) := by
  rw [BitVec.toNat_ofNat, Nat.mod_eq_of_lt (by omega)]

set_option maxHeartbeats 1000000 in
theorem put_ok (ao : Option Addr) (n c : Nat) (B : List UInt8) (ar : Option Addr) (m cr : Nat) (rec : List UInt8) (w : World) (h : IsB w ao n c B) (hr : IsB w ar m cr rec) (hn : n ≤ 1099511627776) (hm : m ≤ 20000) :
    Calls Try.prog 9 #[.slice ao n c, .slice ar m cr] w fun e w' => ∃ v', e = .returned (.tuple #[v', .int .i64 0]) ∧ OwnB w' w.heap.size 5 v' (B ++ frameF rec) ∧ Below w.heap.size w w' := by
  have hlr := hr.len
  have hlB := h.len
  have HB := Lib.hid h; clear h
  have HR := Lib.hid hr; clear hr
  have hc := nat32 m (by omega)
  have hnot := not_walk (BitVec.ofNat 32 m)
  rw [hc] at hnot
  have HN := Lib.hid hnot; clear hnot
  have HC := Lib.hid hc; clear hc
  have HL := Lib.hid hlr; clear hlr
  have HLB := Lib.hid hlB; clear hlB
  go_enter Try.func9, Try.ntmps9
  go_wp2_with fail
  rw [← HC.out]
  refine (number_any w.heap.size (.slice none 0 0) [] (BitVec.ofNat 32 m) w (OwnB.nil _ _ _) (by decide) (Nat.le_refl _)).mono ?_
  rw [HC.out]
  rintro e w1 ⟨v1, rfl, hown1, hb1⟩
  rw [List.nil_append] at hown1
  have HO1 := Lib.hid hown1; clear hown1
  have hsg : ¬ (IntKind.u32.signed = true) := by decide
  go_wp2_with fail
  rw [HN.out]
  refine (number_any w.heap.size v1 _ (~~~ (BitVec.ofNat 32 m)) w1 HO1.out (by rw [be4_len]; decide) hb1.size).mono ?_
  rintro e w2 ⟨v2, rfl, hown2, hb2⟩
  have hhd : be4 (BitVec.ofNat 32 m) ++ be4 (~~~ (BitVec.ofNat 32 m)) = headF rec := by unfold headF; rw [HL.out]
  rw [hhd] at hown2
  clear hhd
  obtain ⟨a2, c2, rfl, hbs2⟩ := own_len hown2 8 (headF_len _)
  have hB2 : Below w.heap.size w w2 := hb1.trans hb2
  have hz2 := hB2.size
  have H2 := Lib.hid (two_cells w2 ao n c B (HB.out.below hB2) (by omega) a2 8 c2 (headF rec) hbs2 (by decide) 23 (0, 0) w2.heap.size rfl)
  have HS2 := Lib.hid hbs2
  clear hown2 hbs2 hb1 hb2 HO1
  go_wp2_with fail
  refine (concat_any w2.heap.size 0 2 2 [B, headF rec] _ rfl (by simp only [List.flatten_cons, List.flatten_nil, List.length_append, List.length_nil, headF_len, HLB.out]; omega) (by decide) H2.out).mono ?_
  rintro e w3 ⟨v3, rfl, hown3, hb3⟩
  have hz3 : w.heap.size ≤ w3.heap.size := by have := hb3.size; simp at this; omega
  have hB3 : Below w.heap.size w w3 := (hB2.alloc hz2 _).trans (hb3.mono (by simp; omega))
  have hS3 := (HS2.out.alloc (.cells #[.slice ao n c, .slice a2 8 c2] 23)).below hb3
  rw [show [B, headF rec].flatten = B ++ headF rec from by simp] at hown3
  have H3 := Lib.hid (two_cells w3 a2 8 c2 (headF rec) hS3 (by decide) ar m cr rec (HR.out.below hB3) (by omega) 23 (0, 0) w3.heap.size rfl)
  have HO3 := Lib.hid (hown3.mono (base' := w.heap.size) (by simp; omega))
  clear hown3 hb3 hS3 H2 HS2 hB2 hz2
  go_wp2_with fail
  refine (of_some 2 [headF rec, rec] w3.heap.size 0 2 _ rfl (by decide) H3.out).mono ?_
  rintro e w4 ⟨rfl, rfl⟩
  rw [show [headF rec, rec].flatten = headF rec ++ rec from by simp]
  go_wp2_with fail
  have hB4 : Below w.heap.size w (w3.alloc (.cells #[.slice a2 8 c2, .slice ar m cr] 23)) := hB3.alloc hz3 _
  have hl4 : (B ++ headF rec).length ≤ 70368744177664 := by rw [List.length_append, headF_len, HLB.out]; omega
  refine (number_any w.heap.size v3 _ (Crc.crc (headF rec ++ rec)) _ (HO3.out.alloc _) hl4 (by simp; omega)).mono ?_
  rintro e w5 ⟨v5, rfl, hown5, hb5⟩
  have hB5 : Below w.heap.size w w5 := hB4.trans hb5
  have hl5 : (B ++ headF rec ++ be4 (Crc.crc (headF rec ++ rec))).length + m ≤ 140737488355328 := by
    rw [List.length_append, be4_len]; omega
  have HR5 := Lib.hid (HR.out.below hB5)
  have HO5 := Lib.hid hown5
  have HF : Hid ((B ++ headF rec ++ be4 (Crc.crc (headF rec ++ rec))) ++ rec = B ++ frameF rec) := Lib.hid (by unfold frameF; simp only [List.append_assoc])
  generalize B ++ headF rec ++ be4 (Crc.crc (headF rec ++ rec)) = B5 at HF HO5 hl5
  clear H3 HO3 hB3 hB4 hl4 hown5 hb5 hz3
  have hz5 := hB5.size
  go_wp2_with (at_builtin; refine wpList_append_bytes rfl _ _ 23 rfl w.heap.size 5 Try.underlying23 info5 _ _ rfl HO5.out _ _ _ _ rfl HR5.out hl5 hz5 ?_; intro v6 w6 hown6 hgr6 hb6; clear hgr6)
  go_ret2
  exact ⟨_, rfl, by rw [← HF.out]; exact hown6, hB5.trans hb6⟩

set_option maxHeartbeats 400000 in
theorem put_long (ao : Option Addr) (n c : Nat) (ar : Option Addr) (m cr : Nat) (w : World) (hm : 20000 < m) (hm9 : m ≤ 140737488351232) :
    Calls Try.prog 9 #[.slice ao n c, .slice ar m cr] w fun e w' => e = .returned (.tuple #[.slice none 0 0, .int .i64 2]) ∧ w = w' := by
  go_enter Try.func9, Try.ntmps9
  go_wp2_with fail
  go_ret2
  exact ⟨rfl, rfl⟩

set_option maxHeartbeats 1000000 in
/-- the document's own frame -/
theorem refframe_any (ar : Option Addr) (m cr : Nat) (rec : List UInt8) (w : World) (hr : IsB w ar m cr rec) (hm : m ≤ 20000) :
    Calls Try.prog 11 #[.slice ar m cr] w fun e w' => ∃ v', e = .returned v' ∧ OwnB w' w.heap.size 5 v' (frameF rec) ∧ Below w.heap.size w w' := by
  have hlr := hr.len
  have HR := Lib.hid hr; clear hr
  have hc := nat32 m (by omega)
  have hnot := not_walk (BitVec.ofNat 32 m)
  rw [hc] at hnot
  have HN := Lib.hid hnot; clear hnot
  have HC := Lib.hid hc; clear hc
  have HL := Lib.hid hlr; clear hlr
  have hsg : ¬ (IntKind.u32.signed = true) := by decide
  go_enter Try.func11, Try.ntmps11
  go_wp2_with fail
  rw [← HC.out]
  refine (u32_any none 0 0 [] (BitVec.ofNat 32 m) w (isB_nil _) (by decide)).mono ?_
  rw [HC.out]
  rintro e w1 ⟨v1, rfl, hown1, hb1⟩
  rw [List.nil_append] at hown1
  obtain ⟨a1, c1, rfl, hbs1⟩ := own_len hown1 4 (be4_len _)
  clear hown1
  have HO1 := Lib.hid hbs1; clear hbs1
  go_wp2_with fail
  rw [HN.out]
  refine (u32_any a1 4 c1 _ (~~~ (BitVec.ofNat 32 m)) w1 HO1.out (by decide)).mono ?_
  rintro e w2 ⟨v2, rfl, hown2, hb2⟩
  have hhd : be4 (BitVec.ofNat 32 m) ++ be4 (~~~ (BitVec.ofNat 32 m)) = headF rec := by unfold headF; rw [HL.out]
  rw [hhd] at hown2
  clear hhd
  obtain ⟨a2, c2, rfl, hbs2⟩ := own_len hown2 8 (headF_len _)
  have hB2 : Below w.heap.size w w2 := hb1.trans (hb2.mono hb1.size)
  have hz2 := hB2.size
  have HS2 := Lib.hid hbs2
  clear hown2 hbs2 hb1 hb2 HO1
  have hc2 : ([] : List UInt8).length + 8 ≤ 140737488355328 := by simp
  have hc3 : ([] ++ headF rec).length + m ≤ 140737488355328 := by rw [List.nil_append, headF_len]; omega
  have HR2 := Lib.hid (HR.out.below hB2)
  have hl3 : ([] ++ headF rec ++ rec).length = 8 + m := by rw [List.nil_append, List.length_append, headF_len, HL.out]
  have HL3 := Lib.hid hl3; clear hl3
  go_wp2_with (first
    | (at_builtin; refine wpList_append_bytes rfl (.tmp 14) (.tmp 15) 23 rfl w2.heap.size 5 Try.underlying23 info5 _ [] rfl (OwnB.new _ _ _ [] _ rfl _ rfl (by exact Nat.le_refl _) 0 rfl (by decide)) _ _ _ _ rfl (HS2.out.alloc _) hc2 (by simp) ?_; intro v3 w3 hown3 hgr3 hb3; clear hgr3; have HO3 := Lib.hid hown3; clear hown3; have hb23 : Below w2.heap.size w2 w3 := ((Below.refl _ _).alloc (Nat.le_refl _) _).trans hb3; have hz23 := hb23.size; have HR3 := Lib.hid (HR2.out.below hb23))
    | (at_builtin; refine wpList_append_bytes rfl (.tmp 16) (.tmp 17) 23 rfl w2.heap.size 5 Try.underlying23 info5 _ _ rfl HO3.out _ _ _ _ rfl HR3.out hc3 hz23 ?_; intro v4 w4 hown4 hgr4 hb4; clear hgr4; obtain ⟨a4, c4, hv4, hbs4⟩ := own_len hown4 _ HL3.out; subst hv4; clear hown4))
  have hb24 : Below w2.heap.size w2 w4 := hb23.trans hb4
  have hB4 : Below w.heap.size w w4 := hB2.trans (hb24.mono hz2)
  have hz4 := hB4.size
  clear hb23 hb3 hb4
  refine (refcrc_any a4 (8 + m) c4 _ w4 hbs4 (by omega)).mono ?_
  rintro e w5 ⟨rfl, rfl⟩
  rw [List.nil_append]
  go_wp2_with fail
  refine (u32_any a2 8 c2 _ (Crc.crc (headF rec ++ rec)) _ (HS2.out.below hb24) (by decide)).mono ?_
  rintro e w6 ⟨v6, rfl, hown6, hb6⟩
  have hB6 : Below w.heap.size w w6 := hB4.trans (hb6.mono hz4)
  have HR6 := Lib.hid (HR.out.below hB6)
  have HO6 := Lib.hid (hown6.mono hz4)
  have HF : Hid ((headF rec ++ be4 (Crc.crc (headF rec ++ rec))) ++ rec = frameF rec) := Lib.hid rfl
  have hl6 : (headF rec ++ be4 (Crc.crc (headF rec ++ rec))).length + m ≤ 140737488355328 := by rw [List.length_append, headF_len, be4_len]; omega
  generalize headF rec ++ be4 (Crc.crc (headF rec ++ rec)) = B6 at HF HO6 hl6
  have hz6 := hB6.size
  clear hown6 hb6 HS2 HR2 HO3 hbs4 hb24 hB4 hB2 HL3 hc3 hc2
  go_wp2_with (at_builtin; refine wpList_append_bytes rfl _ _ 23 rfl w.heap.size 5 Try.underlying23 info5 _ _ rfl HO6.out _ _ _ _ rfl HR6.out hl6 hz6 ?_; intro v7 w7 hown7 hgr7 hb7; clear hgr7)
  go_ret
  exact ⟨_, rfl, by rw [← HF.out]; exact hown7, hB6.trans hb7⟩
end Go.Proofs.Ytdmbllokajolhaa
