/-
  SessKnown: bytes that are none, and the walk.
-/
import Derived.Test.YtmlgggcdjknlfaaPRd
import Derived.Test.YtmlgggcdjknlfaaNum
namespace Go.Proofs.Ytmlgggcdjknlfaa
open Go.RowKit

set_option maxHeartbeats 1000000 in
theorem get_nil (w : World) : Calls Try.prog 17 #[.slice none 0 0] w fun e w' => e = .returned (.tuple #[.pointer none, .int .i64 3]) ∧ Below w.heap.size w w' := by
  go_enter Try.func17, Try.ntmps17
  go_wp2_with fail
  refine (read_any none 0 0 [] w (isB_nil _) (by decide)).mono ?_
  rintro e w1 ⟨a, rfl, hr1, ha1, ha2, hb1⟩
  have hz : ∀ bad, rI [] bad = ⟨0, [], true⟩ := fun _ => rfl
  have hz2 : ∀ bad most, 0 ≤ most → rC [] bad most = ⟨0, [], true⟩ := fun bad most hm => by unfold rC; rw [hz, if_neg (by simpa using hm)]
  have HZ := Lib.hid hz
  have HZ2 := Lib.hid hz2
  have HR1 := Lib.hid hr1
  clear hz hz2 hr1
  go_wp2_with fail
  refine (rdCount_any a _ _ 64 _ HR1.out (by decide)).mono ?_
  rw [HZ2.out _ _ (by decide)]
  rintro e w2 ⟨rfl, hr2, ho2⟩
  have hb2 : Below w.heap.size w w2 := hb1.trans (ho2.below hb1.size (by simpa using ha1))
  have hs2 := ho2.size
  clear hb1 ho2 HR1
  have HR2 := Lib.hid hr2; clear hr2
  have hB : w.heap.size ≤ w2.heap.size := hb2.size
  have HB2 := Lib.hid hb2; clear hb2
  go_wp2_with fail
  have hrow : (w2.alloc (.cells #[.int .i64 0, .int .i64 0, .int .i64 0, .slice none 0 0] 52)).heap[w2.heap.size]? = some (.cells #[.int .i64 0, .int .i64 0, .int .i64 0, .slice none 0 0] 52 (0, 0)) := heap_new _ _
  have hr3 := HR2.out.only ((Below.refl w2.heap.size w2).alloc (Nat.le_refl _) (.cells #[.int .i64 0, .int .i64 0, .int .i64 0, .slice none 0 0] 52))
  have hb3 := HB2.out.alloc hB (.cells #[.int .i64 0, .int .i64 0, .int .i64 0, .slice none 0 0] 52)
  have hab : a < w2.heap.size := by omega
  clear HR2 HB2
  generalize (World.alloc _ _ : World) = X at *
  generalize w2.heap.size = b at *
  have HB3 := Lib.hid hb3; clear hb3
  refine (rdI64_any a _ _ _ hr3 (by decide)).mono ?_
  rw [HZ.out]
  rintro e w3 ⟨rfl, hr4, ho4⟩
  have hrow4 := ho4.keeps hrow (by simp; omega)
  have HB4 := Lib.hid (HB3.out.trans (ho4.below HB3.out.size (by simpa using ha1)))
  have hc1 : w3.cell? ⟨b, 1, none⟩ = some (.int .i64 0) := by rw [cell_heap hrow4]; rfl
  have hf1 := free_heap hrow4 1
  have HRW4 := Lib.hid hrow4
  have HR4 := Lib.hid hr4
  clear hr3 ho4 hrow4 hr4 HB3 hrow
  go_wp2_with fail
  have hset5 : Only [b] w3 (w3.setCell ⟨b, 1, none⟩ (.int .i64 0)) := (Only.refl _ _).setCell (by simp) _
  have hr5 := HR4.out.keep hset5 (by simp; omega) (fun k hk => by simp; omega)
  have hrow5 := heap_set HRW4.out 1 (.int .i64 0)
  have HB5 := Lib.hid (HB4.out.trans (hset5.below HB4.out.size (by simp; omega)))
  clear HR4 HRW4 hc1 hf1 hset5
  generalize (World.setCell _ _ _ : World) = X5 at *
  refine (rdI64_any a _ _ _ hr5 (by decide)).mono ?_
  rw [HZ.out]
  rintro e w6 ⟨rfl, hr6, ho6⟩
  have hrow6 := ho6.keeps hrow5 (by simp; omega)
  have HB6 := Lib.hid (HB5.out.trans (ho6.below HB5.out.size (by simpa using ha1)))
  have hc2 : w6.cell? ⟨b, 2, none⟩ = some (.int .i64 0) := by rw [cell_heap hrow6]; rfl
  have hf2 := free_heap hrow6 2
  have HR6 := Lib.hid hr6
  clear hr5 ho6 hr6 hrow5
  go_wp2_with fail
  have hset7 : Only [b] w6 (w6.setCell ⟨b, 2, none⟩ (.int .i64 0)) := (Only.refl _ _).setCell (by simp) _
  have hr7 := HR6.out.keep hset7 (by simp; omega) (fun k hk => by simp; omega)
  have HB7 := Lib.hid (HB6.out.trans (hset7.below HB6.out.size (by simp; omega)))
  clear HR6 hc2 hf2 hset7 hrow6
  generalize (World.setCell _ _ _ : World) = X7 at *
  refine (rdCount_any a _ _ 64 _ hr7 (by decide)).mono ?_
  rw [HZ2.out _ _ (by decide)]
  rintro e w8 ⟨rfl, hr8, ho8⟩
  have HB8 := Lib.hid (HB7.out.trans (ho8.below HB7.out.size (by simpa using ha1)))
  have HR8 := Lib.hid hr8
  clear ho8 hr7 hr8
  go_wp2_with fail
  go_loopw [25] (fun i wr => i = .int .i64 0 ∧ wr = w8) (fun i _ => 0)
  case atStart => exact ⟨rfl, rfl⟩
  case round =>
    obtain ⟨rfl, rfl⟩ := hrel
    go_wp2_with fail
    refine (end_any a _ _ _ HR8.out).mono ?_
    rintro e w9 ⟨rfl, rfl⟩
    go_wp2_with fail
    go_ret2
    exact ⟨rfl, HB8.out⟩

theorem st_open (s : Ss) (sp : Int) {w0 w : World} {base a i : Nat} (h : Ours w0 w base a s) (hm : Made s i) (hi : i ≤ 100000) (h1 : -9223372036854775808 ≤ sp) (h2 : sp ≤ 9223372036854775807) (s' : Ss) (n e' : Int) (e1 : openAny s sp = s') (e2 : openN s sp = n) (e3 : openE s sp = e') :
    Calls Try.prog 11 #[.pointer (some ⟨a, 0, none⟩), .int .i64 sp] w fun e w' => e = .returned (.tuple #[.int .i64 n, .int .i64 e']) ∧ Ours w0 w' base a s' := by
  subst e1 e2 e3
  exact do_open sp h hm hi h1 h2
theorem st_tick (s : Ss) {w0 w : World} {base a i : Nat} (h : Ours w0 w base a s) (hm : Made s i) (hi : i ≤ 100000) (s' : Ss) (e1 : tickS s = s') :
    Calls Try.prog 12 #[.pointer (some ⟨a, 0, none⟩)] w fun e w' => ∃ ao n c, e = .returned (.slice ao n c) ∧ Ours w0 w' base a s' := by
  subst e1
  refine (do_tick h hm hi).mono ?_
  rintro e w' ⟨v, rfl, hv, hu, _⟩
  obtain ⟨ao, c, rfl, _⟩ := hv.isI
  exact ⟨ao, _, c, rfl, hu⟩
theorem st_touch (s : Ss) (q : Int) {w0 w : World} {base a i : Nat} (h : Ours w0 w base a s) (hm : Made s i) (hi : i ≤ 100000) (s' : Ss) (r : Int) (e1 : touchS s q = s') (e2 : (if findS s.l q < 0 then (11 : Int) else 0) = r) :
    Calls Try.prog 13 #[.pointer (some ⟨a, 0, none⟩), .int .i64 q] w fun e w' => e = .returned (.int .i64 r) ∧ Ours w0 w' base a s' := by
  subst e1 e2
  exact do_touch q h hm hi
theorem st_close (s : Ss) (q : Int) {w0 w : World} {base a i : Nat} (h : Ours w0 w base a s) (hm : Made s i) (s' : Ss) (r : Int) (e1 : closeS s q = s') (e2 : (if findS s.l q < 0 then (11 : Int) else 0) = r) :
    Calls Try.prog 15 #[.pointer (some ⟨a, 0, none⟩), .int .i64 q] w fun e w' => e = .returned (.int .i64 r) ∧ Ours w0 w' base a s' := by
  subst e1 e2
  exact do_close q h hm
theorem st_live (s : Ss) (q : Int) {w0 w : World} {base a i : Nat} (h : Ours w0 w base a s) (hm : Made s i) (r : Bool) (e2 : decide (0 ≤ findS s.l q) = r) :
    Calls Try.prog 14 #[.pointer (some ⟨a, 0, none⟩), .int .i64 q] w fun e w' => e = .returned (.bool r) ∧ Ours w0 w' base a s := by
  subst e2
  exact do_live q h hm

def q1 : Ss := newS 1
def q2 : Ss := ⟨1, 0, 2, [⟨1, 3, 3⟩]⟩
def q3 : Ss := ⟨1, 1, 2, [⟨1, 3, 3⟩]⟩
def q4 : Ss := ⟨1, 1, 2, [⟨1, 3, 4⟩]⟩
def q5 : Ss := ⟨1, 2, 2, [⟨1, 3, 4⟩]⟩
def q6 : Ss := ⟨1, 3, 2, [⟨1, 3, 4⟩]⟩
def q7 : Ss := ⟨1, 3, 2, []⟩
def q8 : Ss := ⟨1, 3, 3, [⟨2, 3, 6⟩]⟩
theorem made_q (s : Ss) (h0 : 0 ≤ s.now) (h1 : s.now ≤ 10) (h2 : 1 ≤ s.next) (h3 : s.next ≤ 11) (h4 : (s.l.length : Int) ≤ s.room) (h5 : s.room ≤ 64) (h6 : ∀ x ∈ s.l, 0 ≤ x.span ∧ x.span ≤ 10000) : Made s 10 := ⟨h0, h1, h2, h3, h4, h5, h6⟩
theorem m1 : Made q1 10 := made_q _ (by decide) (by decide) (by decide) (by decide) (by decide) (by decide) (by simp [q1, newS])
theorem m2 : Made q2 10 := made_q _ (by decide) (by decide) (by decide) (by decide) (by decide) (by decide) (by simp [q2])
theorem m3 : Made q3 10 := made_q _ (by decide) (by decide) (by decide) (by decide) (by decide) (by decide) (by simp [q3])
theorem m4 : Made q4 10 := made_q _ (by decide) (by decide) (by decide) (by decide) (by decide) (by decide) (by simp [q4])
theorem m5 : Made q5 10 := made_q _ (by decide) (by decide) (by decide) (by decide) (by decide) (by decide) (by simp [q5])
theorem m6 : Made q6 10 := made_q _ (by decide) (by decide) (by decide) (by decide) (by decide) (by decide) (by simp [q6])
theorem m7 : Made q7 10 := made_q _ (by decide) (by decide) (by decide) (by decide) (by decide) (by decide) (by simp [q7])

set_option maxHeartbeats 8000000 in
set_option maxRecDepth 100000 in
theorem known_said (W : World) : Calls Try.prog 6 #[] W fun e w' => e = .returned (.bool true) ∧ Below W.heap.size W w' := by
  go_enter Try.func6, Try.ntmps6
  go_wp2_with fail
  refine (awake_any W).mono ?_
  rintro e w1 ⟨rfl, hb1⟩
  have HB1 := Lib.hid hb1; clear hb1
  go_wp2_with fail
  refine (new_bad 0 w1 (.inl (by decide)) (by decide) (by decide)).mono ?_
  rintro e w2 ⟨rfl, rfl⟩
  go_wp2_with fail
  refine (new_bad 65 w1 (.inr (by decide)) (by decide) (by decide)).mono ?_
  rintro e w2 ⟨rfl, rfl⟩
  go_wp2_with fail
  refine (new_ok W.heap.size 1 w1 (by decide) (by decide) HB1.out.size).mono ?_
  rintro e w2 ⟨rfl, hs2, hb2, hz2⟩
  have HB2 := Lib.hid (HB1.out.trans (hb2.mono HB1.out.size))
  have HU0 : Hid (Ours W w2 W.heap.size w1.heap.size q1) := Lib.hid ⟨⟨none, hs2, by simp⟩, HB2.out, HB2.out.size⟩
  clear hs2 hb2 hz2
  generalize w1.heap.size = a at *
  go_wp2_with fail
  refine (st_open q1 0 HU0.out m1 (by decide) (by decide) (by decide) q1 0 1 rfl rfl rfl).mono ?_
  rintro e w3 ⟨rfl, hu⟩
  have HU1 := Lib.hid hu; clear hu
  go_wp2_with fail
  refine (st_open q1 3 HU1.out m1 (by decide) (by decide) (by decide) q2 1 0 rfl rfl rfl).mono ?_
  rintro e w4 ⟨rfl, hu⟩
  have HU2 := Lib.hid hu; clear hu
  go_wp2_with fail
  refine (st_open q2 3 HU2.out m2 (by decide) (by decide) (by decide) q2 0 9 rfl rfl rfl).mono ?_
  rintro e w5 ⟨rfl, hu⟩
  have HU3 := Lib.hid hu; clear hu
  go_wp2_with fail
  refine (st_tick q2 HU3.out m2 (by decide) q3 rfl).mono ?_
  rintro e w6 ⟨b1, n1, c1, rfl, hu⟩
  have HU4 := Lib.hid hu; clear hu
  go_wp2_with fail
  refine (st_touch q3 1 HU4.out m3 (by decide) q4 0 rfl rfl).mono ?_
  rintro e w7 ⟨rfl, hu⟩
  have HU5 := Lib.hid hu; clear hu
  go_wp2_with fail
  refine (st_touch q4 2 HU5.out m4 (by decide) q4 11 rfl rfl).mono ?_
  rintro e w8 ⟨rfl, hu⟩
  have HU6 := Lib.hid hu; clear hu
  go_wp2_with fail
  refine (st_tick q4 HU6.out m4 (by decide) q5 rfl).mono ?_
  rintro e w9 ⟨b2, n2, c2, rfl, hu⟩
  have HU7 := Lib.hid hu; clear hu
  go_wp2_with fail
  refine (st_tick q5 HU7.out m5 (by decide) q6 rfl).mono ?_
  rintro e w10 ⟨b3, n3, c3, rfl, hu⟩
  have HU8 := Lib.hid hu; clear hu
  go_wp2_with fail
  refine (st_live q6 1 HU8.out m6 true rfl).mono ?_
  rintro e w11 ⟨rfl, hu⟩
  have HU9 := Lib.hid hu; clear hu
  go_wp2_with fail
  refine (st_close q6 1 HU9.out m6 q7 0 rfl rfl).mono ?_
  rintro e w12 ⟨rfl, hu⟩
  have HU10 := Lib.hid hu; clear hu
  go_wp2_with fail
  refine (st_close q7 1 HU10.out m7 q7 11 rfl rfl).mono ?_
  rintro e w13 ⟨rfl, hu⟩
  have HU11 := Lib.hid hu; clear hu
  go_wp2_with fail
  refine (st_open q7 3 HU11.out m7 (by decide) (by decide) (by decide) q8 2 0 rfl rfl rfl).mono ?_
  rintro e w14 ⟨rfl, hu⟩
  have HB14 := Lib.hid hu.below
  have hz14 := hu.size
  clear hu
  go_wp2_with fail
  refine (get_nil w14).mono ?_
  rintro e w15 ⟨rfl, hb⟩
  have HB15 := Lib.hid (HB14.out.trans (hb.mono hz14)); clear hb
  go_wp2_with fail
  go_ret
  exact ⟨rfl, HB15.out⟩
end Go.Proofs.Ytmlgggcdjknlfaa
