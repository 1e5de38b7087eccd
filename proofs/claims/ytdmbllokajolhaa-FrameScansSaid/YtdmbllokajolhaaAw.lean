/-
  awake returns true.
-/
import Derived.Test.YtdmbllokajolhaaLaw
import Derived.Test.YtdmbllokajolhaaAll
import Derived.Lib.SlBytesConst
namespace Go.Proofs.Ytdmbllokajolhaa
open Go.RowKit

/-- an owned slice of bytes, its length named, its room -/
theorem own_room {w : World} {base : Nat} {e : TypeId} {v : Value} {l : List UInt8} (h : OwnB w base e v l) (n : Nat) (hn : l.length = n) :
    ∃ ao c, v = .slice ao n c ∧ IsB w ao n c l ∧ n ≤ c ∧ c ≤ 9223372036854775807 := by
  subst hn
  obtain ⟨ao, c, rfl, h1⟩ := h.isB
  refine ⟨ao, c, rfl, h1, ?_⟩
  rcases h.2 with ⟨h2, h3⟩ | ⟨g, cap, cur, hv, hg, hh, hn, hm, hs, ht⟩
  · have h4 : l.length = 0 := by simpa using h3
    simp only [Value.slice.injEq] at h2
    omega
  · cases hv
    unfold maxLen at hm
    exact ⟨hn, by omega⟩

theorem scan_two (a b : List UInt8) (ha : a.length ≤ 20000) (hb : b.length ≤ 20000) : scanAll (frameF a ++ frameF b) = ([a, b], 24 + a.length + b.length, 0) := by
  have := scanAll_frames [a, b] (by intro r hr; simp at hr; rcases hr with rfl | rfl <;> assumption)
  rw [show frames [a, b] = frameF a ++ frameF b by simp [frames]] at this
  rw [this, List.length_append, frameF_len, frameF_len]
  congr 2
  omega

set_option maxHeartbeats 1000000 in
theorem awake_any (w : World) : Calls Try.prog 8 #[] w fun e w' => e = .returned (.bool true) ∧ Below w.heap.size w w' := by
  have kc := fun (w : World) (C : Array Value) (n c : Nat) => Lib.run_convert_bytes_const (P := Try.prog) w 23 5 C n c Try.underlying23 Try.underlying5
  go_enter Try.func8, Try.ntmps8
  go_wp2_with fail
  clear kc
  refine (put_ok none 0 0 [] _ 2 2 [97, 98] _ (isB_nil _) (isB_new w [97, 98] _ rfl 5 (2, 3) _ rfl 2 rfl 2) (by decide) (by decide)).mono ?_
  rintro e w1 ⟨v1, rfl, hown1, hb1⟩
  rw [List.nil_append] at hown1
  obtain ⟨a1, c1, rfl, hbs1⟩ := own_len hown1 14 (frameF_len _)
  have hB1 : Below w.heap.size w w1 := ((Below.refl _ _).alloc (Nat.le_refl _) _).trans (hb1.mono (by simp))
  clear hown1 hb1
  have H1 := Lib.hid hbs1; clear hbs1
  go_wp2_with fail
  refine (put_ok a1 14 c1 _ none 0 0 [] _ H1.out (isB_nil _) (by decide) (by decide)).mono ?_
  rintro e w2 ⟨v2, rfl, hown2, hb2⟩
  obtain ⟨a2, c2, rfl, hbs2, hc2, hcm2⟩ := own_room hown2 26 (by rw [List.length_append, frameF_len, frameF_len]; rfl)
  have hB2 : Below w.heap.size w w2 := hB1.trans (hb2.mono hB1.size)
  clear hown2 hb2 hB1 H1
  have H2 := Lib.hid hbs2; clear hbs2
  go_wp2_with fail
  refine (scan_any a2 26 c2 _ _ H2.out (by decide) hc2 hcm2).mono ?_
  rw [scan_two _ _ (by decide) (by decide)]
  rintro e w3 ⟨v3, he, hown3, hb3⟩
  unfold Recs at he
  subst he
  obtain ⟨a3, c3, rfl, hbb3, hc3⟩ := hown3.isBB 2 rfl
  have hB3 : Below w.heap.size w w3 := hB2.trans (hb3.mono hB2.size)
  clear hown3 hb3 hB2 H2 hc2 hcm2
  obtain ⟨b3, o3, rfl, hat⟩ : ∃ b off, a3 = some ⟨b, off, none⟩ ∧ ∀ i, i < 2 → ∃ a m c, w3.cell? ⟨b, off + i, none⟩ = some (.slice a m c) ∧ IsB w3 a m c ([[97, 98], []].getD i []) ∧ m ≤ 140737488351232 := by
    rcases hbb3.at_ with h0 | h0
    · omega
    · exact h0
  obtain ⟨a4, n4, c4, hcell, hb4, _⟩ := hat 0 (by decide)
  rw [Nat.add_zero] at hcell
  have hcv := convA_any w3 a4 n4 c4 _ hb4
  have hs : (strA ([[97, 98], []].getD 0 [])).toList = [97, 98] := by rw [strA_toList]; rfl
  generalize strA ([[97, 98], []].getD 0 []) = s at hcv hs
  clear hat hbb3 hb4
  have ht : (s.toList == (⟨#[97, 98]⟩ : ByteArray).toList) = true := by rw [hs]; decide +kernel
  go_wp2_with fail
  go_ret
  exact ⟨rfl, hB3⟩
end Go.Proofs.Ytdmbllokajolhaa
