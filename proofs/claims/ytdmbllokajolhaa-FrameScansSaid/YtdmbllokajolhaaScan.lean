/-
  Frames, scanned.
-/
import Derived.Test.YtdmbllokajolhaaNext
import Derived.Test.YtdmbllokajolhaaKitBB
namespace Go.Proofs.Ytdmbllokajolhaa
open Go.RowKit

theorem info23 : (Try.prog.info? 23).map (fun i => (i.zero, i.size, i.bytes)) = some (some (.slice none 0 0), 1, 24) := by kernel_rfl

/-- the records of frames from place k on, where the scan ended, and how -/
def scanF (B : List UInt8) : Nat → Nat → List (List UInt8) → List (List UInt8) × Nat × Nat
  | 0, k, ls => (ls, k, 0)
  | t + 1, k, ls =>
    if B.length ≤ k then (ls, k, 0)
    else if (nextF (B.drop k)).2 = 0 then scanF B t (k + (nextF (B.drop k)).1) (ls ++ [((B.drop k).take (nextF (B.drop k)).1).drop 12])
    else (ls, k, (nextF (B.drop k)).2)

theorem nextF_size (l : List UInt8) (h : (nextF l).2 = 0) : 12 ≤ (nextF l).1 ∧ (nextF l).1 ≤ l.length ∧ (nextF l).1 ≤ 20012 := by
  unfold nextF at h ⊢
  by_cases h1 : l.length < 12
  · rw [if_pos h1] at h; cases h
  · rw [if_neg h1] at h ⊢
    by_cases h2 : at4 l 4 ≠ ~~~ (at4 l 0) ∨ 20000 < (at4 l 0).toNat
    · rw [if_pos h2] at h; cases h
    · rw [if_neg h2] at h ⊢
      by_cases h3 : l.length < 12 + (at4 l 0).toNat
      · rw [if_pos h3] at h; cases h
      · rw [if_neg h3] at h ⊢
        by_cases h4 : Crc.crc (l.take 8 ++ (l.drop 12).take (at4 l 0).toNat) ≠ at4 l 8
        · rw [if_pos h4] at h; cases h
        · rw [if_neg h4]
          simp only
          omega
theorem scanF_end (B : List UInt8) (t k : Nat) (ls : List (List UInt8)) (h : B.length ≤ k) : scanF B t k ls = (ls, k, 0) := by
  cases t with
  | zero => rfl
  | succ t => show (if _ then _ else _) = _; rw [if_pos h]
/-- fuel enough is fuel enough -/
theorem scanF_fuel (B : List UInt8) (t s k : Nat) (ls : List (List UInt8)) (ht : B.length ≤ k + t) (hs : B.length ≤ k + s) : scanF B t k ls = scanF B s k ls := by
  induction t generalizing s k ls with
  | zero => rw [scanF_end B 0 k ls (by omega), scanF_end B s k ls (by omega)]
  | succ t ih =>
    cases s with
    | zero => rw [scanF_end B 0 k ls (by omega), scanF_end B _ k ls (by omega)]
    | succ s =>
      show (if _ then _ else if _ then _ else _) = (if _ then _ else if _ then _ else _)
      by_cases h1 : B.length ≤ k
      · rw [if_pos h1, if_pos h1]
      · rw [if_neg h1, if_neg h1]
        by_cases h2 : (nextF (B.drop k)).2 = 0
        · rw [if_pos h2, if_pos h2]
          have := (nextF_size _ h2).1
          exact ih s _ _ (by omega) (by omega)
        · rw [if_neg h2, if_neg h2]
/-- all of it -/
def scanAll (B : List UInt8) : List (List UInt8) × Nat × Nat := scanF B B.length 0 []
theorem scanF_step (B : List UInt8) (k : Nat) (ls : List (List UInt8)) (h : k < B.length) (h0 : (nextF (B.drop k)).2 = 0) :
    scanF B (B.length - k) k ls = scanF B (B.length - (k + (nextF (B.drop k)).1)) (k + (nextF (B.drop k)).1) (ls ++ [((B.drop k).take (nextF (B.drop k)).1).drop 12]) := by
  obtain ⟨t, ht⟩ : ∃ t, B.length - k = t + 1 := ⟨B.length - k - 1, by omega⟩
  rw [ht]
  show (if _ then _ else if _ then _ else _) = _
  rw [if_neg (by omega), if_pos h0]
  have := (nextF_size _ h0).1
  exact scanF_fuel B _ _ _ _ (by omega) (by omega)
theorem scanF_stop (B : List UInt8) (k : Nat) (ls : List (List UInt8)) (h : k < B.length) (h0 : ¬ (nextF (B.drop k)).2 = 0) : scanF B (B.length - k) k ls = (ls, k, (nextF (B.drop k)).2) := by
  obtain ⟨t, ht⟩ : ∃ t, B.length - k = t + 1 := ⟨B.length - k - 1, by omega⟩
  rw [ht]
  show (if _ then _ else if _ then _ else _) = _
  rw [if_neg (by omega), if_neg h0]

/-- what was scanned lies there -/
def Recs (v : Value) (used how : Int) (e : Ending) : Prop := e = .returned (.tuple #[v, .int .i64 used, .int .i64 how])

set_option maxHeartbeats 1000000 in
theorem scan_any (ao : Option Addr) (n c : Nat) (B : List UInt8) (w : World) (h : IsB w ao n c B) (hn : n ≤ 1000000) (hnc : n ≤ c) (hc9 : c ≤ 9223372036854775807) :
    Calls Try.prog 10 #[.slice ao n c] w fun e w' => ∃ v, Recs v ((scanAll B).2.1 : Int) ((scanAll B).2.2 : Int) e ∧ OwnBB w' w.heap.size 23 v (scanAll B).1 ∧ Below w.heap.size w w' := by
  have hlen := h.len
  have HB := Lib.hid h; clear h
  have HL := Lib.hid hlen; clear hlen
  have HS : Hid (scanF B (B.length - 0) 0 [] = scanAll B) := Lib.hid rfl
  go_enter Try.func10, Try.ntmps10
  go_wp2_with fail
  go_loopw [2, 3] (fun v i wr => ∃ (k : Nat) (ls : List (List UInt8)), k ≤ n ∧ ls.length * 12 ≤ k ∧ i = .int .i64 (k : Int) ∧ scanF B (B.length - k) k ls = scanAll B ∧ OwnBB wr w.heap.size 23 v ls ∧ Below w.heap.size w wr) (fun _ i _ => n - (intOf i).toNat)
  case atStart => exact ⟨0, [], by omega, by simp, rfl, HS.out, OwnBB.nil _ _ _, Below.refl _ _⟩
  case round =>
    clear HS
    obtain ⟨k, ls, hk, hls, rfl, hsc, hown, hbl⟩ := hrel
    have HSC := Lib.hid hsc; clear hsc
    have HO := Lib.hid hown; clear hown
    by_cases hlt : k < n
    · obtain ⟨b, off, rfl⟩ : ∃ b off, ao = some ⟨b, off, none⟩ := by
        rcases HB.out.at_ with h0 | ⟨b, off, h0, _⟩
        · omega
        · exact ⟨b, off, h0⟩
      have hD : IsB wr (some ⟨b, off + k, none⟩) (n - k) (c - k) (B.drop k) := (isB_drop HB.out k (c - k) (by omega)).below hbl
      have hkc : ¬ (c = k) := by omega
      have hst := scanF_step B k ls (by rw [HL.out]; exact hlt)
      have hsp := scanF_stop B k ls (by rw [HL.out]; exact hlt)
      have hsz := nextF_size (B.drop k)
      have hnext := fun w' (hw : IsB w' (some ⟨b, off + k, none⟩) (n - k) (c - k) (B.drop k)) => next_any _ _ _ (B.drop k) w' hw (by omega) (by omega)
      generalize nextF (B.drop k) = q at hst hsp hsz hnext
      obtain ⟨sz, how⟩ := q
      simp only at hst hsp hsz hnext
      have HST := Lib.hid hst; clear hst
      have HSP := Lib.hid hsp; clear hsp
      have HSZ := Lib.hid hsz; clear hsz
      have HNX := Lib.hid hnext; clear hnext
      have HD := Lib.hid hD; clear hD
      go_wp2_with fail
      refine (HNX.out _ HD.out).mono ?_
      rintro e w1 ⟨rfl, hb1⟩
      have hB1 := hbl.trans (hb1.mono hbl.size)
      by_cases h0 : how = 0
      · subst h0
        have hstep := HST.out rfl
        obtain ⟨s1, s2, s3⟩ := HSZ.out rfl
        rw [List.length_drop, HL.out] at s2
        have HF : Hid (scanF B (B.length - (k + sz)) (k + sz) (ls ++ [((B.drop k).take sz).drop 12]) = scanAll B) := Lib.hid (by rw [← HSC.out, hstep])
        have hrec : IsB w1 (some ⟨b, off + (k + 12), none⟩) (k + sz - (k + 12)) (c - (k + 12)) (((B.drop k).take sz).drop 12) := by
          have h1 := isB_take (HD.out.below hb1) sz s2
          have h2 := isB_drop h1 12 (c - (k + 12)) s1
          rw [Nat.add_assoc, show sz - 12 = k + sz - (k + 12) by omega] at h2
          exact h2
        generalize ((B.drop k).take sz).drop 12 = rec at hrec HF
        clear hstep HST HSP HSZ HNX HD HSC
        have hO1 := HO.out.below hb1
        have HO1 := Lib.hid hO1; clear hO1 HO
        have HR := Lib.hid hrec; clear hrec
        by_cases hck : c = k + 12
        · have hsz12 : sz = 12 := by omega
          have hnk : n = k + 12 := by omega
          subst hck hsz12 hnk
          have hrl := HR.out.len
          obtain rfl : rec = [] := List.length_eq_zero_iff.1 (by omega)
          have hlt1 := HO1.out.lt
          have hlb : ls.length + 1 ≤ 4398046511104 := by omega
          clear hrl HR
          go_wp2_with fail
          refine (clone_any (some ⟨b, off, none⟩) 0 0 [] _ (isB_zero 0) (by omega)).mono ?_
          rintro e w2 ⟨v2, rfl, hown2, hb2⟩
          have hB2 := hB1.trans (hb2.mono hB1.size)
          have hel0 := hown2.elem _ (fun k hk => (hlt1 k hk).2) (by simp)
          obtain ⟨a2, c2, rfl, _⟩ := own_len hown2 0 rfl
          have hel := Lib.hid (hel0.below ((Below.refl _ _).alloc (Nat.le_refl _) (.cells #[.slice a2 0 c2] 23)))
          have hO2 := Lib.hid ((HO1.out.below hb2).below ((Below.refl _ _).alloc (Nat.le_refl _) (.cells #[.slice a2 0 c2] 23)))
          have hz2 := hB2.size
          have HB2 := Lib.hid hB2
          clear hlt1 hown2 hel0 hb2 hB2 hb1 hB1 HO1
          go_wp2_with (at_builtin; refine wpList_append_elem rfl _ _ 27 rfl w.heap.size 23 Try.underlying27 info23 _ ls rfl hO2.out w2.heap.size (.slice a2 0 c2) [] rfl (by rw [World.cell?_alloc_mark]; rfl) hel.out hlb (by simp; omega) ?_; intro v3 w3 hown3 hgr3 hb3; clear hgr3)
          go_roundw
          case rel => exact ⟨k + 12, _, by omega, by simp; omega, by go_num, HF.out, hown3, (HB2.out.alloc hz2 _).trans hb3⟩
          case measure => simp [intOf]; omega
        · have hrl := HR.out.len
          have hlt1 := HO1.out.lt
          go_wp2_with fail
          refine (clone_any _ _ _ rec _ HR.out (by omega)).mono ?_
          rintro e w2 ⟨v2, rfl, hown2, hb2⟩
          have hB2 := hB1.trans (hb2.mono hB1.size)
          have hel0 := hown2.elem _ (fun k hk => (hlt1 k hk).2) (by omega)
          obtain ⟨a2, c2, rfl, _⟩ := own_len hown2 _ hrl
          have hel := Lib.hid (hel0.below ((Below.refl _ _).alloc (Nat.le_refl _) (.cells #[.slice a2 (k + sz - (k + 12)) c2] 23)))
          have hO2 := Lib.hid ((HO1.out.below hb2).below ((Below.refl _ _).alloc (Nat.le_refl _) (.cells #[.slice a2 (k + sz - (k + 12)) c2] 23)))
          have hlb : ls.length + 1 ≤ 4398046511104 := by omega
          have hz2 := hB2.size
          have HB2 := Lib.hid hB2
          clear hlt1 hown2 hel0 hb2 hB2 hb1 hB1 HO1 HR hrl
          go_wp2_with (at_builtin; refine wpList_append_elem rfl _ _ 27 rfl w.heap.size 23 Try.underlying27 info23 _ ls rfl hO2.out w2.heap.size (.slice a2 (k + sz - (k + 12)) c2) rec rfl (by rw [World.cell?_alloc_mark]; rfl) hel.out hlb (by simp; omega) ?_; intro v3 w3 hown3 hgr3 hb3; clear hgr3)
          go_roundw
          case rel => exact ⟨k + sz, _, by omega, by simp; omega, by go_num, HF.out, hown3, (HB2.out.alloc hz2 _).trans hb3⟩
          case measure => simp [intOf]; omega
      · have hstop := HSP.out h0
        have HF : Hid (scanAll B = (ls, k, how)) := Lib.hid (by rw [← HSC.out, hstop])
        clear hstop
        have g0 : ((how : Int) != 0) = true := by simp; omega
        go_wp2_with fail
        go_ret3
        refine ⟨_, by unfold Recs; rw [HF.out]; rfl, ?_, hB1⟩
        rw [HF.out]
        exact HO.out.below hb1
    · obtain rfl : k = n := by omega
      have HF : Hid (scanAll B = (ls, k, 0)) := Lib.hid (by rw [← HSC.out, scanF_end B _ k ls (by rw [HL.out]; exact Nat.le_refl _)])
      go_wp2_with fail
      go_ret3
      refine ⟨_, by unfold Recs; rw [HF.out]; rfl, ?_, hbl⟩
      rw [HF.out]
      exact HO.out
end Go.Proofs.Ytdmbllokajolhaa
