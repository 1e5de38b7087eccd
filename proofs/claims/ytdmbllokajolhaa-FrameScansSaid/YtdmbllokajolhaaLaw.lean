/-
  The plain law of frames. No walk here.
-/
import Derived.Test.YtdmbllokajolhaaScan
namespace Go.Proofs.Ytdmbllokajolhaa
open Go.RowKit

theorem b4_nat (c : BitVec 32) (i : Nat) : (b4 c i).toNat = c.toNat / 2 ^ (8 * (3 - i)) % 256 := by unfold b4; rw [UInt8.toNat_ofNat']
theorem num4_be4 (c : BitVec 32) : num4 (b4 c 0) (b4 c 1) (b4 c 2) (b4 c 3) = c := by
  apply BitVec.eq_of_toNat_eq
  rw [num4_nat, b4_nat, b4_nat, b4_nat, b4_nat]
  have := c.isLt
  simp only [Nat.reduceMul, Nat.reduceSub, Nat.reducePow]
  omega
theorem be4_num4 (x0 x1 x2 x3 : UInt8) : be4 (num4 x0 x1 x2 x3) = [x0, x1, x2, x3] := by
  have h0 := x0.toNat_lt
  have h1 := x1.toNat_lt
  have h2 := x2.toNat_lt
  have h3 := x3.toNat_lt
  have e : ∀ (i : Nat) (y : UInt8), (num4 x0 x1 x2 x3).toNat / 2 ^ (8 * (3 - i)) % 256 = y.toNat → b4 (num4 x0 x1 x2 x3) i = y := fun i y h => UInt8.toNat_inj.1 (by rw [b4_nat, h])
  unfold be4
  rw [e 0 x0 (by rw [num4_nat]; simp only [Nat.reduceMul, Nat.reduceSub, Nat.reducePow]; omega), e 1 x1 (by rw [num4_nat]; simp only [Nat.reduceMul, Nat.reduceSub, Nat.reducePow]; omega),
    e 2 x2 (by rw [num4_nat]; simp only [Nat.reduceMul, Nat.reduceSub, Nat.reducePow]; omega), e 3 x3 (by rw [num4_nat]; simp only [Nat.reduceMul, Nat.reduceSub, Nat.reducePow]; omega)]
theorem be4_inj {a b : BitVec 32} (h : be4 a = be4 b) : a = b := by
  unfold be4 at h
  simp only [List.cons.injEq, and_true] at h
  rw [← num4_be4 a, ← num4_be4 b, h.1, h.2.1, h.2.2.1, h.2.2.2]
theorem be4_at4 (l : List UInt8) (i : Nat) (h : i + 4 ≤ l.length) : be4 (at4 l i) = (l.drop i).take 4 := by
  unfold at4
  rw [be4_num4]
  apply List.ext_getElem?
  intro j
  rcases (by omega : j = 0 ∨ j = 1 ∨ j = 2 ∨ j = 3 ∨ 4 ≤ j) with rfl | rfl | rfl | rfl | h4
  · simp [List.getElem?_take, List.getElem?_drop, show i < l.length by omega]
  · simp [List.getElem?_take, List.getElem?_drop, show i + 1 < l.length by omega]
  · simp [List.getElem?_take, List.getElem?_drop, show i + 2 < l.length by omega]
  · simp [List.getElem?_take, List.getElem?_drop, show i + 3 < l.length by omega]
  · rw [List.getElem?_eq_none (by simpa using h4), List.getElem?_eq_none (by simp; omega)]
theorem at4_of (l : List UInt8) (i : Nat) (c : BitVec 32) (h : (l.drop i).take 4 = be4 c) : at4 l i = c := by
  apply be4_inj
  have hl : i + 4 ≤ l.length := by
    have := congrArg List.length h
    rw [List.length_take, List.length_drop, be4_len] at this
    omega
  rw [be4_at4 l i hl, h]

theorem take8_be (L : List UInt8) (h : 8 ≤ L.length) : L.take 8 = be4 (at4 L 0) ++ be4 (at4 L 4) := by
  rw [be4_at4 L 0 (by omega), be4_at4 L 4 (by omega), List.drop_zero]
  exact List.take_add (i := 4) (j := 4)
theorem take_frame (L : List UInt8) (n : Nat) (h : 12 + n ≤ L.length) : L.take (12 + n) = L.take 8 ++ be4 (at4 L 8) ++ (L.drop 12).take n := by
  rw [be4_at4 L 8 (by omega)]
  rw [show 12 + n = 8 + (4 + n) by omega, List.take_add, List.take_add, List.drop_drop, List.append_assoc]
theorem headF_of (L : List UInt8) (rec : List UInt8) (h : 8 ≤ L.length) (h4 : at4 L 4 = ~~~ (at4 L 0)) (hr : rec.length = (at4 L 0).toNat) : headF rec = L.take 8 := by
  unfold headF
  have : BitVec.ofNat 32 rec.length = at4 L 0 := by rw [hr]; apply BitVec.eq_of_toNat_eq; simp
  rw [this, take8_be L h, h4]
/-- a record's own frame stands there just if its sum does -/
theorem frame_iff (L : List UInt8) (rec : List UInt8) (hr : rec = (L.drop 12).take (at4 L 0).toNat) (hl : 12 + (at4 L 0).toNat ≤ L.length) (h4 : at4 L 4 = ~~~ (at4 L 0)) :
    frameF rec = L.take (12 + (at4 L 0).toNat) ↔ Crc.crc (L.take 8 ++ rec) = at4 L 8 := by
  have hlen : rec.length = (at4 L 0).toNat := by rw [hr, List.length_take, List.length_drop]; omega
  rw [take_frame L _ hl, ← hr]
  unfold frameF
  rw [headF_of L rec (by omega) h4 hlen]
  constructor
  · intro h
    have h1 := List.append_cancel_right h
    exact be4_inj (List.append_cancel_left h1)
  · intro h
    rw [h]

/-- what next says of a whole frame -/
theorem nextF_frame (rec rest : List UInt8) (h : rec.length ≤ 20000) : nextF (frameF rec ++ rest) = (12 + rec.length, 0) := by
  have hl := frameF_len rec
  have hL : (frameF rec ++ rest).length = 12 + rec.length + rest.length := by rw [List.length_append, hl]
  have e : frameF rec ++ rest = be4 (BitVec.ofNat 32 rec.length) ++ (be4 (~~~ (BitVec.ofNat 32 rec.length)) ++ (be4 (Crc.crc (headF rec ++ rec)) ++ (rec ++ rest))) := by
    unfold frameF headF; simp only [List.append_assoc]
  have h0 : at4 (frameF rec ++ rest) 0 = BitVec.ofNat 32 rec.length := at4_of _ _ _ (by rw [e, List.drop_zero]; rfl)
  have h4 : at4 (frameF rec ++ rest) 4 = ~~~ (BitVec.ofNat 32 rec.length) := at4_of _ _ _ (by rw [e]; rfl)
  have h8 : at4 (frameF rec ++ rest) 8 = Crc.crc (headF rec ++ rec) := at4_of _ _ _ (by rw [e]; rfl)
  have hn : (BitVec.ofNat 32 rec.length).toNat = rec.length := by rw [BitVec.toNat_ofNat, Nat.mod_eq_of_lt (by omega)]
  have ht : (frameF rec ++ rest).take 8 = headF rec := by rw [e]; rfl
  have hd : ((frameF rec ++ rest).drop 12).take rec.length = rec := by
    have : (frameF rec ++ rest).drop 12 = rec ++ rest := by rw [e]; rfl
    rw [this, List.take_left]
  unfold nextF
  rw [if_neg (by omega), h0, h4, h8, hn, if_neg (by simp only [ne_eq, not_true_eq_false, false_or]; omega), if_neg (by omega), ht, hd, if_neg (by simp)]
theorem rec_of_frame (rec rest : List UInt8) : ((frameF rec ++ rest).take (12 + rec.length)).drop 12 = rec := by
  have e : frameF rec ++ rest = (headF rec ++ be4 (Crc.crc (headF rec ++ rec))) ++ (rec ++ rest) := by unfold frameF; simp only [List.append_assoc]
  have hl : (headF rec ++ be4 (Crc.crc (headF rec ++ rec))).length = 12 := rfl
  rw [List.drop_take, show 12 + rec.length - 12 = rec.length by omega, e, List.drop_left' hl, List.take_left]
/-- what is cut off is torn -/
theorem nextF_torn (rec : List UInt8) (h : rec.length ≤ 20000) (j : Nat) (hj : j < 12 + rec.length) : nextF ((frameF rec).take j) = (0, 1) := by
  have hl := frameF_len rec
  have hlt : ((frameF rec).take j).length = j := by rw [List.length_take]; omega
  unfold nextF
  by_cases h12 : j < 12
  · rw [if_pos (by omega)]
  · rw [if_neg (by omega)]
    have e : frameF rec = be4 (BitVec.ofNat 32 rec.length) ++ (be4 (~~~ (BitVec.ofNat 32 rec.length)) ++ (be4 (Crc.crc (headF rec ++ rec)) ++ rec)) := by
      unfold frameF headF; simp only [List.append_assoc]
    have h0 : at4 ((frameF rec).take j) 0 = BitVec.ofNat 32 rec.length := at4_of _ _ _ (by
      rw [List.drop_zero, List.take_take, Nat.min_eq_left (by omega), e]; rfl)
    have h4 : at4 ((frameF rec).take j) 4 = ~~~ (BitVec.ofNat 32 rec.length) := at4_of _ _ _ (by
      rw [List.drop_take, List.take_take, Nat.min_eq_left (by omega), e]; rfl)
    have hn : (BitVec.ofNat 32 rec.length).toNat = rec.length := by rw [BitVec.toNat_ofNat, Nat.mod_eq_of_lt (by omega)]
    rw [h0, h4, hn, if_neg (by simp only [ne_eq, not_true_eq_false, false_or]; omega), if_pos (by omega)]

/-- frames, one behind the other -/
def frames (ls : List (List UInt8)) : List UInt8 := ls.flatMap frameF
theorem frames_nil : frames [] = [] := rfl
theorem frames_cons (r : List UInt8) (ls : List (List UInt8)) : frames (r :: ls) = frameF r ++ frames ls := rfl
theorem frames_append (ls ms : List (List UInt8)) : frames (ls ++ ms) = frames ls ++ frames ms := by simp [frames]

/-- records that are framed are scanned back, whatever is behind -/
theorem scanF_frames (pre rest : List UInt8) (ls acc : List (List UInt8)) (h : ∀ r ∈ ls, r.length ≤ 20000) (t : Nat) (ht : (frames ls ++ rest).length ≤ t) :
    scanF (pre ++ (frames ls ++ rest)) t pre.length acc = scanF (pre ++ (frames ls ++ rest)) (t - (frames ls).length) (pre.length + (frames ls).length) (acc ++ ls) := by
  induction ls generalizing pre acc t with
  | nil => simp [frames_nil]
  | cons r ls ih =>
    have hr := h r (by simp)
    have hl := frameF_len r
    have hlen : (frames (r :: ls) ++ rest).length = 12 + r.length + (frames ls ++ rest).length := by rw [frames_cons, List.append_assoc, List.length_append, hl]
    obtain ⟨s, rfl⟩ : ∃ s, t = s + 1 := ⟨t - 1, by omega⟩
    have hd : (pre ++ (frames (r :: ls) ++ rest)).drop pre.length = frameF r ++ (frames ls ++ rest) := by rw [List.drop_left, frames_cons, List.append_assoc]
    have hn := nextF_frame r (frames ls ++ rest) hr
    have hrec := rec_of_frame r (frames ls ++ rest)
    have e1 : scanF (pre ++ (frames (r :: ls) ++ rest)) (s + 1) pre.length acc = scanF (pre ++ (frames (r :: ls) ++ rest)) s (pre.length + (12 + r.length)) (acc ++ [r]) := by
      show (if _ then _ else if _ then _ else _) = _
      rw [hd, hn]
      simp only
      rw [if_neg (by rw [List.length_append, hlen]; omega), if_pos trivial, hrec]
    rw [e1]
    have e2 : pre ++ (frames (r :: ls) ++ rest) = (pre ++ frameF r) ++ (frames ls ++ rest) := by rw [frames_cons]; simp only [List.append_assoc]
    have e3 : pre.length + (12 + r.length) = (pre ++ frameF r).length := by rw [List.length_append, hl]
    rw [e2, e3, ih (pre ++ frameF r) (acc ++ [r]) (fun x hx => h x (by simp [hx])) s (by omega)]
    rw [frames_cons, List.length_append, List.length_append, hl]
    have hfl : (frames ls).length ≤ (frames ls ++ rest).length := by rw [List.length_append]; omega
    rw [List.append_assoc acc, List.singleton_append]
    rw [show pre.length + (12 + r.length) + (frames ls).length = pre.length + (12 + r.length + (frames ls).length) by omega]
    exact scanF_fuel _ _ _ _ _ (by simp only [List.length_append, hl] at hlen ht ⊢; omega) (by simp only [List.length_append, hl] at hlen ht ⊢; omega)

theorem scanAll_from (ls : List (List UInt8)) (rest : List UInt8) (h : ∀ r ∈ ls, r.length ≤ 20000) :
    scanAll (frames ls ++ rest) = scanF (frames ls ++ rest) rest.length (frames ls).length ls := by
  unfold scanAll
  have := scanF_frames [] rest ls [] h (frames ls ++ rest).length (Nat.le_refl _)
  simp only [List.nil_append, List.length_nil, Nat.zero_add] at this
  rw [this]
  exact scanF_fuel _ _ _ _ _ (by rw [List.length_append]; omega) (by rw [List.length_append]; omega)
theorem scanAll_frames (ls : List (List UInt8)) (h : ∀ r ∈ ls, r.length ≤ 20000) : scanAll (frames ls) = (ls, (frames ls).length, 0) := by
  have := scanAll_from ls [] h
  rw [List.append_nil] at this
  rw [this]; rfl
theorem scanAll_stop (ls : List (List UInt8)) (rest : List UInt8) (h : ∀ r ∈ ls, r.length ≤ 20000) (h0 : 0 < rest.length) (h1 : ¬ (nextF rest).2 = 0) : scanAll (frames ls ++ rest) = (ls, (frames ls).length, (nextF rest).2) := by
  rw [scanAll_from ls rest h]
  obtain ⟨t, ht⟩ : ∃ t, rest.length = t + 1 := ⟨rest.length - 1, by omega⟩
  rw [ht]
  show (if _ then _ else if _ then _ else _) = _
  rw [List.drop_left, if_neg (by rw [List.length_append]; omega), if_neg h1]
theorem scanAll_torn (ls : List (List UInt8)) (r : List UInt8) (j : Nat) (h : ∀ r ∈ ls, r.length ≤ 20000) (hr : r.length ≤ 20000) (hj : j < 12 + r.length) :
    scanAll (frames ls ++ (frameF r).take j) = (ls, (frames ls).length, if j = 0 then 0 else 1) := by
  by_cases h0 : j = 0
  · subst h0
    rw [List.take_zero, List.append_nil, scanAll_frames ls h]; rfl
  · have hl := frameF_len r
    have hn := nextF_torn r hr j hj
    rw [scanAll_stop ls _ h (by rw [List.length_take]; omega) (by rw [hn]; decide), hn, if_neg h0]

/-- one byte changed changes the sum -/
theorem crc_one (pre post : List UInt8) (x y : UInt8) (h : Crc.crc (pre ++ x :: post) = Crc.crc (pre ++ y :: post)) : x = y := by
  have h1 := Crc.crc_inj _ _ h
  rw [Crc.go_append, Crc.go_append, Crc.go_cons, Crc.go_cons] at h1
  have h2 := Crc.go_inj _ _ _ h1
  unfold Crc.byt at h2
  have h3 := Crc.turns_inj _ _ _ h2
  have h4 := BitVec.xor_right_inj (z := Crc.go Crc.ini pre) |>.1 h3
  have h5 : Crc.emb (x ^^^ y) = 0#32 := by rw [Crc.emb_xor, h4, BitVec.xor_self]
  exact Crc.u8_xor_zero _ _ (Crc.emb_zero _ h5)
theorem set_split (l : List UInt8) (i : Nat) (x : UInt8) (h : i < l.length) : l.set i x = l.take i ++ x :: l.drop (i + 1) := by
  rw [List.set_eq_take_append_cons_drop, if_pos h]
theorem get_split (l : List UInt8) (i : Nat) (h : i < l.length) : l = l.take i ++ l.getD i 0 :: l.drop (i + 1) := by
  have := set_split l i (l.getD i 0) h
  rw [Crc.set_same l i _ h rfl] at this
  exact this
theorem be4_set_ne (c : BitVec 32) (i : Nat) (x : UInt8) (hi : i < 4) (hx : x ≠ (be4 c).getD i 0) : ∀ d : BitVec 32, (be4 c).set i x = be4 d → d ≠ c := by
  intro d hd e
  subst e
  apply hx
  have := congrArg (fun l : List UInt8 => l.getD i 0) hd
  simp only [List.getD_eq_getElem?_getD] at this ⊢
  rw [← this, List.getElem?_set]
  simp [be4_len, hi]
theorem be4_of (l : List UInt8) (h : l.length = 4) : ∃ d, l = be4 d := by
  match l, h with
  | [x0, x1, x2, x3], _ => exact ⟨num4 x0 x1 x2 x3, (be4_num4 _ _ _ _).symm⟩
/-- a frame with one byte changed is broken -/
theorem nextF_changed (rec : List UInt8) (h : rec.length ≤ 20000) (i : Nat) (hi : i < 12 + rec.length) (x : UInt8) (hx : x ≠ (frameF rec).getD i 0) : (nextF ((frameF rec).set i x)).2 = 2 := by
  have hl := frameF_len rec
  have hn : (BitVec.ofNat 32 rec.length).toNat = rec.length := by rw [BitVec.toNat_ofNat, Nat.mod_eq_of_lt (by omega)]
  have e : frameF rec = be4 (BitVec.ofNat 32 rec.length) ++ (be4 (~~~ (BitVec.ofNat 32 rec.length)) ++ (be4 (Crc.crc (headF rec ++ rec)) ++ rec)) := by
    unfold frameF headF; simp only [List.append_assoc]
  generalize hc : BitVec.ofNat 32 rec.length = c at e hn
  unfold nextF
  rw [if_neg (by rw [List.length_set]; omega)]
  by_cases h4 : i < 4
  · have e2 : (frameF rec).set i x = (be4 c).set i x ++ (be4 (~~~ c) ++ (be4 (Crc.crc (headF rec ++ rec)) ++ rec)) := by
      rw [e, List.set_append_left _ _ (by rw [be4_len]; exact h4)]
    obtain ⟨d, hd⟩ := be4_of ((be4 c).set i x) (by rw [List.length_set, be4_len])
    have hdc := be4_set_ne c i x h4 (by
      rw [e] at hx
      rw [List.getD_eq_getElem?_getD, List.getElem?_append_left (by rw [be4_len]; exact h4)] at hx
      simpa using hx) d hd
    have a0 : at4 ((frameF rec).set i x) 0 = d := at4_of _ _ _ (by rw [e2, hd, List.drop_zero]; rfl)
    have a4 : at4 ((frameF rec).set i x) 4 = ~~~ c := at4_of _ _ _ (by rw [e2, hd]; rfl)
    rw [a0, a4, if_pos (.inl (fun e => hdc (BitVec.not_inj.1 e.symm)))]
  · by_cases h8 : i < 8
    · have e2 : (frameF rec).set i x = be4 c ++ ((be4 (~~~ c)).set (i - 4) x ++ (be4 (Crc.crc (headF rec ++ rec)) ++ rec)) := by
        rw [e, List.set_append_right _ _ (by rw [be4_len]; omega), be4_len, List.set_append_left _ _ (by rw [be4_len]; omega)]
      obtain ⟨d, hd⟩ := be4_of ((be4 (~~~ c)).set (i - 4) x) (by rw [List.length_set, be4_len])
      have hdc := be4_set_ne (~~~ c) (i - 4) x (by omega) (by
        rw [e] at hx
        rw [List.getD_eq_getElem?_getD, List.getElem?_append_right (by rw [be4_len]; omega), be4_len, List.getElem?_append_left (by rw [be4_len]; omega)] at hx
        simpa using hx) d hd
      have a0 : at4 ((frameF rec).set i x) 0 = c := at4_of _ _ _ (by rw [e2, hd, List.drop_zero]; rfl)
      have a4 : at4 ((frameF rec).set i x) 4 = d := at4_of _ _ _ (by rw [e2, hd]; rfl)
      rw [a0, a4, if_pos (.inl hdc)]
    · have a0 : ∀ r : List UInt8, at4 (be4 c ++ (be4 (~~~ c) ++ r)) 0 = c := fun r => at4_of _ _ _ (by rw [List.drop_zero]; rfl)
      have a4 : ∀ r : List UInt8, at4 (be4 c ++ (be4 (~~~ c) ++ r)) 4 = ~~~ c := fun r => at4_of _ _ _ (by rfl)
      have t8 : ∀ r : List UInt8, (be4 c ++ (be4 (~~~ c) ++ r)).take 8 = headF rec := fun r => by unfold headF; rw [hc]; rfl
      have e2 : (frameF rec).set i x = be4 c ++ (be4 (~~~ c) ++ (be4 (Crc.crc (headF rec ++ rec)) ++ rec).set (i - 8) x) := by
        rw [e, List.set_append_right _ _ (by rw [be4_len]; omega), be4_len, List.set_append_right _ _ (by rw [be4_len]; omega), be4_len, show i - 4 - 4 = i - 8 by omega]
      rw [if_neg (by rw [e2, a0, a4, hn]; simp only [ne_eq, not_true_eq_false, false_or]; omega), if_neg (by rw [List.length_set, e2, a0, hn]; omega)]
      rw [if_pos]
      rw [e2, a0, hn, t8]
      by_cases h12 : i < 12
      · rw [List.set_append_left _ _ (by rw [be4_len]; omega)]
        obtain ⟨d, hd⟩ := be4_of ((be4 (Crc.crc (headF rec ++ rec))).set (i - 8) x) (by rw [List.length_set, be4_len])
        have hdc := be4_set_ne _ (i - 8) x (by omega) (by
          rw [e] at hx
          rw [List.getD_eq_getElem?_getD, List.getElem?_append_right (by rw [be4_len]; omega), be4_len, List.getElem?_append_right (by rw [be4_len]; omega), be4_len, List.getElem?_append_left (by rw [be4_len]; omega), show i - 4 - 4 = i - 8 by omega] at hx
          simpa using hx) d hd
        rw [hd]
        have a8 : at4 (be4 c ++ (be4 (~~~ c) ++ (be4 d ++ rec))) 8 = d := at4_of _ _ _ (by rfl)
        have hr : ((be4 c ++ (be4 (~~~ c) ++ (be4 d ++ rec))).drop 12).take rec.length = rec := by
          rw [show (be4 c ++ (be4 (~~~ c) ++ (be4 d ++ rec))).drop 12 = rec from rfl, List.take_length]
        rw [a8, hr]
        exact fun h => hdc h.symm
      · rw [List.set_append_right _ _ (by rw [be4_len]; omega), be4_len, show i - 8 - 4 = i - 12 by omega]
        have a8 : ∀ r : List UInt8, at4 (be4 c ++ (be4 (~~~ c) ++ (be4 (Crc.crc (headF rec ++ rec)) ++ r))) 8 = Crc.crc (headF rec ++ rec) := fun r => at4_of _ _ _ (by rfl)
        have hr : ((be4 c ++ (be4 (~~~ c) ++ (be4 (Crc.crc (headF rec ++ rec)) ++ rec.set (i - 12) x))).drop 12).take rec.length = rec.set (i - 12) x := by
          rw [show (be4 c ++ (be4 (~~~ c) ++ (be4 (Crc.crc (headF rec ++ rec)) ++ rec.set (i - 12) x))).drop 12 = rec.set (i - 12) x from rfl, List.take_of_length_le (by rw [List.length_set]; exact Nat.le_refl _)]
        rw [a8, hr]
        intro heq
        have hlt : i - 12 < rec.length := by omega
        have hg : (frameF rec).getD i 0 = rec.getD (i - 12) 0 := by
          rw [e, List.getD_eq_getElem?_getD, List.getElem?_append_right (by rw [be4_len]; omega), be4_len, List.getElem?_append_right (by rw [be4_len]; omega), be4_len, List.getElem?_append_right (by rw [be4_len]; omega), be4_len, show i - 4 - 4 - 4 = i - 12 by omega]
          rfl
        apply hx
        rw [hg]
        have heq2 : Crc.crc ((headF rec ++ rec.take (i - 12)) ++ x :: rec.drop (i - 12 + 1)) = Crc.crc ((headF rec ++ rec.take (i - 12)) ++ rec.getD (i - 12) 0 :: rec.drop (i - 12 + 1)) := by
          rw [List.append_assoc, List.append_assoc, ← set_split rec _ x hlt, ← get_split rec _ hlt]
          exact heq
        exact crc_one _ _ _ _ heq2
end Go.Proofs.Ytdmbllokajolhaa
