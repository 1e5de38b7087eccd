/-
  Plain facts on the sum of bytes, for every list of bytes: no program in sight. No condition.
-/
namespace Go.Proofs.Ytdmbllokajolhaa.Crc

/-- one turn of the register -/
def stp (c : BitVec 32) : BitVec 32 := (c >>> 1) ^^^ (0xEDB88320#32 &&& (0#32 - (c &&& 1#32)))
/-- n turns -/
def turns : Nat → BitVec 32 → BitVec 32
  | 0, c => c
  | n + 1, c => turns n (stp c)
def emb (x : UInt8) : BitVec 32 := BitVec.ofNat 32 x.toNat
def byt (c : BitVec 32) (x : UInt8) : BitVec 32 := turns 8 (c ^^^ emb x)
def go (c : BitVec 32) (l : List UInt8) : BitVec 32 := l.foldl byt c
/-- the register at the beginning -/
def ini : BitVec 32 := ~~~ 0#32
def crc (l : List UInt8) : BitVec 32 := ~~~ (go ini l)

theorem turns_succ (n : Nat) (c : BitVec 32) : turns (n + 1) c = stp (turns n c) := by
  induction n generalizing c with
  | zero => rfl
  | succ n ih => show turns (n + 1) (stp c) = _; rw [ih]; rfl

theorem go_append (c : BitVec 32) (l m : List UInt8) : go c (l ++ m) = go (go c l) m := by simp [go]
theorem go_cons (c : BitVec 32) (x : UInt8) (l : List UInt8) : go c (x :: l) = go (byt c x) l := rfl
theorem go_nil (c : BitVec 32) : go c [] = c := rfl

theorem stp_if (c : BitVec 32) : stp c = (c >>> 1) ^^^ (if c.getLsbD 0 then 0xEDB88320#32 else 0#32) := by
  unfold stp
  have h1 : c &&& 1#32 = if c.getLsbD 0 then 1#32 else 0#32 := by
    ext i hi
    by_cases h : i = 0
    · subst h; cases hc : c.getLsbD 0 <;> simp_all [BitVec.getLsbD_eq_getElem]
    · cases hc : c.getLsbD 0 <;> simp [h, BitVec.getElem_one]
  rw [h1]
  split
  · exact congrArg (c >>> 1 ^^^ ·) (by decide)
  · exact congrArg (c >>> 1 ^^^ ·) (by decide)

theorem stp_xor (a b : BitVec 32) : stp (a ^^^ b) = stp a ^^^ stp b := by
  rw [stp_if, stp_if, stp_if, BitVec.ushiftRight_xor_distrib, BitVec.getLsbD_xor]
  cases a.getLsbD 0 <;> cases b.getLsbD 0 <;> simp
  · ac_rfl
  · ac_rfl
  · rw [show a >>> 1 ^^^ 3988292384#32 ^^^ (b >>> 1 ^^^ 3988292384#32) = (a >>> 1 ^^^ b >>> 1) ^^^ (3988292384#32 ^^^ 3988292384#32) from by ac_rfl, BitVec.xor_self, BitVec.xor_zero]

theorem turns_xor (n : Nat) (a b : BitVec 32) : turns n (a ^^^ b) = turns n a ^^^ turns n b := by
  induction n generalizing a b with
  | zero => rfl
  | succ n ih => show turns n (stp (a ^^^ b)) = turns n (stp a) ^^^ turns n (stp b); rw [stp_xor, ih]

theorem stp_zero : stp 0#32 = 0#32 := by decide
theorem turns_zero (n : Nat) : turns n 0#32 = 0#32 := by
  induction n with
  | zero => rfl
  | succ n ih => show turns n (stp 0#32) = _; rw [stp_zero, ih]

/-- no turn takes what is not nought to nought -/
theorem stp_ne (c : BitVec 32) (h : stp c = 0#32) : c = 0#32 := by
  rw [stp_if] at h
  by_cases h0 : c.getLsbD 0
  · exfalso
    have h31 := congrArg (fun x : BitVec 32 => x.getLsbD 31) h
    rw [if_pos h0] at h31
    simp at h31
  · rw [if_neg h0, BitVec.xor_zero] at h
    apply BitVec.eq_of_getLsbD_eq
    intro i hi
    cases i with
    | zero => simpa using h0
    | succ i =>
      have := congrArg (fun x : BitVec 32 => x.getLsbD i) h
      simp only [BitVec.getLsbD_ushiftRight] at this
      rw [Nat.add_comm]
      simpa using this

theorem turns_ne (n : Nat) (c : BitVec 32) (h : turns n c = 0#32) : c = 0#32 := by
  induction n generalizing c with
  | zero => exact h
  | succ n ih => exact stp_ne c (ih _ h)

theorem turns_inj (n : Nat) (a b : BitVec 32) (h : turns n a = turns n b) : a = b := by
  have : turns n (a ^^^ b) = 0#32 := by rw [turns_xor, h, BitVec.xor_self]
  exact BitVec.xor_eq_zero_iff.1 (turns_ne n _ this)

theorem emb_xor (x y : UInt8) : emb (x ^^^ y) = emb x ^^^ emb y := by
  unfold emb
  apply BitVec.eq_of_toNat_eq
  simp [Nat.mod_eq_of_lt (show x.toNat < 2 ^ 32 from by have := x.toNat_lt; omega), Nat.mod_eq_of_lt (show y.toNat < 2 ^ 32 from by have := y.toNat_lt; omega)]

theorem byt_xor (a b : BitVec 32) (x y : UInt8) : byt (a ^^^ b) (x ^^^ y) = byt a x ^^^ byt b y := by
  unfold byt
  rw [← turns_xor, emb_xor]
  congr 1
  ac_rfl

theorem go_xor (l m : List UInt8) (a b : BitVec 32) (h : l.length = m.length) : go (a ^^^ b) (List.zipWith (· ^^^ ·) l m) = go a l ^^^ go b m := by
  induction l generalizing m a b with
  | nil => cases m with
    | nil => rfl
    | cons => simp at h
  | cons x l ih => cases m with
    | nil => simp at h
    | cons y m => simp only [List.zipWith_cons_cons, go_cons, byt_xor]; exact ih m _ _ (by simpa using h)

theorem not_eq (a : BitVec 32) : ~~~ a = a ^^^ ini := by unfold ini; rw [show (~~~ 0#32) = BitVec.allOnes 32 from by decide, BitVec.xor_allOnes]

/-- of three texts of one length, exclusive or'd, the sum is the three sums' -/
theorem crc_lines (a b c : List UInt8) (h1 : b.length = a.length) (h2 : c.length = a.length) :
    crc (List.zipWith (· ^^^ ·) (List.zipWith (· ^^^ ·) a b) c) = crc a ^^^ crc b ^^^ crc c := by
  unfold crc
  have k : ini = (ini ^^^ ini) ^^^ ini := by decide
  have e : go ini (List.zipWith (· ^^^ ·) (List.zipWith (· ^^^ ·) a b) c) = go ini a ^^^ go ini b ^^^ go ini c := by
    conv => lhs; rw [k]
    rw [go_xor _ _ _ _ (by simp; omega), go_xor _ _ _ _ (by omega)]
  rw [e, not_eq, not_eq (go _ a), not_eq (go _ b), not_eq (go _ c)]
  generalize go _ a = x, go _ b = y, go _ c = z
  have : ∀ n : BitVec 32, x ^^^ n ^^^ (y ^^^ n) ^^^ (z ^^^ n) = x ^^^ y ^^^ z ^^^ n ^^^ (n ^^^ n) := by intro n; ac_rfl
  rw [this, BitVec.xor_self, BitVec.xor_zero]

theorem byt_inj (a b : BitVec 32) (x : UInt8) (h : byt a x = byt b x) : a = b := by
  have := turns_inj _ _ _ h
  exact BitVec.xor_right_inj (z := emb x) |>.1 (by rw [BitVec.xor_comm, this, BitVec.xor_comm])

theorem go_inj (l : List UInt8) (a b : BitVec 32) (h : go a l = go b l) : a = b := by
  induction l generalizing a b with
  | nil => exact h
  | cons x l ih => exact byt_inj _ _ _ (ih _ _ h)

/-- a turn undoes a shift -/
theorem stp_shl (z : BitVec 32) (h : z.toNat < 2 ^ 31) : stp (z <<< 1) = z := by
  rw [stp_if, if_neg (by simp), BitVec.xor_zero]
  apply BitVec.eq_of_toNat_eq
  simp [Nat.shiftLeft_eq, Nat.shiftRight_eq_div_pow]
  omega

theorem turns_shl (n : Nat) (z : BitVec 32) (h : z.toNat < 2 ^ (32 - n)) (hn : n ≤ 32) : turns n (z <<< n) = z := by
  induction n generalizing z with
  | zero => simp [turns]
  | succ n ih =>
    have h2 : z.toNat * 2 < 2 ^ (32 - n) := by
      have : 2 ^ (32 - n) = 2 ^ (32 - (n + 1)) * 2 := by rw [← Nat.pow_succ]; congr 1; omega
      omega
    have h3 : z.toNat * 2 < 2 ^ 32 := Nat.lt_of_lt_of_le h2 (Nat.pow_le_pow_right (by decide) (by omega))
    have hz : (z <<< 1).toNat = z.toNat * 2 := by
      rw [BitVec.toNat_shiftLeft, Nat.shiftLeft_eq]
      omega
    have e : z <<< (n + 1) = (z <<< 1) <<< n := by rw [Nat.add_comm, BitVec.shiftLeft_add]
    rw [turns_succ, e, ih (z <<< 1) (by rw [hz]; exact h2) (by omega), stp_shl z (by omega)]

theorem turns_pre (y z : BitVec 32) (h : turns 8 y = z) (hz : z.toNat < 2 ^ 24) : y = z <<< 8 :=
  turns_inj 8 _ _ (h.trans (turns_shl 8 z hz (by decide)).symm)

theorem emb_lt (x : UInt8) : (emb x).toNat < 256 := by
  have := x.toNat_lt
  simp [emb]
  omega

theorem emb_zero (x : UInt8) (h : emb x = 0#32) : x = 0 := by
  have h' := congrArg BitVec.toNat h
  have := x.toNat_lt
  simp [emb] at h'
  apply UInt8.toNat_inj.1
  show x.toNat = 0
  omega

/-- four bytes, from nought, come to nought only if they are nought -/
theorem four (x0 x1 x2 x3 : UInt8) (h : go 0#32 [x0, x1, x2, x3] = 0#32) : x0 = 0 ∧ x1 = 0 ∧ x2 = 0 ∧ x3 = 0 := by
  simp only [go_cons, go_nil] at h
  generalize hs1 : byt 0#32 x0 = s1 at h
  generalize hs2 : byt s1 x1 = s2 at h
  generalize hs3 : byt s2 x2 = s3 at h
  have e3 : s3 = emb x3 := BitVec.xor_eq_zero_iff.1 (turns_ne 8 _ h)
  have l3 := emb_lt x3
  have l2 := emb_lt x2
  have l1 := emb_lt x1
  have l0 := emb_lt x0
  have xorlt : ∀ (n : Nat) (a b : BitVec 32), a.toNat < 2 ^ n → b.toNat < 2 ^ n → (a ^^^ b).toNat < 2 ^ n := by
    intro n a b ha hb; rw [BitVec.toNat_xor]; exact Nat.xor_lt_two_pow ha hb
  have shl : ∀ (n : Nat) (a : BitVec 32), a.toNat < 2 ^ n → (a <<< 8).toNat < 2 ^ (n + 8) := by
    intro n a ha
    rw [BitVec.toNat_shiftLeft, Nat.shiftLeft_eq]
    exact Nat.lt_of_le_of_lt (Nat.mod_le _ _) (by rw [Nat.pow_add]; omega)
  have p2 : s2 ^^^ emb x2 = s3 <<< 8 := turns_pre _ _ hs3 (by rw [e3]; omega)
  have e2 : s2 = s3 <<< 8 ^^^ emb x2 := by rw [← p2, BitVec.xor_assoc, BitVec.xor_self, BitVec.xor_zero]
  have b2 : s2.toNat < 2 ^ 16 := by rw [e2]; exact xorlt 16 _ _ (shl 8 _ (by rw [e3]; exact l3)) (by omega)
  have p1 : s1 ^^^ emb x1 = s2 <<< 8 := turns_pre _ _ hs2 (by omega)
  have e1 : s1 = s2 <<< 8 ^^^ emb x1 := by rw [← p1, BitVec.xor_assoc, BitVec.xor_self, BitVec.xor_zero]
  have b1 : s1.toNat < 2 ^ 24 := by rw [e1]; exact xorlt 24 _ _ (shl 16 _ b2) (by omega)
  have p0 : 0#32 ^^^ emb x0 = s1 <<< 8 := turns_pre _ _ hs1 b1
  rw [BitVec.zero_xor] at p0
  have low : ∀ (a : BitVec 32) (y : UInt8), a <<< 8 = emb y → a.toNat < 2 ^ 24 → y = 0 ∧ a = 0#32 := by
    intro a y hy ha
    have h1 := congrArg BitVec.toNat hy
    have h2 := emb_lt y
    rw [BitVec.toNat_shiftLeft, Nat.shiftLeft_eq] at h1
    have h3 : a.toNat * 2 ^ 8 % 2 ^ 32 = a.toNat * 2 ^ 8 := Nat.mod_eq_of_lt (by omega)
    rw [h3] at h1
    have h4 : a.toNat = 0 := by omega
    have h5 : a = 0#32 := BitVec.eq_of_toNat_eq h4
    subst h5
    exact ⟨emb_zero y (by rw [← hy]; rfl), rfl⟩
  obtain ⟨z0, z1⟩ := low s1 x0 p0.symm b1
  rw [z1] at e1
  obtain ⟨y1, z2⟩ := low s2 x1 (BitVec.xor_eq_zero_iff.1 e1.symm) (by omega)
  rw [z2] at e2
  obtain ⟨y2, z3⟩ := low s3 x2 (BitVec.xor_eq_zero_iff.1 e2.symm) (by rw [e3]; omega)
  exact ⟨z0, y1, y2, emb_zero x3 (by rw [← e3, z3])⟩

theorem u8_xor_zero (x y : UInt8) (h : x ^^^ y = 0) : x = y := UInt8.xor_eq_zero_iff.1 h

theorem four_inj (s : BitVec 32) (x0 x1 x2 x3 y0 y1 y2 y3 : UInt8) (h : go s [x0, x1, x2, x3] = go s [y0, y1, y2, y3]) : x0 = y0 ∧ x1 = y1 ∧ x2 = y2 ∧ x3 = y3 := by
  have e := go_xor [x0, x1, x2, x3] [y0, y1, y2, y3] s s rfl
  rw [h, BitVec.xor_self, BitVec.xor_self] at e
  obtain ⟨a, b, c, d⟩ := four _ _ _ _ e
  exact ⟨u8_xor_zero _ _ a, u8_xor_zero _ _ b, u8_xor_zero _ _ c, u8_xor_zero _ _ d⟩

theorem crc_inj (l m : List UInt8) (h : crc l = crc m) : go ini l = go ini m := by
  unfold crc at h
  exact BitVec.not_inj.1 h

/-- four bytes side by side: texts that part there alone have other sums -/
theorem crc_four (pre post : List UInt8) (x0 x1 x2 x3 y0 y1 y2 y3 : UInt8) (h : crc (pre ++ [x0, x1, x2, x3] ++ post) = crc (pre ++ [y0, y1, y2, y3] ++ post)) :
    x0 = y0 ∧ x1 = y1 ∧ x2 = y2 ∧ x3 = y3 := by
  have h1 := crc_inj _ _ h
  simp only [go_append] at h1
  exact four_inj _ _ _ _ _ _ _ _ _ (go_inj _ _ _ h1)

theorem crc_two (pre post : List UInt8) (x0 x1 y0 y1 : UInt8) (h : crc (pre ++ [x0, x1] ++ post) = crc (pre ++ [y0, y1] ++ post)) : x0 = y0 ∧ x1 = y1 := by
  have h1 := crc_inj _ _ h
  simp only [go_append] at h1
  have h2 := go_inj _ _ _ h1
  have h3 : go (go ini pre) ([x0, x1] ++ [0, 0]) = go (go ini pre) ([y0, y1] ++ [0, 0]) := by rw [go_append, go_append, h2]
  obtain ⟨a, b, _, _⟩ := four_inj _ _ _ _ _ _ _ _ _ h3
  exact ⟨a, b⟩

theorem split_two (l : List UInt8) (k : Nat) (h : k + 2 ≤ l.length) (x y : UInt8) : (l.set k x).set (k + 1) y = l.take k ++ [x, y] ++ l.drop (k + 2) := by
  apply List.ext_getElem?
  intro i
  simp only [List.getElem?_set, List.getElem?_append, List.length_append, List.length_take, List.length_cons, List.length_nil, List.length_set, List.getElem?_take, List.getElem?_drop]
  by_cases h1 : i < k
  · simp [h1, show i < l.length by omega, show ¬ k + 1 = i by omega, show ¬ k = i by omega, show min k l.length = k by omega, show i < k + 2 by omega]
  · by_cases h2 : i = k
    · subst h2
      simp [show min i l.length = i by omega, show i < l.length by omega]
    · by_cases h3 : i = k + 1
      · subst h3
        simp [show min k l.length = k by omega, show k + 1 < l.length by omega, show ¬ k + 1 < k by omega]
      · simp [show ¬ k + 1 = i by omega, show ¬ k = i by omega, show min k l.length = k by omega, show ¬ i < k + 2 by omega, show k + 2 + (i - (k + 2)) = i by omega]

theorem set_same (l : List UInt8) (k : Nat) (x : UInt8) (h : k < l.length) (hx : l.getD k 0 = x) : l.set k x = l := by
  apply List.ext_getElem?
  intro i
  rw [List.getElem?_set]
  by_cases h1 : k = i
  · subst h1
    simp [h] at hx ⊢
    exact hx.symm
  · simp [h1]

/-- two unlike bytes side by side that change their places change the sum -/
theorem crc_swap (l : List UInt8) (k : Nat) (x y : UInt8) (h : k + 2 ≤ l.length) (hx : l.getD k 0 = x) (hy : l.getD (k + 1) 0 = y) (hxy : ¬ x = y) :
    ¬ crc ((l.set k y).set (k + 1) x) = crc l := by
  intro e
  have e2 : l = (l.set k x).set (k + 1) y := by
    rw [set_same l k x (by omega) hx, set_same l (k + 1) y (by omega) hy]
  have e3 : crc ((l.set k y).set (k + 1) x) = crc ((l.set k x).set (k + 1) y) := by rw [e, ← e2]
  rw [split_two l k h, split_two l k h] at e3
  exact hxy (crc_two _ _ _ _ _ _ e3).1.symm

/-- three texts, exclusive or'd -/
def xor3 (a b c : List UInt8) : List UInt8 := List.zipWith (· ^^^ ·) (List.zipWith (· ^^^ ·) a b) c
theorem xor3_len (a b c : List UInt8) (h1 : b.length = a.length) (h2 : c.length = a.length) : (xor3 a b c).length = a.length := by
  simp [xor3]; omega
theorem xor3_at (a b c : List UInt8) (h1 : b.length = a.length) (h2 : c.length = a.length) (k : Nat) (hk : k < a.length) : (xor3 a b c).getD k 0 = a.getD k 0 ^^^ b.getD k 0 ^^^ c.getD k 0 := by
  simp [xor3, List.getElem?_zipWith, show k < b.length by omega, show k < c.length by omega, hk]
/-- what a loop has filled in after k rounds -/
def part (T : List UInt8) (k : Nat) : List UInt8 := T.take k ++ List.replicate (T.length - k) 0
theorem part_zero (T : List UInt8) : part T 0 = List.replicate T.length 0 := by simp [part]
theorem part_all (T : List UInt8) : part T T.length = T := by simp [part]
theorem part_len (T : List UInt8) (k : Nat) (h : k ≤ T.length) : (part T k).length = T.length := by simp [part]; omega
theorem part_set (T : List UInt8) (k : Nat) (h : k < T.length) : (part T k).set k (T.getD k 0) = part T (k + 1) := by
  apply List.ext_getElem?
  intro i
  unfold part
  simp only [List.getElem?_set, List.getElem?_append, List.length_append, List.length_take, List.length_replicate, List.getElem?_take, List.getElem?_replicate]
  by_cases h1 : k = i
  · subst h1
    simp [h, show min k T.length = k by omega, show min (k + 1) T.length = k + 1 by omega, show k < k + (T.length - k) by omega]
  · by_cases h2 : i < k
    · simp [h1, h2, show min k T.length = k by omega, show min (k + 1) T.length = k + 1 by omega, show i < k + 1 by omega]
    · have : (i - k < T.length - k) = (i - (k + 1) < T.length - (k + 1)) := by
        rw [eq_iff_iff]; omega
      simp [h1, h2, show min k T.length = k by omega, show min (k + 1) T.length = k + 1 by omega, show ¬ i < k + 1 by omega, this]

/-- t bytes of bs, exclusive or'd into l from place k on -/
def mixTo (l : List UInt8) (k : Nat) (bs : List UInt8) : Nat → List UInt8
  | 0 => l
  | t + 1 => (mixTo l k bs t).set (k + t) ((mixTo l k bs t).getD (k + t) 0 ^^^ bs.getD t 0)
theorem mixTo_len (l : List UInt8) (k : Nat) (bs : List UInt8) (t : Nat) : (mixTo l k bs t).length = l.length := by
  induction t with
  | zero => rfl
  | succ t ih => simp [mixTo, ih]
theorem set_behind (pre rest : List UInt8) (t : Nat) (x : UInt8) : (pre ++ rest).set (pre.length + t) x = pre ++ rest.set t x := by
  rw [List.set_append_right _ _ (by omega)]
  congr 2
  omega
theorem get_behind (pre rest : List UInt8) (t : Nat) : (pre ++ rest).getD (pre.length + t) 0 = rest.getD t 0 := by
  simp [List.getElem?_append_right]
theorem mixTo_four (pre post : List UInt8) (y0 y1 y2 y3 x0 x1 x2 x3 : UInt8) :
    mixTo (pre ++ [y0, y1, y2, y3] ++ post) pre.length [x0, x1, x2, x3] 4 = pre ++ [y0 ^^^ x0, y1 ^^^ x1, y2 ^^^ x2, y3 ^^^ x3] ++ post := by
  simp only [mixTo, List.append_assoc, set_behind, get_behind]
  rfl
theorem cut_four (l : List UInt8) (k : Nat) (h : k + 4 ≤ l.length) : ∃ pre post y0 y1 y2 y3, l = pre ++ [y0, y1, y2, y3] ++ post ∧ pre.length = k := by
  have h1 : l = l.take k ++ l.drop k := (List.take_append_drop k l).symm
  have h2 : (l.drop k).length = l.length - k := List.length_drop
  match hd : l.drop k, h2 with
  | y0 :: y1 :: y2 :: y3 :: post, _ => exact ⟨l.take k, post, y0, y1, y2, y3, by rw [List.append_assoc]; simpa [hd] using h1, by simp; omega⟩
  | [], h2 => simp at h2; omega
  | [_], h2 => simp at h2; omega
  | [_, _], h2 => simp at h2; omega
  | [_, _, _], h2 => simp at h2; omega
/-- any change within four bytes side by side changes the sum -/
theorem crc_burst (l : List UInt8) (k : Nat) (h : k + 4 ≤ l.length) (x0 x1 x2 x3 : UInt8) (hx : ¬ (x0 = 0 ∧ x1 = 0 ∧ x2 = 0 ∧ x3 = 0)) : ¬ crc (mixTo l k [x0, x1, x2, x3] 4) = crc l := by
  obtain ⟨pre, post, y0, y1, y2, y3, rfl, rfl⟩ := cut_four l k h
  rw [mixTo_four]
  intro e
  obtain ⟨a, b, c, d⟩ := crc_four _ _ _ _ _ _ _ _ _ _ e
  have z : ∀ y x : UInt8, y ^^^ x = y → x = 0 := by
    intro y x hh
    have : y ^^^ (y ^^^ x) = y ^^^ y := by rw [hh]
    rw [← UInt8.xor_assoc, UInt8.xor_self, UInt8.zero_xor] at this
    exact this
  exact hx ⟨z _ _ a, z _ _ b, z _ _ c, z _ _ d⟩

end Go.Proofs.Ytdmbllokajolhaa.Crc
