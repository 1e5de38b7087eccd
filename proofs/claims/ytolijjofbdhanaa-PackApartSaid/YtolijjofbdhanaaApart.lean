/-
  The walk of PackApart.
-/
import Derived.Test.YtolijjofbdhanaaAw
import Derived.Test.YtolijjofbdhanaaBack
import Derived.Test.YtolijjofbdhanaaQuiet
import Derived.Test.YtolijjofbdhanaaKitS
namespace Go.Proofs.Ytolijjofbdhanaa
open Go.RowKit

def txts (ss : List ByteArray) : List UInt8 := ss.flatMap txt
theorem txt_inj (s t : ByteArray) (r r' : List UInt8) (hs : s.size ≤ 140737488355328) (ht : t.size ≤ 140737488355328) (h : txt s ++ r = txt t ++ r') : s = t ∧ r = r' := by
  have h1 := rT_txt s r false 9223372036854775807 (by omega) (by omega)
  have h2 := rT_txt t r' false 9223372036854775807 (by omega) (by omega)
  rw [h, h2] at h1
  simp only [Rd.mk.injEq] at h1
  exact ⟨h1.1.symm, h1.2.1.symm⟩
theorem txts_inj (ss ts : List ByteArray) : (∀ s ∈ ss, s.size ≤ 140737488355328) → (∀ s ∈ ts, s.size ≤ 140737488355328) → txts ss = txts ts → ss = ts := by
  induction ss generalizing ts with
  | nil =>
    intro _ _ h
    cases ts with
    | nil => rfl
    | cons t ts =>
      have := congrArg List.length h
      simp only [txts, List.flatMap_nil, List.flatMap_cons, List.length_append, txt_len, List.length_nil] at this
      omega
  | cons s ss ih =>
    intro h1 h2 h
    cases ts with
    | nil =>
      have := congrArg List.length h
      simp only [txts, List.flatMap_nil, List.flatMap_cons, List.length_append, txt_len, List.length_nil] at this
      omega
    | cons t ts =>
      simp only [txts, List.flatMap_cons] at h
      obtain ⟨rfl, h5⟩ := txt_inj s t _ _ (h1 s (by simp)) (h2 t (by simp)) h
      rw [ih ts (fun x hx => h1 x (by simp [hx])) (fun x hx => h2 x (by simp [hx])) h5]
theorem take_oneS (l : List ByteArray) (k : Nat) (h : k < l.length) : l.take (k + 1) = l.take k ++ [l.getD k ByteArray.empty] := by
  rw [List.take_succ_eq_append_getElem h]
  simp [h]
theorem txts_take (ss : List ByteArray) (k : Nat) (h : k < ss.length) : txts (ss.take (k + 1)) = txts (ss.take k) ++ txt (ss.getD k ByteArray.empty) := by
  rw [take_oneS ss k h]; simp [txts]
theorem txts_len (ss : List ByteArray) (h : ∀ s ∈ ss, s.size ≤ 100) : (txts ss).length ≤ 108 * ss.length := by
  induction ss with
  | nil => simp [txts]
  | cons s ss ih =>
    have h1 := h s (by simp)
    have h2 := ih (fun x hx => h x (by simp [hx]))
    simp only [txts, List.flatMap_cons, List.length_append, txt_len, List.length_cons] at h2 ⊢
    omega

theorem toList_inj {x y : ByteArray} (h : x.toList = y.toList) : x = y := by
  rw [ByteArray.toList_eq, ByteArray.toList_eq] at h
  cases x; cases y
  simp at h
  rw [h]
def sameS (l m : List ByteArray) : Bool := decide (l = m)

set_option maxHeartbeats 400000 in
theorem sameS_any (ao : Option Addr) (n c : Nat) (l : List ByteArray) (bo : Option Addr) (q c2 : Nat) (m : List ByteArray) (w : World) (h : IsS w ao n c l) (h2 : IsS w bo q c2 m) (hn : n ≤ 1000) (hq : q ≤ 1000) :
    Calls Try.prog 11 #[.slice ao n c, .slice bo q c2] w fun e w' => e = .returned (.bool (sameS l m)) ∧ ∃ d, w' = w.drewN d := by
  by_cases hnq : n = q
  · subst hnq
    have d0 : ((n : Int) != (n : Int)) = false := by simp
    obtain ⟨e1, _, x1⟩ := h
    obtain ⟨e2, _, x2⟩ := h2
    have E1 := Lib.hid e1
    have E2 := Lib.hid e2
    clear e1 e2
    go_enter Try.func11, Try.ntmps11
    go_wp2_with fail
    go_loopw [5] (fun i wr => ∃ k : Nat, k ≤ n ∧ i = .int .i64 k ∧ (∀ j, j < k → l.getD j ByteArray.empty = m.getD j ByteArray.empty) ∧ ∃ d, wr = w.drewN d) (fun i _ => n - (intOf i).toNat)
    case atStart => exact ⟨0, Nat.zero_le _, rfl, fun j hj => by omega, 0, rfl⟩
    case round =>
      obtain ⟨k, hk, rfl, hup, d, rfl⟩ := hrel
      have hd2 : ∀ n, ∃ m, (w.drewN d).drewN n = w.drewN m := fun n => ⟨_, World.drewN_drewN _ _ _⟩
      have hD := Lib.hid hd2
      have hU := Lib.hid hup
      clear hd2 hup
      by_cases hlt : k < n
      · rcases x1 with x1 | ⟨b, off, rfl, x1⟩
        · omega
        rcases x2 with x2 | ⟨b2, off2, rfl, x2⟩
        · omega
        have c1 : (w.drewN d).cell? ⟨b, off + k, none⟩ = some (.string (l.getD k ByteArray.empty)) := x1 k hlt
        have c2' : (w.drewN d).cell? ⟨b2, off2 + k, none⟩ = some (.string (m.getD k ByteArray.empty)) := x2 k hlt
        generalize hx : l.getD k ByteArray.empty = x at c1
        generalize hy : m.getD k ByteArray.empty = y at c2'
        have HX := Lib.hid hx
        have HY := Lib.hid hy
        generalize w.drewN d = wd at c1 c2' hD
        clear hx hy x1 x2
        by_cases hxy : x = y
        · have g1 : (x.toList == y.toList) = true := by simp [hxy]
          have HXY := Lib.hid hxy
          clear hxy
          go_wp2_with fail
          go_quiet (fail)
          go_wp2_with fail
          go_roundw
          case rel =>
            refine ⟨k + 1, by omega, by go_num, ?_, hD.out _⟩
            intro j hj
            by_cases hjk : j = k
            · subst hjk; rw [HX.out, HY.out, HXY.out]
            · exact hU.out j (by omega)
          case measure => simp [intOf]; omega
        · have g1 : (x.toList == y.toList) = false := by simpa using fun e => hxy (toList_inj e)
          have g2 : sameS l m = false := by
            unfold sameS
            refine decide_eq_false fun e => hxy ?_
            rw [← HX.out, ← HY.out, e]
          go_wp2_with fail
          go_quiet (fail)
          go_wp2_with fail
          go_ret
          exact ⟨by rw [g2]; rfl, hD.out _⟩
      · go_wp2_with fail
        go_ret
        refine ⟨?_, _, rfl⟩
        have : sameS l m = true := by
          unfold sameS
          refine decide_eq_true (List.ext_getElem? fun j => ?_)
          have hU2 := hU.out j
          by_cases hj : j < k
          · have := hU2 hj
            have k1 : j < l.length := by rw [E1.out]; omega
            have k2 : j < m.length := by rw [E2.out]; omega
            simp [k1, k2] at this ⊢
            exact this
          · rw [List.getElem?_eq_none (by rw [E1.out]; omega), List.getElem?_eq_none (by rw [E2.out]; omega)]
        rw [this]; rfl
  · have d0 : ((n : Int) != (q : Int)) = true := by simp; omega
    have g2 : sameS l m = false := by
      unfold sameS
      refine decide_eq_false fun e => hnq ?_
      rw [← h.len, ← h2.len, e]
    go_enter Try.func11, Try.ntmps11
    go_wp2_with fail
    go_ret
    exact ⟨by rw [g2]; rfl, 0, rfl⟩

/-- texts' bytes, in the midst of being written -/
def Part (W : World) (ss : List ByteArray) (k : Nat) (v : Value) (wr : World) : Prop :=
  (∀ j, j < k → (ss.getD j ByteArray.empty).size ≤ 100) ∧ (∃ xo xn xc, v = .slice xo xn xc ∧ IsB wr xo xn xc (txts (ss.take k)) ∧ xn ≤ 108 * k) ∧ Below W.heap.size W wr
theorem part_step {W : World} {ss : List ByteArray} {k : Nat} {v v' : Value} {wr w' : World} (h : Part W ss k v wr) (hk : k < ss.length) (hs : (ss.getD k ByteArray.empty).size ≤ 100) {base : Nat} {e : TypeId}
    (hown : OwnB w' base e v' (txts (ss.take k) ++ txt (ss.getD k ByteArray.empty))) (hb : Below wr.heap.size wr w') : Part W ss (k + 1) v' w' := by
  obtain ⟨h1, ⟨xo, xn, xc, rfl, h2, h3⟩, h4⟩ := h
  refine ⟨fun j hj => ?_, ?_, h4.trans (hb.mono h4.size)⟩
  · by_cases hjk : j = k
    · subst hjk; exact hs
    · exact h1 j (by omega)
  · rw [← txts_take ss k hk] at hown
    obtain ⟨a, c, h5, h6⟩ := hown.isB
    refine ⟨a, _, c, h5, h6, ?_⟩
    rw [txts_take ss k hk, List.length_append, txt_len, h2.len]
    omega
theorem part_all {ss : List ByteArray} {k : Nat} (h : ∀ j, j < k → (ss.getD j ByteArray.empty).size ≤ 100) (hk : ss.length = k) : ∀ s ∈ ss, s.size ≤ 140737488355328 := by
  intro s hs
  obtain ⟨j, hj, rfl⟩ := List.getElem_of_mem hs
  have := h j (by omega)
  simp [hj] at this
  omega

set_option maxHeartbeats 1000000 in
theorem apart_walk (ao : Option Addr) (n c : Nat) (la : List ByteArray) (bo : Option Addr) (q c2 : Nat) (lb : List ByteArray) (W : World) (h : IsS W ao n c la) (h2 : IsS W bo q c2 lb) (hn9 : n ≤ 8796093022208) (hq9 : q ≤ 8796093022208) :
    Calls Try.prog 3 #[.slice ao n c, .slice bo q c2] W fun e w' => e = .returned (.bool true) ∧ Below W.heap.size W w' := by
  by_cases hn : 20 < n
  · go_enter Try.func3, Try.ntmps3
    go_wp2_with fail
    refine (awake_any _).mono ?_
    rintro e w0 ⟨rfl, hb0⟩
    go_wp2_with fail
    go_ret
    exact ⟨rfl, hb0⟩
  by_cases hq : 20 < q
  · go_enter Try.func3, Try.ntmps3
    go_wp2_with fail
    refine (awake_any _).mono ?_
    rintro e w0 ⟨rfl, hb0⟩
    go_wp2_with fail
    go_ret
    exact ⟨rfl, hb0⟩
  have HA := Lib.hid h; clear h
  have HQ := Lib.hid h2; clear h2
  go_enter Try.func3, Try.ntmps3
  go_wp2_with fail
  refine (awake_any _).mono ?_
  rintro e w0 ⟨rfl, hb0⟩
  go_wp2_with fail
  go_loopw [5, 7] (fun v i wr => ∃ k : Nat, k ≤ n ∧ i = .int .i64 (k : Int) ∧ Part W la k v wr) (fun _ i _ => n - (intOf i).toNat)
  case atStart => exact ⟨0, by omega, rfl, fun j hj => by omega, ⟨none, 0, 0, rfl, isB_nil _, by omega⟩, hb0⟩
  case round =>
    obtain ⟨k, hk, rfl, hp⟩ := hrel
    clear hb0 w0
    by_cases hlt : k < n
    · have hp' := hp
      obtain ⟨_, ⟨xo, xn, xc, rfl, hxb, hxn⟩, hbl⟩ := hp'
      obtain ⟨ag, rfl⟩ : ∃ ag : Nat × Nat, ao = some ⟨ag.1, ag.2, none⟩ := by
        rcases HA.out.at_ with h0 | ⟨b, off, h1, h2⟩
        · omega
        · exact ⟨(b, off), h1⟩
      have hcell : wr.cell? ⟨ag.1, ag.2 + k, none⟩ = some (.string (la.getD k ByteArray.empty)) := by
        rcases HA.out.at_ with h0 | ⟨b, off, h1, h2⟩
        · omega
        · have := cell_later hbl (h2 k hlt)
          cases h1
          exact this
      have hka : k < la.length := by rw [HA.out.len]; exact hlt
      have HS := Lib.hid (fun (hs : (la.getD k ByteArray.empty).size ≤ 100) => @part_step W la k _ · wr · hp hka hs)
      have HP := Lib.hid hp; clear hp
      have HX := Lib.hid hxb; clear hxb hbl
      generalize hsk : la.getD k ByteArray.empty = s at hcell
      have HK := Lib.hid hsk; clear hsk
      by_cases hs : 100 < s.size
      · go_wp2_with fail
        go_ret
        exact ⟨rfl, HP.out.2.2⟩
      · go_wp2_with fail
        refine (text_any xo xn xc _ s _ HX.out (by omega) (by omega)).mono ?_
        rintro e w3 ⟨v3, rfl, hown3, hb3⟩
        go_wp2_with fail
        go_roundw
        case rel => exact ⟨k + 1, by omega, by go_num, part_step HP.out hka (by rw [HK.out]; omega) (by rw [HK.out]; exact hown3) hb3⟩
        case measure => simp [intOf]; omega
    · obtain rfl : k = n := by omega
      obtain ⟨hsz, ⟨xo, xn, xc, rfl, hxb, hxn⟩, hbl⟩ := hp
      rw [List.take_of_length_le (by rw [HA.out.len]; exact Nat.le_refl _)] at hxb
      have HX := Lib.hid hxb; clear hxb
      have HZ := Lib.hid hsz; clear hsz
      go_wp2_with fail
      obtain ⟨wo, rfl⟩ : ∃ wo : World, wo = wr := ⟨_, rfl⟩
      go_loopw [6, 8] (fun v i w2 => ∃ j : Nat, j ≤ q ∧ i = .int .i64 (j : Int) ∧ Part W lb j v w2 ∧ Below wo.heap.size wo w2) (fun _ i _ => q - (intOf i).toNat)
      case atStart => exact ⟨0, by omega, rfl, ⟨fun j hj => by omega, ⟨none, 0, 0, rfl, isB_nil _, by omega⟩, hbl⟩, Below.refl _ _⟩
      case round =>
        obtain ⟨j, hj, rfl, hp, hgw⟩ := hrel
        obtain ⟨w2, rfl⟩ : ∃ w2 : World, w2 = wr := ⟨_, rfl⟩
        have hX2 := HX.out.below hgw
        have HX2 := Lib.hid hX2; clear hX2
        have HG := Lib.hid hgw
        clear hbl hgw
        by_cases hlt2 : j < q
        · have hp' := hp
          obtain ⟨_, ⟨yo, yn, yc, rfl, hyb, hyn⟩, hbl⟩ := hp'
          obtain ⟨bg, rfl⟩ : ∃ bg : Nat × Nat, bo = some ⟨bg.1, bg.2, none⟩ := by
            rcases HQ.out.at_ with h0 | ⟨b, off, h1, h2⟩
            · omega
            · exact ⟨(b, off), h1⟩
          have hcell : w2.cell? ⟨bg.1, bg.2 + j, none⟩ = some (.string (lb.getD j ByteArray.empty)) := by
            rcases HQ.out.at_ with h0 | ⟨b, off, h1, h2⟩
            · omega
            · have := cell_later hbl (h2 j hlt2)
              cases h1
              exact this
          have hka : j < lb.length := by rw [HQ.out.len]; exact hlt2
          have HP := Lib.hid hp; clear hp
          have HY := Lib.hid hyb; clear hyb hbl
          generalize hsk : lb.getD j ByteArray.empty = s at hcell
          have HK := Lib.hid hsk; clear hsk
          by_cases hs : 100 < s.size
          · go_wp2_with fail
            go_ret
            exact ⟨rfl, HP.out.2.2⟩
          · go_wp2_with fail
            refine (text_any yo yn yc _ s _ HY.out (by omega) (by omega)).mono ?_
            rintro e w3 ⟨v3, rfl, hown3, hb3⟩
            go_wp2_with fail
            go_roundw
            case rel => exact ⟨j + 1, by omega, by go_num, part_step HP.out hka (by rw [HK.out]; omega) (by rw [HK.out]; exact hown3) hb3, HG.out.trans (hb3.mono HG.out.size)⟩
            case measure => simp [intOf]; omega
        · obtain rfl : j = q := by omega
          obtain ⟨hsz, ⟨yo, yn, yc, rfl, hyb, hyn⟩, hbl⟩ := hp
          rw [List.take_of_length_le (by rw [HQ.out.len]; exact Nat.le_refl _)] at hyb
          have hc1 := fun d => conv_any (w2.drewN d) xo xn xc _ (HX2.out.below ⟨rfl, rfl, rfl, Nat.le_refl _, fun _ _ => rfl⟩)
          have hc2 := fun d => conv_any (w2.drewN d) yo yn yc _ (hyb.below ⟨rfl, rfl, rfl, Nat.le_refl _, fun _ _ => rfl⟩)
          have hsame := fun d => sameS_any ao k c la bo j c2 lb (w2.drewN d) ((HA.out.below hbl).below ⟨rfl, rfl, rfl, Nat.le_refl _, fun _ _ => rfl⟩) ((HQ.out.below hbl).below ⟨rfl, rfl, rfl, Nat.le_refl _, fun _ _ => rfl⟩) (by omega) (by omega)
          have heq : ((strB (txts la)).toList == (strB (txts lb)).toList) = sameS la lb := by
            rw [strB_toList, strB_toList]
            unfold sameS
            by_cases h : la = lb
            · subst h; simp
            · have h2 : ¬ txts la = txts lb := fun e => h (txts_inj la lb (part_all HZ.out HA.out.len) (part_all hsz HQ.out.len) e)
              rw [decide_eq_false h, beq_eq_false_iff_ne.2 h2]
          have HS := Lib.hid hsame; clear hsame hyb hsz
          have HE := Lib.hid heq; clear heq
          generalize strB (txts la) = s1 at hc1 HE
          generalize strB (txts lb) = s2 at hc2 HE
          go_wp2_with fail
          go_quiet ((go_at_call 11; exact quiet_some (HS.out _)))
          go_wp2_with fail
          go_ret
          refine ⟨by rw [HE.out, beq_self_eq_true]; rfl, ?_⟩
          exact hbl.trans ⟨rfl, rfl, rfl, Nat.le_refl _, fun _ _ => rfl⟩
theorem apart_said (ao : Option Addr) (n c : Nat) (la : List ByteArray) (bo : Option Addr) (q c2 : Nat) (lb : List ByteArray) (W : World) (h : IsS W ao n c la) (hnc : n ≤ c) (hc : c * 16 ≤ 140737488351232) (_ : ∀ s ∈ la, s.size ≤ 140737488351232) (h2 : IsS W bo q c2 lb) (hqc : q ≤ c2) (hc2 : c2 * 16 ≤ 140737488351232) (_ : ∀ s ∈ lb, s.size ≤ 140737488351232) :
    Calls Try.prog 3 #[.slice ao n c, .slice bo q c2] W fun e w' => e = .returned (.bool true) ∧ Below W.heap.size W w' :=
  apart_walk ao n c la bo q c2 lb W h h2 (by omega) (by omega)
end Go.Proofs.Ytolijjofbdhanaa
