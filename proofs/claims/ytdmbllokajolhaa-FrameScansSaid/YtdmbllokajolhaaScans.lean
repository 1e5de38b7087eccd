/-
  The walk of FrameScans.
-/
import Derived.Test.YtdmbllokajolhaaOn
import Derived.Test.YtdmbllokajolhaaRScan
import Derived.Deep.CutBlock
import Derived.Deep.DeepCutAuto
import Derived.Deep.RegionHeld3
namespace Go.Proofs.Ytdmbllokajolhaa
open Go.RowKit

/-- what stands in f: it lies there, and is not too long -/
def Held (W : World) (v : Value) (wr : World) : Prop :=
  ∃ ao n c F, v = .slice ao n c ∧ IsB wr ao n c F ∧ n ≤ c ∧ c ≤ 9223372036854775807 ∧ n ≤ 3000 ∧ Below W.heap.size W wr

theorem u8_xor_byte (x : UInt8) (z : Int) (h1 : 0 ≤ z) (h2 : z ≤ 255) : ∃ y : UInt8, bits .xor .u8 (x.toNat : Int) z = (y.toNat : Int) := by
  obtain ⟨k, rfl⟩ := Int.eq_ofNat_of_zero_le h1
  refine ⟨x ^^^ UInt8.ofNat k, ?_⟩
  rw [u8_xor_nat _ _ x.toNat_lt (by omega), UInt8.toNat_xor, UInt8.toNat_ofNat', Nat.mod_eq_of_lt (by omega)]

theorem lit_sc {z : Int} (h : (Lit.int .i64 z).wf = true) : -9223372036854775808 ≤ z ∧ z ≤ 9223372036854775807 := by
  simp only [Lit.wf, IntKind.min, IntKind.max, IntKind.signed, IntKind.bits, Bool.and_eq_true, decide_eq_true_eq, if_true] at h
  omega
theorem lit_u8 {z : Int} (h : (Lit.int .u8 z).wf = true) : 0 ≤ z ∧ z ≤ 255 := by
  simp [Lit.wf, IntKind.min, IntKind.max, IntKind.signed, IntKind.bits] at h
  omega
theorem scanF_len (B : List UInt8) (t : Nat) : ∀ (k : Nat) (ls : List (List UInt8)), ls.length * 12 ≤ k → k ≤ B.length → (scanF B t k ls).1.length * 12 ≤ B.length := by
  induction t with
  | zero => intro k ls h1 h2; show ls.length * 12 ≤ _; omega
  | succ t ih =>
    intro k ls h1 h2
    unfold scanF
    by_cases h : B.length ≤ k
    · rw [if_pos h]; simp only; omega
    · rw [if_neg h]
      by_cases h0 : (nextF (B.drop k)).2 = 0
      · rw [if_pos h0]
        have h3 := nextF_size _ h0
        rw [List.length_drop] at h3
        exact ih _ _ (by simp; omega) (by omega)
      · rw [if_neg h0]; simp only; omega
theorem scan_len (B : List UInt8) : (scanAll B).1.length * 12 ≤ B.length := scanF_len B B.length 0 [] (by simp) (by omega)

set_option maxRecDepth 100000 in
set_option maxHeartbeats 4000000 in
theorem scans_walk (bo : Option Addr) (q c2 : Nat) (B : List UInt8) (ao : Option Addr) (n c : Nat) (L : List (List UInt8)) (at_ by_ cut : Int) (W : World) (h2 : IsB W bo q c2 B) (hqc : q ≤ c2) (hc29 : c2 ≤ 140737488351232) (h : IsBB W ao n L) (hn9 : n ≤ 5864062014810)
    (ha1 : -9223372036854775808 ≤ at_) (ha2 : at_ ≤ 9223372036854775807) (hy1 : 0 ≤ by_) (hy2 : by_ ≤ 255) (hc1 : -9223372036854775808 ≤ cut) (hc2 : cut ≤ 9223372036854775807) :
    Calls Try.prog 4 #[.slice bo q c2, .slice ao n c, .int .i64 at_, .int .u8 by_, .int .i64 cut] W fun e w' => e = .returned (.bool true) ∧ Below W.heap.size W w' := by
  by_cases hq : 400 < q
  · go_enter Try.func4, Try.ntmps4
    go_wp2_with fail
    refine (awake_any _).mono ?_
    rintro e w0 ⟨rfl, hb0⟩
    go_wp2_with fail
    go_ret
    exact ⟨rfl, hb0⟩
  by_cases hn : 12 < n
  · go_enter Try.func4, Try.ntmps4
    go_wp2_with fail
    refine (awake_any _).mono ?_
    rintro e w0 ⟨rfl, hb0⟩
    go_wp2_with fail
    go_ret
    exact ⟨rfl, hb0⟩
  have HA := Lib.hid h; clear h
  have HQ := Lib.hid h2; clear h2
  go_enter Try.func4, Try.ntmps4
  go_wp2_with fail
  refine (awake_any _).mono ?_
  rintro e w0 ⟨rfl, hb0⟩
  go_wp2_with fail
  go_loopw [11, 12] (fun v i wr => ∃ k : Nat, k ≤ n ∧ i = .int .i64 (k : Int) ∧ Part W L k v wr) (fun _ i _ => n - (intOf i).toNat)
  case atStart => exact ⟨0, by omega, rfl, part_zero _ hb0⟩
  case round =>
    obtain ⟨k, hk, rfl, hp⟩ := hrel
    clear hb0
    by_cases hlt : k < n
    · have hp' := hp
      obtain ⟨_, hown, hlen, hbl⟩ := hp'
      obtain ⟨b, off, a, m, cc, rfl, hcell, hbs, hm⟩ := row_at HA.out hbl k hlt
      have hka : k < L.length := by rw [HA.out.len]; exact hlt
      have hml := hbs.len
      obtain ⟨a1, c1, rfl, hb1⟩ := own_len hown _ rfl
      have HS := Lib.hid (fun (hs : (L.getD k []).length ≤ 200) => @part_step W L k _ · wr · hp hka hs)
      have HP := Lib.hid hp; clear hp
      generalize L.getD k [] = r at hbs HS hml
      generalize (frames (L.take k)).length = q1 at *
      have HB := Lib.hid hbs; clear hbs
      have HB1 := Lib.hid hb1; clear hb1 hown hbl
      have HML := Lib.hid hml; clear hml
      by_cases hs : 200 < m
      · go_wp2_with fail
        go_ret
        exact ⟨rfl, HP.out.2.2.2⟩
      · go_wp2_with fail
        refine (put_ok a1 _ c1 _ a m cc r _ HB1.out HB.out (by omega) (by omega)).mono ?_
        rintro e w3 ⟨v3, rfl, hown3, hb3⟩
        have HST := Lib.hid (HS.out _ _ (by rw [HML.out]; omega) hown3 hb3)
        obtain ⟨a3, n3, c3, rfl, hbs3⟩ : ∃ ao n c, v3 = .slice ao n c ∧ IsB w3 ao n c (frames (L.take k) ++ frameF r) := by
          obtain ⟨ao, c, h1, h2⟩ := hown3.isB
          exact ⟨ao, _, c, h1, h2⟩
        have hc3 := cell_later hb3 hcell
        have HX := Lib.hid hbs3
        have HF := Lib.hid (HB1.out.below hb3)
        have HR := Lib.hid (HB.out.below hb3)
        have hcx := conv_any w3.drew _ _ _ _ (HX.out.heapw (w' := w3.drew) rfl)
        have hcf := conv_any w3.drew _ _ _ _ (HF.out.heapw (w' := w3.drew) rfl)
        clear hown3 hbs3 hb3 hcell HB HB1
        have hadd : ((strB (frames (L.take k) ++ frameF r)).toList == (strB (frames (L.take k)) ++ strB (frameF r)).toList) = true := by
          rw [strB_toList, ByteArray.toList_eq]
          simp [strB]
        have hss : ¬ (9223372036854775807 < (strB (frames (L.take k))).size + (strB (frameF r)).size) := by
          have e1 : (strB (frames (L.take k))).size = (frames (L.take k)).length := by simp [strB, ByteArray.size]
          have e2 : (strB (frameF r)).size = (frameF r).length := by simp [strB, ByteArray.size]
          have e3 := HF.out.len
          rw [e1, e2, frameF_len, HML.out]
          omega
        generalize hsx : strB (frames (L.take k) ++ frameF r) = sx at *
        generalize hsf : strB (frames (L.take k)) = sf at *
        generalize hsr : strB (frameF r) = sr at *
        have HSX := Lib.hid hsx; clear hsx
        have HSF := Lib.hid hsf; clear hsf
        have HSR := Lib.hid hsr; clear hsr
        generalize frames (L.take k) ++ frameF r = lx at HX HSX
        go_upto_region 12 with (fail)
        go_cut [69] (fun u wx => u = .bool false ∧ Part W L (k + 1) (.slice a3 n3 c3) wx)
        case first =>
          refine wp_region_held_drew (S := fun w' => w'.cell? ⟨b, off + k, none⟩ = some (.slice a m cc) ∧ (convert 23 9 (.slice a3 n3 c3)).run Try.prog w' = .ok (.string sx) w' ∧ (convert 23 9 (.slice a1 q1 c1)).run Try.prog w' = .ok (.string sf) w') (by kernel_rfl) ⟨hc3, hcx, hcf⟩ (fun hHeld => ?_)
          refine wpAnyH_take (i := 0) (oi := { dst := some 54, op := Op.move (Operand.tmp 14), type := 24, pos := _, after := #[], guard := none }) (v := ?_) rfl (by kernel_rfl) (by kernel_rfl) (by kernel_rfl) (fun _ _ _ h => h) (Or.inl ⟨by rfl, ?_⟩) (by exact hHeld) ?_
          rotate_left
          · (intro w hSw; (try dsimp only at hSw); go_simp <;> with_reducible rfl)
          try simp only [Act.put, List.setIfInBounds_toArray, List.set_cons_zero, List.set_cons_succ]
          refine wpAnyH_take (i := 1) (oi := { dst := some 55, op := Op.binOp BinOp.neq 24 (Operand.tmp 54) (Operand.const (Value.int IntKind.i64 0)) 24, type := 4, pos := _, after := #[{ on := 0, ground := Ground.data }], guard := none }) (v := ?_) rfl (by kernel_rfl) (by kernel_rfl) (by kernel_rfl) (fun _ _ _ h => h) (Or.inl ⟨by rfl, ?_⟩) (by exact hHeld) ?_
          rotate_left
          · (intro w hSw; (try dsimp only at hSw); go_simp <;> with_reducible rfl)
          try simp only [Act.put, List.setIfInBounds_toArray, List.set_cons_zero, List.set_cons_succ]
          refine wpAnyH_take (i := 2) (oi := { dst := some 56, op := Op.move (Operand.tmp 55), type := 4, pos := _, after := #[{ on := 1, ground := Ground.data }], guard := none }) (v := ?_) rfl (by kernel_rfl) (by kernel_rfl) (by kernel_rfl) (fun _ _ _ h => h) (Or.inl ⟨by rfl, ?_⟩) (by exact hHeld) ?_
          rotate_left
          · (intro w hSw; (try dsimp only at hSw); go_simp <;> with_reducible rfl)
          try simp only [Act.put, List.setIfInBounds_toArray, List.set_cons_zero, List.set_cons_succ]
          refine wpAnyH_take (i := 3) (oi := { dst := some 57, op := Op.move (Operand.tmp 13), type := 23, pos := _, after := #[{ on := 2, ground := Ground.guard }], guard := some (2, false) }) (v := ?_) rfl (by kernel_rfl) (by kernel_rfl) (by kernel_rfl) (fun _ _ _ h => h) (Or.inl ⟨by rfl, ?_⟩) (by exact hHeld) ?_
          rotate_left
          · (intro w hSw; (try dsimp only at hSw); go_simp <;> with_reducible rfl)
          try simp only [Act.put, List.setIfInBounds_toArray, List.set_cons_zero, List.set_cons_succ]
          refine wpAnyH_take (i := 4) (oi := { dst := some 58, op := Op.convert 23 9 (Operand.tmp 57), type := 9, pos := _, after := #[{ on := 3, ground := Ground.data }, { on := 2, ground := Ground.guard }], guard := some (2, false) }) (v := ?_) rfl (by kernel_rfl) (by kernel_rfl) (by kernel_rfl) (fun _ _ _ h => h) (Or.inl ⟨by rfl, ?_⟩) (by exact hHeld) ?_
          rotate_left
          · (intro w hSw; (try dsimp only at hSw); go_simp <;> with_reducible rfl)
          try simp only [Act.put, List.setIfInBounds_toArray, List.set_cons_zero, List.set_cons_succ]
          refine wpAnyH_take (i := 5) (oi := { dst := some 59, op := Op.move (Operand.tmp 11), type := 23, pos := _, after := #[{ on := 2, ground := Ground.guard }], guard := some (2, false) }) (v := ?_) rfl (by kernel_rfl) (by kernel_rfl) (by kernel_rfl) (fun _ _ _ h => h) (Or.inl ⟨by rfl, ?_⟩) (by exact hHeld) ?_
          rotate_left
          · (intro w hSw; (try dsimp only at hSw); go_simp <;> with_reducible rfl)
          try simp only [Act.put, List.setIfInBounds_toArray, List.set_cons_zero, List.set_cons_succ]
          refine wpAnyH_take (i := 6) (oi := { dst := some 60, op := Op.convert 23 9 (Operand.tmp 59), type := 9, pos := _, after := #[{ on := 5, ground := Ground.data }, { on := 2, ground := Ground.guard }], guard := some (2, false) }) (v := ?_) rfl (by kernel_rfl) (by kernel_rfl) (by kernel_rfl) (fun _ _ _ h => h) (Or.inl ⟨by rfl, ?_⟩) (by exact hHeld) ?_
          rotate_left
          · (intro w hSw; (try dsimp only at hSw); go_simp <;> with_reducible rfl)
          try simp only [Act.put, List.setIfInBounds_toArray, List.set_cons_zero, List.set_cons_succ]
          refine wpAnyH_take (i := 7) (oi := { dst := some 61, op := Op.move (Operand.tmp 1), type := 27, pos := _, after := #[{ on := 2, ground := Ground.guard }], guard := some (2, false) }) (v := ?_) rfl (by kernel_rfl) (by kernel_rfl) (by kernel_rfl) (fun _ _ _ h => h) (Or.inl ⟨by rfl, ?_⟩) (by exact hHeld) ?_
          rotate_left
          · (intro w hSw; (try dsimp only at hSw); go_simp <;> with_reducible rfl)
          try simp only [Act.put, List.setIfInBounds_toArray, List.set_cons_zero, List.set_cons_succ]
          refine wpAnyH_take (i := 8) (oi := { dst := some 62, op := Op.move (Operand.tmp 12), type := 3, pos := _, after := #[{ on := 2, ground := Ground.guard }], guard := some (2, false) }) (v := ?_) rfl (by kernel_rfl) (by kernel_rfl) (by kernel_rfl) (fun _ _ _ h => h) (Or.inl ⟨by rfl, ?_⟩) (by exact hHeld) ?_
          rotate_left
          · (intro w hSw; (try dsimp only at hSw); go_simp <;> with_reducible rfl)
          try simp only [Act.put, List.setIfInBounds_toArray, List.set_cons_zero, List.set_cons_succ]
          refine wpAnyH_take (i := 9) (oi := { dst := some 63, op := Op.indexAddr 27 (Operand.tmp 61) (Operand.tmp 62), type := 0, pos := _, after := #[{ on := 7, ground := Ground.data }, { on := 8, ground := Ground.data }, { on := 2, ground := Ground.guard }], guard := some (2, false) }) (v := ?_) rfl (by kernel_rfl) (by kernel_rfl) (by kernel_rfl) (fun _ _ _ h => h) (Or.inl ⟨by rfl, ?_⟩) (by exact hHeld) ?_
          rotate_left
          · (intro w hSw; (try dsimp only at hSw); go_simp <;> with_reducible rfl)
          try simp only [Act.put, List.setIfInBounds_toArray, List.set_cons_zero, List.set_cons_succ]
          refine wpAnyH_take (i := 10) (oi := { dst := some 64, op := Op.load 23 (Operand.tmp 63), type := 23, pos := _, after := #[{ on := 9, ground := Ground.data }, { on := 2, ground := Ground.guard }], guard := some (2, false) }) (v := ?_) rfl (by kernel_rfl) (by kernel_rfl) (by kernel_rfl) (fun _ _ _ h => h) (Or.inl ⟨by rfl, ?_⟩) (by exact hHeld) ?_
          rotate_left
          · (intro w hSw; (try dsimp only at hSw); go_simp <;> with_reducible rfl)
          try simp only [Act.put, List.setIfInBounds_toArray, List.set_cons_zero, List.set_cons_succ]
          refine wpAnyH_ready (rs := [11]) (by kernel_rfl) (by simp) ?_
          refine AllReadyH.cons (o := { dst := some 65, op := Op.call { callee := Callee.value (Operand.func 11), args := #[Operand.tmp 64], argTypes := #[23] }, type := 23, pos := _, after := #[{ on := 10, ground := Ground.data }, { on := 2, ground := Ground.chain }, { on := 2, ground := Ground.guard }], guard := some (2, false) }) rfl (fun K hK => ?_) AllReadyH.nil
          go_simp
          refine (refframe_any a m cc r _ (by exact HR.out.heapw rfl) (by omega)).mono ?_
          rintro e w10 ⟨v10, rfl, hown10, hb10⟩
          obtain ⟨a10, n10, c10, rfl, hcv10⟩ := own_conv hown10
          have hb310 : Below w3.heap.size w3 w10 := ⟨hb10.os, hb10.tape, hb10.output, hb10.size, hb10.block⟩
          have hcx10 := conv_any w10 _ _ _ _ (HX.out.below hb310)
          have hcf10 := conv_any w10 _ _ _ _ (HF.out.below hb310)
          rw [HSX.out] at hcx10
          rw [HSF.out] at hcf10
          rw [HSR.out] at hcv10
          clear hown10
          go_wp2_with fail
          refine hK.out _ _ ⟨cell_later hb310 hc3, hcx10, hcf10⟩ (fun hHeld => ?_)
          clear hK K
          try simp only [Act.put, List.setIfInBounds_toArray, List.set_cons_zero, List.set_cons_succ]
          refine wpAnyH_ready (rs := [12]) (by kernel_rfl) (by simp) ?_
          refine AllReadyH.cons (o := { dst := some 66, op := Op.convert 23 9 (Operand.tmp 65), type := 9, pos := _, after := #[{ on := 11, ground := Ground.data }, { on := 2, ground := Ground.guard }], guard := some (2, false) }) rfl (fun K hK => ?_) AllReadyH.nil
          go_simp
          refine hK.out _ _ ⟨hHeld.1, hHeld.2.1, hHeld.2.2⟩ (fun hHeld => ?_)
          clear hK K
          try simp only [Act.put, List.setIfInBounds_toArray, List.set_cons_zero, List.set_cons_succ]
          refine wpAnyH_take (i := 13) (oi := { dst := some 67, op := Op.binOp BinOp.add 9 (Operand.tmp 60) (Operand.tmp 66) 9, type := 9, pos := _, after := #[{ on := 6, ground := Ground.data }, { on := 12, ground := Ground.data }, { on := 2, ground := Ground.guard }], guard := some (2, false) }) (v := ?_) rfl (by kernel_rfl) (by kernel_rfl) (by kernel_rfl) (fun _ _ _ h => h) (Or.inl ⟨by rfl, ?_⟩) (by exact hHeld) ?_
          rotate_left
          · (intro w hSw; (try dsimp only at hSw); go_simp <;> with_reducible rfl)
          try simp only [Act.put, List.setIfInBounds_toArray, List.set_cons_zero, List.set_cons_succ]
          refine wpAnyH_take (i := 14) (oi := { dst := some 68, op := Op.binOp BinOp.neq 9 (Operand.tmp 58) (Operand.tmp 67) 9, type := 4, pos := _, after := #[{ on := 4, ground := Ground.data }, { on := 13, ground := Ground.data }, { on := 2, ground := Ground.guard }], guard := some (2, false) }) (v := ?_) rfl (by kernel_rfl) (by kernel_rfl) (by kernel_rfl) (fun _ _ _ h => h) (Or.inl ⟨by rfl, ?_⟩) (by exact hHeld) ?_
          rotate_left
          · (intro w hSw; (try dsimp only at hSw); go_simp <;> with_reducible rfl)
          try simp only [Act.put, List.setIfInBounds_toArray, List.set_cons_zero, List.set_cons_succ]
          refine wpAnyH_take (i := 15) (oi := { dst := some 69, op := Op.pick (Operand.tmp 56) (Operand.const (Value.bool true)) (Operand.tmp 68), type := 4, pos := _, after := #[{ on := 2, ground := Ground.data }, { on := 14, ground := Ground.data }], guard := none }) (v := ?_) rfl (by kernel_rfl) (by kernel_rfl) (by kernel_rfl) (fun _ _ _ h => h) (Or.inl ⟨by rfl, ?_⟩) (by exact hHeld) ?_
          rotate_left
          · (intro w hSw; (try dsimp only at hSw); go_simp <;> with_reducible rfl)
          try simp only [Act.put, List.setIfInBounds_toArray, List.set_cons_zero, List.set_cons_succ]
          refine wpAnyH_done (by kernel_rfl) ?_ _
          have hP := HST.out.below hb310
          clear hcx10 hcf10 hcv10 hb310 hb10 hHeld
          go_wp2_with fail
          go_meet
          exact ⟨rfl, hP⟩
        case rest =>
          obtain ⟨rfl, hP⟩ := hcut
          go_wp2_with fail
          go_roundw
          case rel => exact ⟨k + 1, by omega, by go_num, hP⟩
          case measure => simp [intOf]; omega
    · obtain rfl : k = n := by omega
      obtain ⟨hs1, hown1, hl1, hbl⟩ := hp
      rw [List.take_of_length_le (by rw [HA.out.len]; exact Nat.le_refl _)] at hown1 hl1
      clear hs1
      generalize hF : frames L = F at *
      clear hF
      have hform := fun (h0 : 0 < F.length) => hown1.form h0
      obtain ⟨x1, d1, rfl, hx1, hx2, hx3⟩ := own_room hown1 _ rfl
      have HO := Lib.hid hown1
      have HFM := Lib.hid hform; clear hform hown1
      generalize hnF : F.length = nF at *
      have HNF := Lib.hid hnF; clear hnF
      have HX := Lib.hid hx1; clear hx1
      go_upto_region 15 with (fail)
      go_cut [78] (fun u wx => u = .bool (decide (0 ≤ at_ ∧ at_ < (nF : Int))) ∧ wx = wr)
      case first =>
        by_cases g1 : 0 ≤ at_
        · by_cases g2 : at_ < (nF : Int)
          · go_wp2_with fail
            go_meet
            exact ⟨by rw [decide_eq_true (show 0 ≤ at_ ∧ at_ < (nF : Int) from ⟨g1, g2⟩)], rfl⟩
          · have g3 : decide (at_ < (nF : Int)) = false := decide_eq_false g2
            go_wp2_with fail
            go_meet
            exact ⟨by rw [decide_eq_false (show ¬ (0 ≤ at_ ∧ at_ < (nF : Int)) from by omega)], rfl⟩
        · go_wp2_with fail
          go_meet
          exact ⟨by rw [decide_eq_false (show ¬ (0 ≤ at_ ∧ at_ < (nF : Int)) from by omega)], rfl⟩
      case rest =>
      obtain ⟨rfl, rfl⟩ := hcut
      have hB : Held W (.slice x1 nF d1) wc := ⟨x1, nF, d1, F, rfl, HX.out, hx2, hx3, by omega, hbl⟩
      have HB := Lib.hid hB; clear hB
      go_upto_if 78 with (fail)
      go_cut [11] (fun v wx => Held W v wx)
      case first =>
        by_cases g1 : 0 ≤ at_ ∧ at_ < (nF : Int)
        · rw [decide_eq_true g1]
          obtain ⟨p, rfl⟩ := Int.eq_ofNat_of_zero_le g1.1
          have hp : p < nF := by omega
          obtain ⟨g, cap, hv, hg1, hg2, hcell, hfree⟩ := HFM.out (by omega)
          obtain ⟨rfl, rfl⟩ : x1 = some ⟨g, 0, none⟩ ∧ d1 = cap := by
            simp only [Value.slice.injEq] at hv
            exact ⟨hv.1, hv.2.2⟩
          have hx := hcell p hp
          have hfr := hfree p
          obtain ⟨y, hy⟩ := u8_xor_byte (F.getD p 0) by_ hy1 hy2
          have HY := Lib.hid hy; clear hy
          generalize F.getD p 0 = x at hx HY
          clear hv hcell hfree HFM
          have g0 : (p : Int) < (nF : Int) := g1.2
          clear g1
          go_wp2_with fail
          rw [HY.out]
          go_meet
          have hO2 := HO.out
          rw [← HNF.out] at hO2
          have hset := hO2.set p y
          obtain ⟨x2, d2, hv2, hs1, hs2, hs3⟩ := own_room hset nF (by rw [List.length_set, HNF.out])
          rw [List.length_set, HNF.out] at hv2
          exact ⟨x2, nF, d2, _, hv2, hs1, hs2, hs3, by omega, hbl.setCell (by simp only; omega) _⟩
        · rw [decide_eq_false g1]
          go_wp2_with fail
          go_meet
          exact HB.out
      case rest =>
      clear HB HX HNF HFM HO hbl hl1 hx2 hx3
      obtain ⟨x2, n2, d2, F2, rfl, hx, hx2, hx3, hn2, hbl⟩ := hcut
      obtain ⟨w5, rfl⟩ : ∃ w5 : World, w5 = wc := ⟨_, rfl⟩
      have HX := Lib.hid hx; clear hx
      go_upto_region 17 with (fail)
      go_cut [95] (fun u wx => u = .bool (decide (0 ≤ cut ∧ cut ≤ (n2 : Int))) ∧ wx = w5)
      case first =>
        by_cases g1 : 0 ≤ cut
        · by_cases g2 : cut ≤ (n2 : Int)
          · go_wp2_with fail
            go_meet
            exact ⟨by rw [decide_eq_true (show 0 ≤ cut ∧ cut ≤ (n2 : Int) from ⟨g1, g2⟩)], rfl⟩
          · have g3 : decide (cut ≤ (n2 : Int)) = false := decide_eq_false g2
            go_wp2_with fail
            go_meet
            exact ⟨by rw [decide_eq_false (show ¬ (0 ≤ cut ∧ cut ≤ (n2 : Int)) from by omega)], rfl⟩
        · go_wp2_with fail
          go_meet
          exact ⟨by rw [decide_eq_false (show ¬ (0 ≤ cut ∧ cut ≤ (n2 : Int)) from by omega)], rfl⟩
      case rest =>
      obtain ⟨rfl, rfl⟩ := hcut
      obtain ⟨w6, rfl⟩ : ∃ w6 : World, w6 = wc := ⟨_, rfl⟩
      go_upto_if 95 with (fail)
      go_cut [11] (fun v wx => Held W v wx)
      case first =>
        by_cases g1 : 0 ≤ cut ∧ cut ≤ (n2 : Int)
        · rw [decide_eq_true g1]
          obtain ⟨p, rfl⟩ := Int.eq_ofNat_of_zero_le g1.1
          have hp : p ≤ n2 := by omega
          have g2 : (p : Int) ≤ (d2 : Int) := by omega
          clear g1
          go_wp2_with fail
          go_meet
          exact ⟨x2, p, d2, _, rfl, isB_take HX.out p hp, by omega, hx3, by omega, hbl⟩
        · rw [decide_eq_false g1]
          go_wp2_with fail
          go_meet
          exact ⟨x2, n2, d2, F2, rfl, HX.out, hx2, hx3, hn2, hbl⟩
      case rest =>
      clear HX hbl hx2 hx3 hn2
      obtain ⟨x3, n3, d3, F3, rfl, hx, hx2, hx3, hn3, hbl⟩ := hcut
      obtain ⟨w7, rfl⟩ : ∃ w7 : World, w7 = wc := ⟨_, rfl⟩
      have HX := Lib.hid hx; clear hx
      have i0 : ∀ w, (Instr.index 31 (.agg #[.slice bo q c2, .slice x3 n3 d3]) (.int .i64 0)).run Try.prog w = .ok (.slice bo q c2) w := fun _ => by kernel_rfl
      have i1 : ∀ w, (Instr.index 31 (.agg #[.slice bo q c2, .slice x3 n3 d3]) (.int .i64 1)).run Try.prog w = .ok (.slice x3 n3 d3) w := fun _ => by kernel_rfl
      go_wp2_with fail
      go_loopw [102] (fun i wl => ∃ j : Nat, j ≤ 2 ∧ i = .int .i64 (j : Int) ∧ Below w7.heap.size w7 wl) (fun i _ => 2 - (intOf i).toNat)
      case atStart => exact ⟨0, by omega, rfl, Below.refl _ _⟩
      case round =>
        obtain ⟨j, hj, rfl, hbw⟩ := hrel
        have hbl2 : Below W.heap.size W wr := hbl.trans (hbw.mono hbl.size)
        rcases (by omega : j = 0 ∨ j = 1 ∨ j = 2) with rfl | rfl | rfl
        · have H1 := Lib.hid (HQ.out.below hbl2)
          have hnn : q ≤ 1000000 := by omega
          have hnc : q ≤ c2 := by omega
          have hcm : c2 ≤ 9223372036854775807 := by omega
          go_wp2_with fail
          refine (scan_any bo q c2 B _ H1.out hnn hnc hcm).mono ?_
          rintro e w8 ⟨v8, he, hown8, hb8⟩
          unfold Recs at he
          subst he
          obtain ⟨a8, c8, rfl, hbb8, _⟩ := hown8.isBB _ rfl
          have hB8 : Below wr.heap.size wr w8 := hb8
          have H8 := Lib.hid hbb8
          have hlen8 := scan_len B
          rw [H1.out.len] at hlen8
          have H18 := Lib.hid (H1.out.below hb8)
          clear hown8 hb8 hbb8
          go_wp2_with fail
          refine (rscan_any bo q c2 B _ H18.out hnn hnc hcm).mono ?_
          rintro e w9 ⟨v9, he, hown9, hb9⟩
          unfold Recs at he
          subst he
          obtain ⟨a9, c9, rfl, hbb9, _⟩ := hown9.isBB _ rfl
          have hB9 : Below wr.heap.size wr w9 := hB8.trans (hb9.mono hB8.size)
          have H89 := Lib.hid (H8.out.below hb9)
          have H9 := Lib.hid hbb9
          clear hown9 hb9 hbb9 H8 H18 hB8
          generalize hq8 : (scanAll B).1.length = q8 at *
          generalize (scanAll B).2.1 = q9 at *
          generalize (scanAll B).2.2 = q10 at *
          clear hq8
          have e1 : ((q9 : Int) != (q9 : Int)) = false := by simp
          have e2 : ((q10 : Int) != (q10 : Int)) = false := by simp
          go_wp2_with fail
          refine (all_any a8 q8 _ _ a9 q8 _ _ _ H89.out H9.out (by omega) (by omega)).mono ?_
          rw [show sameL (scanAll B).1 (scanAll B).1 = true from by unfold sameL; simp]
          rintro e w10 ⟨rfl, d, rfl⟩
          have hb710 := (below_draws hB9 d).mono hbw.size
          clear H89 H9 hB9
          go_wp2_with fail
          go_roundw
          case rel => exact ⟨1, by omega, by go_num, (hbw.trans hb710)⟩
          case measure => simp [intOf]
        · have H1 := Lib.hid (HX.out.below hbw)
          have hnn : n3 ≤ 1000000 := by omega
          have hnc : n3 ≤ d3 := by omega
          have hcm : d3 ≤ 9223372036854775807 := by omega
          go_wp2_with fail
          refine (scan_any x3 n3 d3 F3 _ H1.out hnn hnc hcm).mono ?_
          rintro e w8 ⟨v8, he, hown8, hb8⟩
          unfold Recs at he
          subst he
          obtain ⟨a8, c8, rfl, hbb8, _⟩ := hown8.isBB _ rfl
          have hB8 : Below wr.heap.size wr w8 := hb8
          have H8 := Lib.hid hbb8
          have hlen8 := scan_len F3
          rw [H1.out.len] at hlen8
          have H18 := Lib.hid (H1.out.below hb8)
          clear hown8 hb8 hbb8
          go_wp2_with fail
          refine (rscan_any x3 n3 d3 F3 _ H18.out hnn hnc hcm).mono ?_
          rintro e w9 ⟨v9, he, hown9, hb9⟩
          unfold Recs at he
          subst he
          obtain ⟨a9, c9, rfl, hbb9, _⟩ := hown9.isBB _ rfl
          have hB9 : Below wr.heap.size wr w9 := hB8.trans (hb9.mono hB8.size)
          have H89 := Lib.hid (H8.out.below hb9)
          have H9 := Lib.hid hbb9
          clear hown9 hb9 hbb9 H8 H18 hB8
          generalize hq8 : (scanAll F3).1.length = q8 at *
          generalize (scanAll F3).2.1 = q9 at *
          generalize (scanAll F3).2.2 = q10 at *
          clear hq8
          have e1 : ((q9 : Int) != (q9 : Int)) = false := by simp
          have e2 : ((q10 : Int) != (q10 : Int)) = false := by simp
          go_wp2_with fail
          refine (all_any a8 q8 _ _ a9 q8 _ _ _ H89.out H9.out (by omega) (by omega)).mono ?_
          rw [show sameL (scanAll F3).1 (scanAll F3).1 = true from by unfold sameL; simp]
          rintro e w10 ⟨rfl, d, rfl⟩
          have hb710 := (below_draws hB9 d).mono hbw.size
          clear H89 H9 hB9
          go_wp2_with fail
          go_roundw
          case rel => exact ⟨2, by omega, by go_num, (hbw.trans hb710)⟩
          case measure => simp [intOf]
        · go_wp2_with fail
          go_ret
          exact ⟨rfl, hbl2⟩
theorem scans_said (bo : Option Addr) (q c2 : Nat) (B : List UInt8) (ao : Option Addr) (n c : Nat) (L : List (List UInt8)) (at_ by_ cut : Int) (W : World) (h2 : IsB W bo q c2 B) (hqc : q ≤ c2) (hc29 : c2 ≤ 140737488351232) (h : IsBB W ao n L) (hnc : n ≤ c) (hc : c * 24 ≤ 140737488351232)
    (ha : (Lit.int .i64 at_).wf = true) (hy : (Lit.int .u8 by_).wf = true) (hz : (Lit.int .i64 cut).wf = true) :
    Calls Try.prog 4 #[.slice bo q c2, .slice ao n c, .int .i64 at_, .int .u8 by_, .int .i64 cut] W fun e w' => e = .returned (.bool true) ∧ Below W.heap.size W w' :=
  scans_walk bo q c2 B ao n c L at_ by_ cut W h2 hqc hc29 h (by omega) (lit_sc ha).1 (lit_sc ha).2 (lit_u8 hy).1 (lit_u8 hy).2 (lit_sc hz).1 (lit_sc hz).2
end Go.Proofs.Ytdmbllokajolhaa
