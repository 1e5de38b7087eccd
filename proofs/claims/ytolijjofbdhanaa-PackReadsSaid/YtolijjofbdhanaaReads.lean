/-
  The walk of PackReads.
-/
import Derived.Test.YtolijjofbdhanaaAw
import Derived.Test.YtolijjofbdhanaaLink
import Derived.Test.YtolijjofbdhanaaQuiet
import Derived.Deep.RegionHeld3
import Derived.Deep.CutBlock
import Derived.Deep.DeepCutAuto
namespace Go.Proofs.Ytolijjofbdhanaa
open Go.RowKit

theorem own_more2 {w : World} {base : Nat} {e : TypeId} {v : Value} {l : List UInt8} (h : OwnB w base e v l) (n : Nat) (hn : l.length = n) :
    ∃ ao c, v = .slice ao n c ∧ IsB w ao n c l ∧ n ≤ c ∧ (∀ p, ao = some p → base ≤ p.block ∧ p.block < w.heap.size) := by
  subst hn
  exact own_more h

/-- both readers, at one place -/
structure Two (W : World) (a af : Nat) (ao : Option Addr) (n c : Nat) (B : List UInt8) (wr : World) (l : List UInt8) (kk : Nat) (bad : Bool) : Prop where
  r : IsR wr a (fun b => b < a) l bad
  f : IsF wr af ao n c B kk bad
  link : Link B l kk bad
  len : l.length ≤ 300
  below : Below W.heap.size W wr
theorem IsR.weak {w : World} {a : Nat} {T T' : Nat → Prop} {l : List UInt8} {bad : Bool} (h : IsR w a T l bad) (hT : ∀ b, T b → T' b) (hne : ¬ T' a) : IsR w a T' l bad := by
  obtain ⟨⟨ao, n, c, h1, h2, h3, h4⟩, _⟩ := h
  exact ⟨⟨ao, n, c, h1, h2, h3, fun p hp => hT _ (h4 p hp)⟩, hne⟩

theorem IsB.heap {w w' : World} {ao : Option Addr} {n c : Nat} {l : List UInt8} (h : IsB w ao n c l) (hw : w'.heap = w.heap) : IsB w' ao n c l := by
  obtain ⟨h1, h2, h3⟩ := h
  refine ⟨h1, h2, ?_⟩
  rcases h3 with h3 | ⟨b, off, h4, h5⟩
  · exact .inl h3
  · exact .inr ⟨b, off, h4, fun i hi => (World.cell?_of_block (by rw [hw])).trans (h5 i hi)⟩
theorem IsR.heap {w w' : World} {a : Nat} {T : Nat → Prop} {l : List UInt8} {bad : Bool} (h : IsR w a T l bad) (hw : w'.heap = w.heap) : IsR w' a T l bad := by
  obtain ⟨⟨ao, n, c, h1, h2, h3, h4⟩, hne⟩ := h
  exact ⟨⟨ao, n, c, by rw [hw]; exact h1, h2.heap hw, h3, h4⟩, hne⟩
theorem IsF.heap {w w' : World} {a : Nat} {ao : Option Addr} {n c : Nat} {B : List UInt8} {k : Nat} {bad : Bool} (h : IsF w a ao n c B k bad) (hw : w'.heap = w.heap) : IsF w' a ao n c B k bad :=
  ⟨by rw [hw]; exact h.row, h.bytes.heap hw, h.le, h.ne, h.at_, h.room⟩
theorem far1 {a b : Nat} (h : a ≠ b) : a ∉ [b] := by simpa using h
theorem Only.heap {S : List Nat} {w w0 w' : World} (h : Only S w0 w') (hh : w0.heap = w.heap) (ho : w0.os = w.os) (ht : w0.tape = w.tape) (hp : w0.output = w.output) : Only S w w' :=
  ⟨h.os.trans ho, h.tape.trans ht, h.output.trans hp, by rw [← hh]; exact h.size, fun k hk hs => by rw [← hh]; exact h.block k (by rw [hh]; exact hk) hs⟩

theorem Two.draws {W : World} {a af : Nat} {ao : Option Addr} {n c : Nat} {B : List UInt8} {wr : World} {l : List UInt8} {kk : Nat} {bad : Bool} (h : Two W a af ao n c B wr l kk bad) (d : Nat) : Two W a af ao n c B (wr.drewN d) l kk bad :=
  ⟨h.r.heap rfl, h.f.heap rfl, h.link, h.len, ⟨h.below.os, h.below.tape, h.below.output, h.below.size, h.below.block⟩⟩
theorem fEnd_any2 (a : Nat) (ao : Option Addr) (n c : Nat) (B : List UInt8) (k : Nat) (bad : Bool) (w : World) (h : IsF w a ao n c B k bad) :
    Calls Try.prog 22 #[.pointer (some ⟨a, 0, none⟩)] w fun e w' => e = .returned (.bool (!bad && ((k : Int) == (n : Int)))) ∧ ∃ d, w' = w.drewN d :=
  (fEnd_any a ao n c B k bad w h).mono fun _ _ ⟨d, h1, h2⟩ => ⟨h1, d, h2⟩
theorem Two.next {W : World} {a af : Nat} {ao : Option Addr} {n c : Nat} {B : List UInt8} {wr wA wB : World} {l l' : List UInt8} {kk k' : Nat} {bad bad' : Bool} (h : Two W a af ao n c B wr l kk bad)
    (hge : W.heap.size ≤ a) (haf : a < af) (hA : Only [a] wr wA) (hB : Only [af] wA wB) (hr : IsR wA a (fun b => b < a) l' bad') (hf : IsF wB af ao n c B k' bad') (hl : Link B l' k' bad') (hlen : l'.length ≤ l.length) : Two W a af ao n c B wB l' k' bad' := by
  have h1 := h.below.size
  refine ⟨hr.keep hB (far1 (by omega)) (fun k hk => far1 (by omega)), hf, hl, Nat.le_trans hlen h.len, ?_⟩
  have h2 : Below W.heap.size W wA := h.below.trans (hA.below h1 (by simpa using hge))
  exact h2.trans (hB.below h2.size (fun k hk => by have := List.mem_singleton.1 hk; omega))

set_option maxHeartbeats 1000000 in
theorem reads_walk (ao : Option Addr) (n c : Nat) (B : List UInt8) (ai : Option Addr) (m ci : Nat) (zs : List Int) (W : World) (h : IsB W ao n c B) (hnc : n ≤ c) (hcc : c ≤ 140737488351232) (hi : IsI W ai m ci zs)
    (hzs : ∀ z ∈ zs, -9223372036854775808 ≤ z ∧ z ≤ 9223372036854775807) (hmi : m ≤ 17592186044416) :
    Calls Try.prog 5 #[.slice ao n c, .slice ai m ci] W fun e w' => e = .returned (.bool true) ∧ Below W.heap.size W w' := by
  by_cases h3 : 300 < n
  · go_enter Try.func5, Try.ntmps5
    go_wp2_with fail
    refine (awake_any _).mono ?_
    rintro e w0 ⟨rfl, hb0⟩
    go_wp2_with fail
    go_ret
    exact ⟨rfl, hb0⟩
  by_cases h4 : 60 < m
  · go_enter Try.func5, Try.ntmps5
    go_wp2_with fail
    refine (awake_any _).mono ?_
    rintro e w0 ⟨rfl, hb0⟩
    go_wp2_with fail
    go_ret
    exact ⟨rfl, hb0⟩
  have hlen := h.len
  have HB := Lib.hid h; clear h
  have HI := Lib.hid hi; clear hi
  have HZ := Lib.hid hzs; clear hzs
  go_enter Try.func5, Try.ntmps5
  go_wp2_with fail
  refine (awake_any _).mono ?_
  rintro e w0 ⟨rfl, hb0⟩
  have hz0 := hb0.size
  have hb1 : ([] : List UInt8).length + n ≤ 140737488355328 := by simp; omega
  have HB0 := Lib.hid (HB.out.below hb0)
  have HL := Lib.hid hlen; clear hlen
  go_wp2_with (at_builtin; refine wpList_append_bytes rfl _ _ 24 rfl w0.heap.size 5 Try.underlying24 info5 _ [] rfl (OwnB.new _ _ _ [] _ rfl _ rfl (by exact Nat.le_refl _) 0 rfl (by decide)) _ _ _ _ rfl (HB0.out.alloc _) hb1 (by simp) ?_; intro v' w2 hown' hgr hb2; clear hgr; rw [List.nil_append] at hown'; obtain ⟨a1, c1, hv1, hbs, hc1, hn1⟩ := own_more2 hown' n HL.out; subst hv1; clear hown')
  refine (read_any a1 n c1 B _ hbs (by omega)).mono ?_
  rintro e w3 ⟨a, rfl, hr, ha1, ha2, hb3⟩
  have hB2 : Below W.heap.size W w2 := hb0.trans ((((Below.refl _ _).alloc (Nat.le_refl _) _).trans hb2).mono hz0)
  have hB3 : Below W.heap.size W w3 := hB2.trans (hb3.mono hB2.size)
  have hz3 := hB3.size
  have hge : W.heap.size ≤ a := Nat.le_trans hB2.size ha1
  have hr' : IsR w3 a (fun b => b < a) B false := hr.weak (fun b hb => hb.2) (Nat.lt_irrefl _)
  clear hr hbs hc1 hn1 hb0 hb2 hb3 HB0 ha1 hB2 hb1 hz0
  have HB3 := Lib.hid (HB.out.below hB3)
  have HR := Lib.hid hr'; clear hr'
  have hne : n = 0 ∨ ∀ b, W.heap.size ≤ b → ∀ p, ao = some p → p.block ≠ b := by
    rcases HB.out.at_ with h0 | ⟨b, off, h1, h2⟩
    · exact .inl h0
    · by_cases h0 : n = 0
      · exact .inl h0
      · refine .inr fun x hx p hp => ?_
        have := World.block_lt_of_cell? W _ (h2 0 (by omega))
        rw [h1] at hp
        cases hp
        simp at this ⊢
        omega
  have HN := Lib.hid hne; clear hne
  go_wp2_with fail
  have h2 : Two W a w3.heap.size ao n c B (w3.alloc (.cells #[.slice ao n c, .int .i64 0, .bool false] 34)) B 0 false := by
    refine ⟨HR.out.only ((Below.refl _ _).alloc (Nat.le_refl _) _), ⟨heap_new _ _, HB3.out.alloc _, hnc, ?_, by omega, by omega⟩, ⟨(fun h => by cases h), fun _ => rfl, by omega⟩, by rw [HL.out]; omega, hB3.alloc hz3 _⟩
    rcases HN.out with h0 | h0
    · exact .inl h0
    · exact .inr (h0 _ hz3)
  generalize w3.alloc (.cells #[.slice ao n c, .int .i64 0, .bool false] 34) = w4 at h2
  generalize w3.heap.size = af at h2 ha2 hz3
  clear HR HB3
  have H2 := Lib.hid h2; clear h2
  go_wp2_with fail
  go_loopw [7] (fun i wr => ∃ k : Nat, k ≤ m ∧ i = .int .i64 (k : Int) ∧ ∃ l kk bad, Two W a af ao n c B wr l kk bad) (fun i _ => m - (intOf i).toNat)
  case atStart => exact ⟨0, by omega, rfl, _, _, _, H2.out⟩
  case round =>
    clear H2
    obtain ⟨k, hk, rfl, l, kk, bad, ht⟩ := hrel
    by_cases hlt : k < m
    · obtain ⟨ag, rfl⟩ : ∃ ag : Nat × Nat, ai = some ⟨ag.1, ag.2, none⟩ := by
        rcases HI.out.at_ with h0 | ⟨b, off, h1, h2⟩
        · omega
        · exact ⟨(b, off), h1⟩
      obtain ⟨hcell, hgb⟩ : wr.cell? ⟨ag.1, ag.2 + k, none⟩ = some (.int .i64 (zs.getD k 0)) ∧ ag.1 < W.heap.size := by
        rcases HI.out.at_ with h0 | ⟨b, off, h1, h2⟩
        · omega
        · have h3 := h2 k hlt
          have := cell_later ht.below h3
          have h5 := World.block_lt_of_cell? W _ h3
          cases h1
          exact ⟨this, h5⟩
      have hz : -9223372036854775808 ≤ zs.getD k 0 ∧ zs.getD k 0 ≤ 9223372036854775807 := by
        have : k < zs.length := by rw [HI.out.len]; exact hlt
        refine HZ.out _ ?_
        rw [List.getD_eq_getElem?_getD, List.getElem?_eq_getElem this]
        exact List.getElem_mem this
      generalize zs.getD k 0 = z at hcell hz
      have HT := Lib.hid ht; clear ht
      go_upto_block 2 with (fail)
      go_cut [8] (fun u wx => u = .bool true ∧ ∃ l' kk' bad', Two W a af ao n c B wx l' kk' bad')
      case first =>
        have nA : ag.1 ∉ [a] := far1 (by omega)
        have nB : ag.1 ∉ [af] := far1 (by omega)
        have hl9 : l.length ≤ 140737488355328 := Nat.le_trans HT.out.len (by decide)
        have fk := fun (wA : World) (hoA : Only [a] wr wA) => HT.out.f.only hoA (Nat.ne_of_gt ha2) (HN.out.imp id fun h => h a hge)
        have HFK := Lib.hid fk; clear fk
        by_cases g0 : (bits BinOp.and IntKind.i64 z 3 == 0) = true
        · go_wp2_with fail
          go_region_held3 (fun w' => w'.cell? ⟨ag.1, ag.2 + k, none⟩ = some (.int .i64 z)) (first | go_keep | exact kept1 | exact kept2)
            (first
              | (go_at_call 14; refine (rdText_any a l bad _ _ (by exact HT.out.r.heap rfl) hl9).mono ?_; rintro e wA ⟨rfl, hrA, hoA0⟩; have hoA : Only [a] wr wA := ((Only.refl [a] wr).drew).trans hoA0; have kept1 := hoA.cell hcell nA)
              | (go_at_call 15; refine (fText_any af ao n c B kk bad _ _ (by exact (HFK.out _ hoA).heap rfl)).mono ?_; rintro e wB ⟨rfl, hfB, hoB⟩; have kept2 := hoB.cell kept1 nB))
          have lk := link_T HT.out.link (z / 4)
          rw [lk.2.1] at hfB
          have ht' := HT.out.next hge ha2 hoA hoB hrA hfB lk.2.2 (rT_len l bad (z / 4))
          have gx : ((rT l bad (z / 4)).v.toList == (fT B kk bad (z / 4)).v.toList) = true := by rw [lk.1]; simp
          rw [gx]
          clear lk hrA hfB kept1 kept2 hoA hoB
          go_wp2_with fail
          go_meet
          exact ⟨rfl, _, _, _, ht'⟩
        · replace g0 : (bits BinOp.and IntKind.i64 z 3 == 0) = false := by simpa using g0
          by_cases g1 : (bits BinOp.and IntKind.i64 z 3 == 1) = true
          · go_wp2_with fail
            go_region_held3 (fun w' => w'.cell? ⟨ag.1, ag.2 + k, none⟩ = some (.int .i64 z)) (first | go_keep | exact kept1 | exact kept2)
            (first
              | (go_at_call 16; refine (rdCount_any a l bad _ _ (by exact HT.out.r.heap rfl) hl9).mono ?_; rintro e wA ⟨rfl, hrA, hoA0⟩; have hoA : Only [a] wr wA := ((Only.refl [a] wr).drew).trans hoA0; have kept1 := hoA.cell hcell nA)
              | (go_at_call 17; refine (fCount_any af ao n c B kk bad _ _ (by exact (HFK.out _ hoA).heap rfl)).mono ?_; rintro e wB ⟨rfl, hfB, hoB⟩; have kept2 := hoB.cell kept1 nB))
            have lk := link_C HT.out.link (z / 4)
            rw [lk.2.1] at hfB
            have ht' := HT.out.next hge ha2 hoA hoB hrA hfB lk.2.2.2 (rC_len l bad (z / 4))
            have gx : ((rC l bad (z / 4)).v == (fC B kk bad (z / 4)).v) = true := by rw [lk.1]; simp
            rw [gx]
            clear lk hrA hfB kept1 kept2 hoA hoB
            go_wp2_with fail
            go_meet
            exact ⟨rfl, _, _, _, ht'⟩
          · replace g1 : (bits BinOp.and IntKind.i64 z 3 == 1) = false := by simpa using g1
            go_wp2_with fail
            refine (rdI64_any a l bad _ (by exact HT.out.r.heap rfl) hl9).mono ?_
            rintro e wA ⟨rfl, hrA, hoA⟩
            go_wp2_with fail
            refine (fI64_any af ao n c B kk bad _ (by exact (HFK.out _ hoA).heap rfl)).mono ?_
            rintro e wB ⟨rfl, hfB, hoB⟩
            have lk := link_I HT.out.link
            rw [lk.2.1] at hfB
            have ht' := HT.out.next hge ha2 hoA hoB hrA hfB lk.2.2.2 (rI_len l bad)
            have gx : ((rI l bad).v == (fI B kk bad).v) = true := by rw [lk.1]; simp
            clear lk hrA hfB
            go_wp2_with fail
            go_meet
            exact ⟨rfl, _, _, _, ht'⟩
      case rest =>
        clear HT hcell
        obtain ⟨rfl, l', kk', bad', ht⟩ := hcut
        have e20 := fun d => bad_any a l' bad' (wc.drewN d) (ht.r.heap rfl)
        have e21 := fun d => end_any a l' bad' (wc.drewN d) (ht.r.heap rfl)
        have e22 := fun d => fEnd_any2 af ao n c B kk' bad' (wc.drewN d) (ht.f.heap rfl)
        have le := link_end ht.link n HL.out
        rw [le] at e22
        clear le
        generalize (!bad' && l'.isEmpty) = q at e21 e22
        have hc2 : wc.cell? ⟨af, 2, none⟩ = some (.bool bad') := by rw [cell_heap ht.f.row]; rfl
        have E20 := Lib.hid e20; clear e20
        have E21 := Lib.hid e21; clear e21
        have E22 := Lib.hid e22; clear e22
        have HT := Lib.hid ht; clear ht
        have q1 : (bad' != bad') = false := by simp
        have q2 : (q != q) = false := by simp
        go_wp2_with fail
        go_quiet ((first | (go_at_call 20; exact quiet_left (E20.out _)) | (go_at_call 21; exact quiet_left (E21.out _)) | (go_at_call 22; exact quiet_some (E22.out _))))
        go_wp2_with fail
        go_roundw
        case rel => exact ⟨k + 1, by omega, by go_num, _, _, _, HT.out.draws _⟩
        case measure => simp [intOf]; omega
    · go_wp2_with fail
      go_ret
      exact ⟨rfl, ht.below⟩
theorem reads_said (ao : Option Addr) (n c : Nat) (B : List UInt8) (ai : Option Addr) (m ci : Nat) (zs : List Int) (W : World) (h : IsB W ao n c B) (hnc : n ≤ c) (hcc : c ≤ 140737488351232) (hi : IsI W ai m ci zs) (hmc : m ≤ ci) (hci : ci * 8 ≤ 140737488351232)
    (hzs : ∀ z ∈ zs, -9223372036854775808 ≤ z ∧ z ≤ 9223372036854775807) :
    Calls Try.prog 5 #[.slice ao n c, .slice ai m ci] W fun e w' => e = .returned (.bool true) ∧ Below W.heap.size W w' :=
  reads_walk ao n c B ai m ci zs W h hnc hcc hi hzs (by omega)
end Go.Proofs.Ytolijjofbdhanaa
