/-
  Time goes by: those whose time is over are dropped.
-/
import Derived.Test.YtmlgggcdjknlfaaTickL
namespace Go.Proofs.Ytmlgggcdjknlfaa
open Go.RowKit

/-- of the blocks below B, only those of S have turned -/
structure Near (S : List Nat) (B : Nat) (w w' : World) : Prop where
  os : w'.os = w.os
  tape : w'.tape = w.tape
  output : w'.output = w.output
  size : w.heap.size ≤ w'.heap.size
  block : ∀ k, k < B → k ∉ S → w'.heap[k]? = w.heap[k]?
theorem Near.refl (S : List Nat) (B : Nat) (w : World) : Near S B w w := ⟨rfl, rfl, rfl, Nat.le_refl _, fun _ _ _ => rfl⟩
theorem Near.below {S : List Nat} {B : Nat} {a w w' : World} (h : Near S B a w) (hb : Below B w w') : Near S B a w' :=
  ⟨hb.os.trans h.os, hb.tape.trans h.tape, hb.output.trans h.output, Nat.le_trans h.size hb.size, fun k hk hs => (hb.block k hk).trans (h.block k hk hs)⟩
theorem Near.only {S : List Nat} {B : Nat} {a w w' : World} (h : Near S B a w) (hB : B ≤ w.heap.size) (hb : Only S w w') : Near S B a w' :=
  ⟨hb.os.trans h.os, hb.tape.trans h.tape, hb.output.trans h.output, Nat.le_trans h.size hb.size, fun k hk hs => (hb.block k (Nat.lt_of_lt_of_le hk hB) hs).trans (h.block k hk hs)⟩
theorem cell_near {S : List Nat} {B : Nat} {w w' : World} {p : Addr} {v : Value} (hb : Near S B w w') (hp : p.block < B) (hs : p.block ∉ S) (hc : w.cell? p = some v) : w'.cell? p = some v :=
  (World.cell?_of_block (w := w) (hb.block p.block hp hs)).trans hc
theorem rows_below {w w' : World} {B base : Nat} {e : TypeId} {k : Nat} {v : Value} {n : Nat} {xs : List Value} (h : w.ownsRow base e k v n xs) (ho : Below B w w') (hs : ∀ b, v.ownBlock = some b → b < B) : w'.ownsRow base e k v n xs := by
  refine ⟨h.1, ?_⟩
  rcases h.2 with h2 | ⟨g, cap, cur, rfl, hg, hh, r⟩
  · exact .inl h2
  · exact .inr ⟨g, cap, cur, rfl, hg, (ho.block g (hs g rfl)).trans hh, r⟩

set_option maxHeartbeats 2000000 in
theorem drop_over (base : Nat) (v : Value) (l : List Se) (now : Int) (a bs bl : Nat) (w : World) (h : w.ownsRow base 54 3 v l.length (row3 l)) (hv : ∀ k, v.ownBlock = some k → k < bl ∧ k ≠ a ∧ k ≠ bs)
    (hb : bs < bl) (ha : a < bl) (hc : w.cell? ⟨bs, 0, none⟩ = some (.pointer (some ⟨a, 0, none⟩))) (hn : w.cell? ⟨a, 1, none⟩ = some (.int .i64 now)) (ht : Told w bl []) (hl : l.length ≤ 1000000) :
    Calls Try.prog 28 #[v, .func (.func 29) #[] #[.pointer (some ⟨bs, 0, none⟩), .pointer (some ⟨bl, 0, none⟩)]] w fun e w' => ∃ v', e = .returned v' ∧ w'.ownsRow base 54 3 v' (keepers now l).length (row3 (keepers now l)) ∧ v'.ownBlock = v.ownBlock ∧ Told w' bl (overIds now l) ∧ Near v.ownBlock.toList bl w w' := by
  have HI := Lib.hid (index_over base v l now a bs bl w h (fun k hk => (hv k hk).1) hb ha hc hn ht hl)
  have H := Lib.hid h
  have HV := Lib.hid hv
  by_cases hf : l.findIdx (over now) < l.length
  · -- one at least is over
    generalize hk : l.findIdx (over now) = k at *
    obtain ⟨g, cap, rfl, hg1, hg2, hg3, hg4, _⟩ := row_cell h (by omega)
    have HM := Lib.hid (Mid.start now l k hf hk)
    have hz : firstOver now l = (k : Int) := by unfold firstOver; rw [hk, if_pos hf]
    rw [hz] at HI
    obtain ⟨hgb, hga, hgs⟩ := hv g rfl
    have HC := Lib.hid hc; clear hc
    have HN := Lib.hid hn; clear hn
    have HT := Lib.hid ht; clear ht
    clear hv h hz
    have HK := Lib.hid hk; clear hk
    generalize hn : l.length = n at *
    have HL := Lib.hid hn; clear hn
    go_enter Try.func28, Try.ntmps28
    go_wp2_with fail
    refine HI.out.mono ?_
    rintro e w1 ⟨rfl, ht1, hb1⟩
    have HT1 := Lib.hid ht1; clear ht1
    have HB1 := Lib.hid hb1; clear hb1
    go_wp2_with fail
    have hk1 : ((k : Int) == -1) = false := by simp
    rw [hk1]
    clear hk1
    go_loopw [5, 6] (fun i j wr => ∃ (i' j' : Nat) (m : List Se), i = .int .i64 (i' : Int) ∧ j = .int .i64 (j' : Int) ∧ j' ≤ n ∧ Mid now l m i' j' ∧ wr.ownsRow base 54 3 (.slice (some ⟨g, 0, none⟩) n cap) n (row3 m) ∧ Told wr bl (overIds now (l.take j')) ∧ Near [g] bl w wr) (fun _ j _ => n - (intOf j).toNat)
    case atStart => exact ⟨k, k + 1, l, rfl, by go_num, by omega, HM.out, rows_below H.out HB1.out (fun k hk => (HV.out k hk).1), HT1.out, (Near.refl _ _ _).below HB1.out⟩
    case round =>
      obtain ⟨i', j', m, rfl, rfl, hjn, hmid, hrow, htr, hnr⟩ := hrel
      have HMID := Lib.hid hmid; clear hmid
      have HROW := Lib.hid hrow; clear hrow
      have HTR := Lib.hid htr; clear htr
      have HNR := Lib.hid hnr; clear hnr
      have hlen : m.length = n := HMID.out.len.trans HL.out
      have hij := HMID.out.lt
      by_cases hlt : j' < n
      · have hrow' := HROW.out
        rw [← hlen] at hrow'
        obtain ⟨g', cap', he, _, _, _, _, hcell⟩ := row_cell hrow' (by omega)
        simp only [Value.slice.injEq, Option.some.injEq, Addr.mk.injEq, and_true, true_and] at he
        obtain ⟨rfl, rfl⟩ := he
        have hat := HMID.out.at_ (by rw [HL.out]; exact hlt)
        have c0 : wr.cell? ⟨g, j' * 3, none⟩ = some (.int .i64 (l.getD j' ⟨0, 0, 0⟩).id) := by rw [← hat]; exact hcell j' 0 (by omega) (by decide)
        have c1 : wr.cell? ⟨g, j' * 3 + 1, none⟩ = some (.int .i64 (l.getD j' ⟨0, 0, 0⟩).span) := by rw [← hat]; exact hcell j' 1 (by omega) (by decide)
        have c2 : wr.cell? ⟨g, j' * 3 + 2, none⟩ = some (.int .i64 (l.getD j' ⟨0, 0, 0⟩).till) := by rw [← hat]; exact hcell j' 2 (by omega) (by decide)
        have hni := overIds_next now l j' (by rw [HL.out]; exact hlt)
        have hov := HMID.out.over (by rw [HL.out]; exact hlt)
        have hke := HMID.out.keep (by rw [HL.out]; exact hlt)
        generalize hs : l.getD j' ⟨0, 0, 0⟩ = s at *
        obtain ⟨x, y, z⟩ := s
        simp only at c0 c1 c2
        have HNI := Lib.hid hni; clear hni
        have HOV := Lib.hid hov; clear hov
        have HKE := Lib.hid hke; clear hke
        clear hcell hat hrow'
        have hlen2 : (overIds now (l.take j')).length ≤ 1000000 := by
          have h1 : (overIds now (l.take j')).length ≤ (l.take j').length := by unfold overIds; rw [List.length_map]; exact List.length_filter_le _ _
          rw [List.length_take, HL.out] at h1; omega
        have hqs := cell_near HNR.out hb (by simpa using Ne.symm hgs) HC.out
        have hqn := cell_near HNR.out ha (by simpa using Ne.symm hga) HN.out
        have HBX : Hid (Below bl wr (wr.alloc (.cells #[.int .i64 x, .int .i64 y, .int .i64 z] 54))) := Lib.hid ((Below.refl _ _).alloc (Nat.le_of_lt HTR.out.lt) _)
        have HTA := Lib.hid (HTR.out.only ((Only.refl [] wr).alloc (.cells #[.int .i64 x, .int .i64 y, .int .i64 z] 54)) (by simp))
        have HOA := Lib.hid (over_any x y z now a bs bl _ _ hb ha (cell_below HBX.out hb hqs) (cell_below HBX.out ha hqn) HTA.out hlen2)
        clear hqs hqn hlen2
        go_wp2_with fail
        refine HOA.out.mono ?_
        rintro e w2 ⟨rfl, ht2, hb2, ho2⟩
        have hbox : w2.heap[wr.heap.size]? = some (.cells #[.int .i64 x, .int .i64 y, .int .i64 z] 54 (0, 0)) := by
          obtain ⟨v, k1, k2⟩ := HTA.out
          obtain ⟨v', k1', k2'⟩ := HTR.out
          have h3 := HTR.out.lt
          obtain rfl : v = v' := by
            have h4 := heap_old k1' (.cells #[.int .i64 x, .int .i64 y, .int .i64 z] 54)
            rw [k1] at h4; simpa using h4
          refine (ho2 v k1).keeps (heap_new _ _) ?_
          simp only [List.mem_cons, Option.mem_toList, not_or]
          refine ⟨by omega, fun hm => ?_⟩
          have := (OwnI.lt k2' _ hm).2
          omega
        have q0 : w2.cell? ⟨wr.heap.size, 0, none⟩ = some (.int .i64 x) := by rw [cell_heap hbox]; rfl
        have q1 : w2.cell? ⟨wr.heap.size, 1, none⟩ = some (.int .i64 y) := by rw [cell_heap hbox]; rfl
        have q2 : w2.cell? ⟨wr.heap.size, 2, none⟩ = some (.int .i64 z) := by rw [cell_heap hbox]; rfl
        have hrow2 := rows_below HROW.out (HBX.out.trans hb2) (fun k hk => (HV.out k hk).1)
        have HT2 := Lib.hid ht2; clear ht2
        have HN2 := Lib.hid (HNR.out.below (HBX.out.trans hb2))
        clear ho2 hb2 hbox
        by_cases hxq : over now ⟨x, y, z⟩ = true
        · have HROW2 := Lib.hid hrow2; clear hrow2
          clear q0 q1 q2
          go_wp2_with fail
          go_roundw
          case rel =>
            refine ⟨i', j' + 1, m, rfl, by go_num, by omega, HOV.out hxq, HROW2.out, ?_, HN2.out⟩
            rw [HNI.out]; exact HT2.out
          case measure => simp [intOf]; omega
        · replace hxq : over now ⟨x, y, z⟩ = false := by simpa using hxq
          have f0 := World.ownsRow.frozenAt hrow2 (i' * 3)
          have f1 := World.ownsRow.frozenAt hrow2 (i' * 3 + 1)
          have f2 := World.ownsRow.frozenAt hrow2 (i' * 3 + 2)
          have hrow2' := hrow2
          rw [← hlen] at hrow2'
          obtain ⟨g', cap', he, _, _, _, _, hcell⟩ := row_cell hrow2' (by omega)
          simp only [Value.slice.injEq, Option.some.injEq, Addr.mk.injEq, and_true, true_and] at he
          obtain ⟨rfl, rfl⟩ := he
          have e0 : w2.cell? ⟨g, i' * 3, none⟩ = some (.int .i64 (m.getD i' ⟨0, 0, 0⟩).id) := hcell i' 0 (by omega) (by decide)
          have e1 : w2.cell? ⟨g, i' * 3 + 1, none⟩ = some (.int .i64 (m.getD i' ⟨0, 0, 0⟩).span) := hcell i' 1 (by omega) (by decide)
          have e2 : w2.cell? ⟨g, i' * 3 + 2, none⟩ = some (.int .i64 (m.getD i' ⟨0, 0, 0⟩).till) := hcell i' 2 (by omega) (by decide)
          clear hcell hrow2'
          have HROW2 := Lib.hid hrow2; clear hrow2
          have hin : i' < n := by omega
          go_wp2_with fail
          go_roundw
          case rel =>
            have hS : Only [g] w2 (((w2.setCell ⟨g, i' * 3, none⟩ (.int .i64 x)).setCell ⟨g, i' * 3 + 1, none⟩ (.int .i64 y)).setCell ⟨g, i' * 3 + 2, none⟩ (.int .i64 z)) := (((Only.refl _ _).setCell (by simp) _).setCell (by simp) _).setCell (by simp) _
            refine ⟨i' + 1, j' + 1, m.set i' ⟨x, y, z⟩, by go_num, by go_num, by omega, HKE.out hxq, ?_, ?_, HN2.out.only (Nat.le_of_lt HT2.out.lt) hS⟩
            · rw [row3_set m i' ⟨x, y, z⟩ (by omega)]
              exact (World.ownsRow.stored (World.ownsRow.stored (World.ownsRow.stored HROW2.out _ _).1 _ _).1 _ _).1
            · rw [HNI.out]
              exact HT2.out.only hS (by simpa using hgb)
          case measure => simp [intOf]; omega
      · obtain rfl : j' = n := by omega
        have hcl := fun ty => (clear_se HROW.out hlen hij ty (cap - i')).1
        have hrw := (clear_se HROW.out hlen hij 0 0).2
        have hS : Only [g] wr (wr.setCells g (i' * 3) (zeros3 (j' - i'))) := only_cells g (by simp) _ _ _ (Only.refl _ _)
        have HS := Lib.hid hS
        have HRW := Lib.hid hrw
        clear hS hrw
        have hcap : ¬ cap = i' := by omega
        have hcap2 : i' ≤ cap := by omega
        have HFIN : Hid (m.take i' = keepers now l ∧ (keepers now l).length = i') := Lib.hid (Mid.fin (by rw [HL.out]; exact HMID.out))
        go_wp2_with fail
        go_ret
        refine ⟨_, rfl, ?_, rfl, ?_, HNR.out.only (Nat.le_of_lt HTR.out.lt) HS.out⟩
        · have := HRW.out
          rw [HFIN.out.1] at this
          rwa [HFIN.out.2]
        · have := HTR.out.only HS.out (by simpa using hgb)
          rwa [List.take_of_length_le (by rw [HL.out]; exact Nat.le_refl _)] at this
  · have hk : l.findIdx (over now) = l.length := Nat.le_antisymm List.findIdx_le_length (by omega)
    have hz : firstOver now l = -1 := by unfold firstOver; rw [if_neg hf]
    rw [hz, hk, List.take_of_length_le (by omega)] at HI
    have hke : keepers now l = l := by
      rw [List.findIdx_eq_length] at hk
      unfold keepers
      rw [List.filter_eq_self]
      intro s hs
      simp [hk s hs]
    have HK := Lib.hid hke
    obtain ⟨ao, cap, rfl, _, _⟩ := row_shape h
    clear h hv hke hk hz hf
    go_enter Try.func28, Try.ntmps28
    go_wp2_with fail
    refine HI.out.mono ?_
    rintro e w1 ⟨rfl, ht1, hb1⟩
    have HT1 := Lib.hid ht1; clear ht1
    have HB1 := Lib.hid hb1; clear hb1
    go_wp2_with fail
    go_ret
    refine ⟨_, rfl, ?_, rfl, HT1.out, (Near.refl _ _ _).below HB1.out⟩
    rw [HK.out]
    exact rows_below H.out HB1.out (fun k hk => (HV.out k hk).1)
end Go.Proofs.Ytmlgggcdjknlfaa
