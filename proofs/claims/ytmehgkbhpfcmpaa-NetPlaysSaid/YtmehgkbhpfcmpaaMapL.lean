/-
  Ways that are cut: a map keyed by two nodes.
-/
import Derived.Test.YtmehgkbhpfcmpaaRows
import Derived.Test.YtmehgkbhpfcmpaaKit
import Derived.Test.YtmehgkbhpfcmpaaOnly
import Derived.Test.YtmehgkbhpfcmpaaKitI
import Derived.Test.YtmehgkbhpfcmpaaQuiet
import Derived.Maps.Keyed
import Derived.DeepKeys4
import Derived.ChangeMaps5
namespace Go.Proofs.Ytmehgkbhpfcmpaa
open Go.RowKit Go.ChangeMaps Go.WideMaps Go.Maps

theorem Net_laidOut : laidOutB Try.prog = true := by kernel_rfl
theorem row61 : (61 : TypeId) < Try.prog.types.size := of_decide_eq_true (by kernel_rfl)
theorem cells61 : Try.prog.cellsOf 61 = 2 := by kernel_rfl
theorem cells3 : Try.prog.cellsOf 3 = 1 := by kernel_rfl
theorem deep61 : Try.prog.keyTypeAt (Try.prog.types.size + 1) 61 = true := by kernel_rfl
theorem keyT61 : Try.prog.keyType 61 = true := by kernel_rfl
theorem wide61 : (match Try.prog.underlying 61 with | some (.array _ _) | some (.struct _) => true | _ => false) = true := by rw [Try.underlying61]
theorem law61 : KeyLaw Try.prog 61 := deep_law_laid Net_laidOut (m := 2) (by omega) row61 (by kernel_rfl) wide61
theorem keyed61 : Keyed Try.prog 61 := Keyed.of_law law61
def keyV (p : Int × Int) : Value := .agg #[.int .i64 p.1, .int .i64 p.2]
def wfK (p : Int × Int) : Prop := (-9223372036854775808 ≤ p.1 ∧ p.1 ≤ 9223372036854775807) ∧ (-9223372036854775808 ≤ p.2 ∧ p.2 ≤ 9223372036854775807)
theorem formed61 {c0 c1 : Value} : (Value.agg #[c0, c1]).formed Try.prog 61 = true := by simp [Value.formed, Try.underlying61, cells61]
theorem key_of (p : Int × Int) (h : wfK p) : ∃ l, keyOf Try.prog 61 (keyV p) = some l := by
  have h1 : (Lit.int .i64 p.1).wf = true := by simp [Lit.wf, IntKind.min, IntKind.max, IntKind.bits, IntKind.signed]; exact h.1
  have h2 : (Lit.int .i64 p.2).wf = true := by simp [Lit.wf, IntKind.min, IntKind.max, IntKind.bits, IntKind.signed]; exact h.2
  obtain ⟨d, hd⟩ : ∃ d, Try.prog.types.size = d + 1 := ⟨Try.prog.types.size - 1, by have : 61 < Try.prog.types.size := row61; omega⟩
  have hk : Try.prog.keyLits (Try.prog.types.size + 1) 61 [.int .i64 p.1, .int .i64 p.2] = some [.int .i64 p.1, .int .i64 p.2] := by
    rw [hd]
    simp [Program.keyLits, Try.underlying61, Try.underlying3, cells61, cells3, h1, h2, List.range_succ]
  unfold keyOf
  rw [Try.underlying61]
  simp only [keyT61, keyV, formed61, Bool.and_self, if_true]
  rw [show (Value.agg #[Value.int .i64 p.1, .int .i64 p.2]).cells.toList = [.int .i64 p.1, .int .i64 p.2] by simp [Value.cells], hk]
  exact ⟨_, rfl⟩
theorem keyV_inj {p q : Int × Int} (h : keyV p = keyV q) : p = q := by
  simp only [keyV, Value.agg.injEq, Array.mk.injEq, List.cons.injEq, Value.int.injEq, true_and, and_true] at h
  exact Prod.ext h.1 h.2

/-- the map at block mb: the ways es, each told whether it is cut -/
structure IsCut (w : World) (mb : Nat) (es : List ((Int × Int) × Bool)) : Prop where
  map : ∃ arr c, w.heap[mb]? = some (.map arr c) ∧ arr.toList.map (fun e => (e.key, e.val)) = es.map (fun e => (keyV e.1, Value.bool e.2))
  wf : ∀ e ∈ es, wfK e.1
  nodup : (es.map (·.1)).Nodup
theorem IsCut.only {w w' : World} {mb : Nat} {es : List ((Int × Int) × Bool)} (h : IsCut w mb es) {S : List Nat} (ho : Only S w w') (hs : mb ∉ S) : IsCut w' mb es := by
  obtain ⟨⟨arr, c, h1, h2⟩, h3, h4⟩ := h
  exact ⟨⟨arr, c, ho.keeps h1 hs, h2⟩, h3, h4⟩
theorem IsCut.heap {w w' : World} {mb : Nat} {es : List ((Int × Int) × Bool)} (h : IsCut w mb es) (hw : w'.heap = w.heap) : IsCut w' mb es := by
  obtain ⟨⟨arr, c, h1, h2⟩, h3, h4⟩ := h
  exact ⟨⟨arr, c, by rw [hw]; exact h1, h2⟩, h3, h4⟩
theorem IsCut.new (w : World) : IsCut (w.alloc (.map #[] 0)) w.heap.size [] := ⟨⟨#[], 0, heap_new _ _, rfl⟩, by simp, by simp⟩
def cutOf (es : List ((Int × Int) × Bool)) (p : Int × Int) : Bool := ((es.find? fun e => e.1 == p).map (·.2)).getD false
theorem IsCut.keys {w : World} {mb : Nat} {es : List ((Int × Int) × Bool)} (h : IsCut w mb es) : ∀ arr c, w.heap[mb]? = some (.map arr c) → ∀ e ∈ arr.toList, ∃ l, keyOf Try.prog 61 e.key = some l := by
  obtain ⟨⟨arr, c, h1, h2⟩, h3, _⟩ := h
  intro arr' c' h1' e he
  rw [h1] at h1'
  obtain ⟨rfl, rfl⟩ : arr = arr' ∧ c = c' := by simpa using h1'
  have : (e.key, e.val) ∈ arr.toList.map (fun e => (e.key, e.val)) := List.mem_map_of_mem he
  rw [h2] at this
  obtain ⟨x, hx, hxe⟩ := List.mem_map.1 this
  have hk : e.key = keyV x.1 := by simp only [Prod.mk.injEq] at hxe; exact hxe.1.symm
  rw [hk]
  exact key_of x.1 (h3 x hx)
theorem zero4 (w : World) : (zeroValue 4).run Try.prog w = .ok (.bool false) w := by kernel_rfl
theorem run_cut {w : World} {mb : Nat} {es : List ((Int × Int) × Bool)} (h : IsCut w mb es) (p : Int × Int) (hp : wfK p) :
    (Instr.lookup 58 (.map (some mb)) (keyV p) false).run Try.prog w = .ok (.bool (cutOf es p)) w := by
  obtain ⟨arr, c, hb, hm⟩ := h.map
  obtain ⟨kl, hkey⟩ := key_of p hp
  have ht := Try.underlying58
  rcases keyed61.find w hkey arr.toList (h.keys arr c hb) with ⟨h1, h2⟩ | ⟨j, e, h1, h2, h3⟩
  · have hc : cutOf es p = false := by
      unfold cutOf
      rw [List.find?_eq_none.2 ?_]; rfl
      intro x hx hxp
      have hxp : x.1 = p := by simpa using hxp
      have : (keyV x.1, Value.bool x.2) ∈ arr.toList.map (fun e => (e.key, e.val)) := by rw [hm]; exact List.mem_map.2 ⟨x, hx, rfl⟩
      obtain ⟨e, he, hee⟩ := List.mem_map.1 this
      simp only [Prod.mk.injEq] at hee
      exact h2 e he (by rw [hee.1, hxp])
    rw [hc]
    simp [Instr.lookup, run_underlying ht, MapKept.run_getObj_map hb, keyed61.check w _ hkey, h1, zero4, Result.andThen]
  · have hc : e.val = .bool (cutOf es p) := by
      have hj : (arr.toList.map (fun e => (e.key, e.val)))[j]? = some (e.key, e.val) := by rw [List.getElem?_map, h2]; rfl
      rw [hm, List.getElem?_map] at hj
      obtain ⟨x, hx, hxe⟩ := Option.map_eq_some_iff.1 hj
      simp only [Prod.mk.injEq] at hxe
      have hxp : x.1 = p := keyV_inj (by rw [hxe.1, h3])
      have hmem : x ∈ es := List.mem_of_getElem? hx
      rw [← hxe.2]
      unfold cutOf
      have : es.find? (fun e => e.1 == p) = some x := by
        cases hf : es.find? (fun e => e.1 == p) with
        | none => exact absurd (List.find?_eq_none.1 hf x hmem) (by simp [hxp])
        | some y =>
          have hy : y.1 = p := by simpa using List.find?_some hf
          have hym := List.mem_of_find?_eq_some hf
          congr 1
          obtain ⟨i, hi, rfl⟩ := List.getElem_of_mem hym
          obtain ⟨i2, hi2, rfl⟩ := List.getElem_of_mem hmem
          have hnd := h.nodup
          rw [List.nodup_iff_pairwise_ne] at hnd
          have := (List.pairwise_iff_getElem.1 hnd)
          rcases Nat.lt_trichotomy i i2 with hlt | rfl | hlt
          · exact absurd (by rw [List.getElem_map, List.getElem_map, hy, hxp]) (this i i2 (by simpa using hi) (by simpa using hi2) hlt)
          · rfl
          · exact absurd (by rw [List.getElem_map, List.getElem_map, hy, hxp]) (this i2 i (by simpa using hi2) (by simpa using hi) hlt)
      rw [this]; rfl
    rw [← hc]
    simp [Instr.lookup, run_underlying ht, MapKept.run_getObj_map hb, keyed61.check w _ hkey, h1, Result.andThen]
/-- a way is cut, or not, that had not been told -/
theorem run_cutting {w : World} {mb : Nat} (h : IsCut w mb []) (p : Int × Int) (hp : wfK p) (b : Bool) :
    ∃ w', (Instr.mapUpdate 58 (.map (some mb)) (keyV p) (.bool b)).run Try.prog w = .ok () w' ∧ IsCut w' mb [(p, b)] ∧ Only [mb] w w' := by
  obtain ⟨arr, c, hb, hm⟩ := h.map
  obtain ⟨kl, hkey⟩ := key_of p hp
  have ht := Try.underlying58
  obtain rfl : arr = #[] := by
    have := congrArg List.length hm
    simpa using this
  have h1 : (Instr.findKey 61 (keyV p) (#[] : Array MapEntry).toList).run Try.prog w = .ok none w := by
    rcases keyed61.find w hkey [] (by simp) with ⟨h1, _⟩ | ⟨j, e, _, h2, _⟩
    · exact h1
    · simp at h2
  refine ⟨setBlock w mb (.map #[⟨keyV p, .bool b, c⟩] (c + 1)), by simp [Instr.mapUpdate, run_underlying ht, MapKept.run_getObj_map hb, keyed61.check w _ hkey, h1, MapKept.run_setObj_map _ hb, Result.andThen, setBlock], ?_, ?_⟩
  · exact ⟨⟨_, _, heap_setBlock_same hb _, rfl⟩, by simpa using hp, by simp⟩
  · exact ⟨rfl, rfl, rfl, by simp [setBlock], fun k _ hk => heap_setBlock_other hb _ (by simpa using hk)⟩
end Go.Proofs.Ytmehgkbhpfcmpaa
