/-
  A way is cut, or not, whatever had been told of it. No condition.
-/
import Derived.Test.YtmehgkbhpfcmpaaMapL
namespace Go.Proofs.Ytmehgkbhpfcmpaa
open Go.RowKit Go.ChangeMaps Go.WideMaps Go.Maps
/-- what is told of ways, when one more is -/
def putCut : List ((Int × Int) × Bool) → (Int × Int) → Bool → List ((Int × Int) × Bool)
  | [], p, b => [(p, b)]
  | e :: es, p, b => if e.1 = p then (p, b) :: es else e :: putCut es p b
theorem putCut_of (es : List ((Int × Int) × Bool)) (p q : Int × Int) (b : Bool) : cutOf (putCut es p b) q = if p = q then b else cutOf es q := by
  induction es with
  | nil =>
    by_cases h : p = q
    · simp [putCut, cutOf, h]
    · simp [putCut, cutOf, h]
  | cons e es ih =>
    unfold putCut
    by_cases he : e.1 = p
    · rw [if_pos he]
      by_cases h : p = q
      · simp [cutOf, h]
      · rw [if_neg h]
        unfold cutOf
        have h1 : (p == q) = false := by simpa using h
        have h2 : (e.1 == q) = false := by rw [he]; exact h1
        simp [List.find?_cons, h1, h2]
    · rw [if_neg he]
      unfold cutOf at ih ⊢
      by_cases h2 : e.1 = q
      · have hpq : ¬ p = q := fun h => he (h2.trans h.symm)
        simp [List.find?_cons, h2, hpq]
      · have h3 : (e.1 == q) = false := by simpa using h2
        simpa [List.find?_cons, h3] using ih
theorem putCut_keys (es : List ((Int × Int) × Bool)) (p : Int × Int) (b : Bool) : ∀ x ∈ putCut es p b, x.1 = p ∨ x ∈ es := by
  induction es with
  | nil => intro x hx; simp [putCut] at hx; exact .inl (by rw [hx])
  | cons e es ih =>
    intro x hx
    unfold putCut at hx
    split at hx
    · rcases List.mem_cons.1 hx with rfl | hx
      · exact .inl rfl
      · exact .inr (List.mem_cons_of_mem _ hx)
    · rcases List.mem_cons.1 hx with rfl | hx
      · exact .inr (List.mem_cons_self ..)
      · rcases ih x hx with h | h
        · exact .inl h
        · exact .inr (List.mem_cons_of_mem _ h)
theorem putCut_nodup {es : List ((Int × Int) × Bool)} (h : (es.map (·.1)).Nodup) (p : Int × Int) (b : Bool) : ((putCut es p b).map (·.1)).Nodup := by
  induction es with
  | nil => simp [putCut]
  | cons e es ih =>
    simp only [List.map_cons, List.nodup_cons] at h
    unfold putCut
    split
    · rename_i he
      simp only [List.map_cons, List.nodup_cons]
      rw [← he]; exact h
    · rename_i he
      simp only [List.map_cons, List.nodup_cons]
      refine ⟨fun hm => ?_, ih h.2⟩
      obtain ⟨x, hx, hxe⟩ := List.mem_map.1 hm
      rcases putCut_keys es p b x hx with h1 | h1
      · exact he (hxe.symm.trans h1)
      · exact h.1 (List.mem_map.2 ⟨x, h1, hxe⟩)
theorem putCut_new {es : List ((Int × Int) × Bool)} {p : Int × Int} (h : ∀ e ∈ es, e.1 ≠ p) (b : Bool) : putCut es p b = es ++ [(p, b)] := by
  induction es with
  | nil => rfl
  | cons e es ih =>
    unfold putCut
    rw [if_neg (h e (List.mem_cons_self ..)), ih (fun x hx => h x (List.mem_cons_of_mem _ hx))]
    rfl
theorem putCut_at {es : List ((Int × Int) × Bool)} {p : Int × Int} (hnd : (es.map (·.1)).Nodup) {j : Nat} {x : (Int × Int) × Bool} (hj : es[j]? = some x) (hx : x.1 = p) (b : Bool) : putCut es p b = es.set j (p, b) := by
  induction es generalizing j with
  | nil => simp at hj
  | cons e es ih =>
    simp only [List.map_cons, List.nodup_cons] at hnd
    cases j with
    | zero =>
      simp at hj
      subst hj
      unfold putCut
      rw [if_pos hx]; rfl
    | succ j =>
      simp at hj
      have hm : x ∈ es := List.mem_of_getElem? hj
      unfold putCut
      rw [if_neg (fun he => hnd.1 (List.mem_map.2 ⟨x, hm, hx.trans he.symm⟩)), ih hnd.2 hj]
      rfl
theorem run_cuttingG {w : World} {mb : Nat} {es : List ((Int × Int) × Bool)} (h : IsCut w mb es) (p : Int × Int) (hp : wfK p) (b : Bool) :
    ∃ w', (Instr.mapUpdate 58 (.map (some mb)) (keyV p) (.bool b)).run Try.prog w = .ok () w' ∧ IsCut w' mb (putCut es p b) ∧ Only [mb] w w' := by
  obtain ⟨arr, c, hb, hm⟩ := h.map
  obtain ⟨kl, hkey⟩ := key_of p hp
  have ht := Try.underlying58
  have honly : ∀ o, Only [mb] w (setBlock w mb o) := fun o => ⟨rfl, rfl, rfl, by simp [setBlock], fun k _ hk => heap_setBlock_other hb _ (by simpa using hk)⟩
  have hwf : ∀ e ∈ putCut es p b, wfK e.1 := by
    intro e he
    rcases putCut_keys es p b e he with h1 | h1
    · rw [h1]; exact hp
    · exact h.wf e h1
  rcases keyed61.find w hkey arr.toList (h.keys arr c hb) with ⟨h1, h2⟩ | ⟨j, e, h1, h2, h3⟩
  · refine ⟨setBlock w mb (.map (arr.push ⟨keyV p, .bool b, c⟩) (c + 1)), by simp [Instr.mapUpdate, run_underlying ht, MapKept.run_getObj_map hb, keyed61.check w _ hkey, h1, MapKept.run_setObj_map _ hb, Result.andThen, setBlock], ⟨⟨_, _, heap_setBlock_same hb _, ?_⟩, hwf, putCut_nodup h.nodup _ _⟩, honly _⟩
    rw [putCut_new ?_]
    · simp [hm]
    · intro x hx hxp
      have : (keyV x.1, Value.bool x.2) ∈ arr.toList.map (fun e => (e.key, e.val)) := by rw [hm]; exact List.mem_map.2 ⟨x, hx, rfl⟩
      obtain ⟨e, he, hee⟩ := List.mem_map.1 this
      simp only [Prod.mk.injEq] at hee
      exact h2 e he (by rw [hee.1, hxp])
  · have hj : arr[j]? = some e := by simpa using h2
    refine ⟨setBlock w mb (.map (arr.modify j fun e' => { e' with key := keyV p, val := .bool b }) c), by simp [Instr.mapUpdate, run_underlying ht, MapKept.run_getObj_map hb, keyed61.check w _ hkey, h1, hj, h3, keyed61.stays w hkey, MapKept.run_setObj_map _ hb, Result.andThen, setBlock], ⟨⟨_, _, heap_setBlock_same hb _, ?_⟩, hwf, putCut_nodup h.nodup _ _⟩, honly _⟩
    have hj2 : (arr.toList.map (fun e => (e.key, e.val)))[j]? = some (e.key, e.val) := by rw [List.getElem?_map, h2]; rfl
    rw [hm, List.getElem?_map] at hj2
    obtain ⟨x, hx, hxe⟩ := Option.map_eq_some_iff.1 hj2
    simp only [Prod.mk.injEq] at hxe
    have hxp : x.1 = p := keyV_inj (by rw [hxe.1, h3])
    rw [putCut_at h.nodup hx hxp]
    have hl : (arr.modify j fun e' => { e' with key := keyV p, val := .bool b }).toList = arr.toList.set j { e with key := keyV p, val := .bool b } := by
      refine List.ext_getElem? fun i => ?_
      rw [Array.toList_modify, List.getElem?_modify, List.getElem?_set]
      by_cases hij : j = i
      · subst hij
        have : j < arr.toList.length := (List.getElem?_eq_some_iff.1 h2).1
        rw [h2]; simp [this]
        simpa using this
      · simp [hij]
    rw [hl, List.map_set, List.map_set, hm]
end Go.Proofs.Ytmehgkbhpfcmpaa
