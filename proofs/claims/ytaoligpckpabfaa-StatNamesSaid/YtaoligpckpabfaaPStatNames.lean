/-
  StatNames returns true and leaves its arguments as they were, for every input. No condition.
-/
import Derived.Test.YtaoligpckpabfaaNames
import Derived.Test.YtaoligpckpabfaaFrameG
import Derived.Test.YtaoligpckpabfaaFrameS
namespace Go.Proofs.Ytaoligpckpabfaa
open Go.ChangeShapes Go.WideShapes Go.ChangeAt Go.RowKit
set_option linter.unusedVariables false
theorem StatNames_own : ownKnob Try.prog.godebug = none := by kernel_rfl
theorem StatNames_laidOut : laidOutB Try.prog = true := by kernel_rfl
set_option maxRecDepth 100000 in
theorem statNames_lifted (os : Os) (started : os.Started) (H : Type) (enc : TypeId × Value → H) :
    ReturnsInHanded {} Try.checked os 4 .any (Rows.statNamesSpec.pre6 enc Try.prog Try.f4 Rows.statNamesRow.domain false) (Rows.statNamesSpec.post enc Try.prog Try.f4 false true false false) := by
  refine returnsInHanded_of_change_sized (C := Try.checked) StatNames_own started (by kernel_rfl) Try.func4
    (ChangeSpec.witness6 (enc := enc) (C := Try.checked) false ⟨#[], #[.slice none 0 0], []⟩ 8 (by kernel_rfl) (by kernel_rfl) (by kernel_rfl) (by kernel_rfl)) ?_
  intro W base args ds gs before hval0 hW hcnd hsz0 hholds
  have hval : ∀ (j : Nat) t v, Try.f4.params[j]? = some t → args[j]? = some v → Value.okWide Try.prog W .any base t v := hval0
  have hsz : (DataW.weightsEach Try.prog (Try.f4.params.toList ++ Rows.statNamesSpec.plain.varTypes Try.prog) (ds ++ gs)).all (· ≤ reachBytes) = true := hsz0
  have hWhole : DataW.Whole enc Try.prog Try.f4.params.toList Rows.statNamesSpec.vars false W args.toList ds gs before := hW
  obtain ⟨p, q, hA0, hV, rfl, hfz, hnd⟩ := hW
  have hA : DataW.TrodAll enc Try.prog W 0 (fun _ => true) true Try.f4.params.toList args.toList ds p := hA0
  obtain ⟨rfl, rfl⟩ := trodVars_none hV
  rw [Try.params4] at hA hval hsz
  clear hA0 hval0 hsz0
  obtain ⟨v0, vs0, d0, ds0, p0, q0, hargs, rfl, rfl, h0, r0⟩ := trodAll_cons hA
  obtain ⟨rfl, rfl, rfl⟩ := trodAll_nil r0
  obtain rfl : args = #[v0] := by cases args; simp_all
  obtain ⟨ao0, n0, c0, l0, rfl, b0, le0, re0, wf0⟩ := open_texts Try.underlying22 Try.underlying9 (by kernel_rfl) (by kernel_rfl) (okWide_slice Try.underlying22 (hval 0 22 _ rfl rfl)) h0 (weights_arg hsz (j := 0) rfl rfl)
  refine (names_said ao0 n0 c0 l0 W b0 le0 re0 wf0).mono fun e W' ⟨he, hb⟩ => ?_
  subst he
  refine ⟨_, rfl, law_post StatNames_laidOut ?_ rfl Try.underlying4 rfl rfl hWhole hb⟩
  rw [Try.params4]
  intro t ht
  simp only [List.mem_cons, List.not_mem_nil, or_false] at ht
  subst ht; exact ⟨by kernel_rfl, of_decide_eq_true (by kernel_rfl)⟩

/-- StatNames: whatever comes in the call returns true and every argument reads as it did -/
theorem statNames_holds : Rows.StatNamesSaid :=
  OpenClaim.holds_of_wide 4 Try.f4 rfl rfl rfl rfl rfl rfl rfl ⟨rfl, rfl, rfl, rfl, rfl⟩ rfl rfl rfl rfl rfl (by kernel_rfl) Try.func4 (by kernel_rfl)
    (of_decide_eq_true (by kernel_rfl)) (by unfold Func.isWrapper; rw [if_neg (by decide +kernel)]; exact ⟨rfl, rfl⟩)
    (fun os started H enc _ => statNames_lifted os started H enc)
#print axioms statNames_holds
end Go.Proofs.Ytaoligpckpabfaa
