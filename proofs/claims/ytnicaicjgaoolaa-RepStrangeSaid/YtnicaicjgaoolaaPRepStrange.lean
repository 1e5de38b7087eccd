/-
  RepStrange returns true and leaves its arguments as they were, for every input. No condition.
-/
import Derived.Test.YtnicaicjgaoolaaPRepStrangeL2
import Derived.Test.YtnicaicjgaoolaaS1
set_option linter.unusedVariables false
set_option linter.unusedSimpArgs false
namespace Go.Proofs.Ytnicaicjgaoolaa
open Go.ChangeShapes Go.WideShapes Go.ChangeAt Go.RowKit
set_option linter.unusedVariables false
theorem RepStrange_own : ownKnob Try.prog.godebug = none := by kernel_rfl
theorem RepStrange_laidOut : laidOutB Try.prog = true := by kernel_rfl
set_option maxRecDepth 100000 in
theorem repStrange_lifted (os : Os) (started : os.Started) (H : Type) (enc : TypeId × Value → H) :
  ReturnsInHanded {} Try.checked os 6 .any (Rows.repStrangeSpec.pre6 enc Try.prog Try.f6 Rows.repStrangeRow.domain false) (Rows.repStrangeSpec.post enc Try.prog Try.f6 false true false false) := by
 refine returnsInHanded_of_change_sized (C := Try.checked) RepStrange_own started (by kernel_rfl) Try.func6
  (ChangeSpec.witness6 (enc := enc) (C := Try.checked) false ⟨#[], #[.agg #[.int .i64 0, .int .i64 0, .int .i64 0, .slice none 0 0, .slice none 0 0], .slice none 0 0], []⟩ 8 (by kernel_rfl) (by kernel_rfl) (by kernel_rfl) (by kernel_rfl)) ?_
 intro W base args ds gs before hval0 hW hcnd hsz0 hholds
 have hval : ∀ (j : Nat) t v, Try.f6.params[j]? = some t → args[j]? = some v → Value.okWide Try.prog W .any base t v := hval0
 have hsz : (DataW.weightsEach Try.prog (Try.f6.params.toList ++ Rows.repStrangeSpec.plain.varTypes Try.prog) (ds ++ gs)).all (· ≤ reachBytes) = true := hsz0
 have hWhole : DataW.Whole enc Try.prog Try.f6.params.toList Rows.repStrangeSpec.vars false W args.toList ds gs before := hW
 obtain ⟨p, q, hA0, hV, rfl, hfz, hnd⟩ := hW
 have hA : DataW.TrodAll enc Try.prog W 0 (fun _ => true) true Try.f6.params.toList args.toList ds p := hA0
 obtain ⟨rfl, rfl⟩ := trodVars_none hV
 rw [Try.params6] at hA hval hsz
 clear hA0 hval0 hsz0
 obtain ⟨v0, vs0, d0, ds0, p0, q0, hargs, rfl, rfl, h0, r0⟩ := trodAll_cons hA
 obtain ⟨v1, vs1, d1, ds1, p1, q1, rfl, rfl, rfl, h1, r1⟩ := trodAll_cons r0
 obtain ⟨rfl, rfl, rfl⟩ := trodAll_nil r1
 obtain rfl : args = #[v0, v1] := by cases args; simp_all
 obtain ⟨x0_0, x0_1, x0_2, x0_3, x0_4, rfl, y0_0, y0_1, y0_2⟩ := open_mg (hval 0 51 _ rfl rfl) h0 (weights_arg hsz (j := 0) rfl rfl)
 obtain ⟨x1_0, x1_1, x1_2, x1_3, rfl, y1_0, y1_1, y1_2⟩ := open_ax (hval 1 22 _ rfl rfl) h1 (weights_arg hsz (j := 1) rfl rfl)
 refine (strange_said x0_0 x0_1 x0_2 x0_3 x0_4 x1_0 x1_1 x1_2 x1_3 W y0_0 y0_1 y0_2 y1_0 y1_1 y1_2).mono fun e W' ⟨he, hb⟩ => ?_
 subst he
 refine ⟨_, rfl, law_post RepStrange_laidOut ?_ rfl Try.underlying4 rfl rfl hWhole hb⟩
 rw [Try.params6]
 intro t ht
 simp only [List.mem_cons, List.not_mem_nil, or_false] at ht
 rcases ht with rfl | rfl <;> exact ⟨by kernel_rfl, of_decide_eq_true (by kernel_rfl)⟩

/-- RepStrange: whatever comes in the call returns true and every argument reads as it did -/
theorem repStrange_holds : Rows.RepStrangeSaid :=
 OpenClaim.holds_of_wide 6 Try.f6 rfl rfl rfl rfl rfl rfl rfl ⟨rfl, rfl, rfl, rfl, rfl⟩ rfl rfl rfl rfl rfl (by kernel_rfl) Try.func6 (by kernel_rfl)
  (of_decide_eq_true (by kernel_rfl)) (by unfold Func.isWrapper; rw [if_neg (by decide +kernel)]; exact ⟨rfl, rfl⟩)
  (fun os started H enc _ => repStrange_lifted os started H enc)
#print axioms repStrange_holds
end Go.Proofs.Ytnicaicjgaoolaa
