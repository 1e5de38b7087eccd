/-
  ReplyAlike returns true and leaves its arguments as they were, for every input. No condition.
-/
import Derived.Test.YtpikdeikcmdcmaaAlikeW
import Derived.Test.YtpikdeikcmdcmaaFrameG
namespace Go.Proofs.Ytpikdeikcmdcmaa
open Go.ChangeShapes Go.WideShapes Go.ChangeAt Go.RowKit
set_option linter.unusedVariables false
theorem ReplyAlike_own : ownKnob Try.prog.godebug = none := by kernel_rfl
theorem ReplyAlike_laidOut : laidOutB Try.prog = true := by kernel_rfl
set_option maxRecDepth 100000 in
theorem replyAlike_lifted (os : Os) (started : os.Started) (H : Type) (enc : TypeId × Value → H) :
    ReturnsInHanded {} Try.checked os 9 .any (Rows.replyAlikeSpec.pre6 enc Try.prog Try.f9 Rows.replyAlikeRow.domain false) (Rows.replyAlikeSpec.post enc Try.prog Try.f9 false true false false) := by
  refine returnsInHanded_of_change_sized (C := Try.checked) ReplyAlike_own started (by kernel_rfl) Try.func9
    (ChangeSpec.witness6 (enc := enc) (C := Try.checked) false ⟨#[], #[.slice none 0 0, .int .i64 0, .agg #[.int .i64 0, .string ByteArray.empty, .string ByteArray.empty, .slice none 0 0, .int .i64 0, .int .i64 0, .int .i64 0, .int .i64 0, .int .i64 0, .int .i64 0, .int .i64 0]], []⟩ 8 (by kernel_rfl) (by kernel_rfl) (by kernel_rfl) (by kernel_rfl)) ?_
  intro W base args ds gs before hval0 hW hcnd hsz0 hholds
  have hval : ∀ (j : Nat) t v, Try.f9.params[j]? = some t → args[j]? = some v → Value.okWide Try.prog W .any base t v := hval0
  have hsz : (DataW.weightsEach Try.prog (Try.f9.params.toList ++ Rows.replyAlikeSpec.plain.varTypes Try.prog) (ds ++ gs)).all (· ≤ reachBytes) = true := hsz0
  have hWhole : DataW.Whole enc Try.prog Try.f9.params.toList Rows.replyAlikeSpec.vars false W args.toList ds gs before := hW
  obtain ⟨p, q, hA0, hV, rfl, hfz, hnd⟩ := hW
  have hA : DataW.TrodAll enc Try.prog W 0 (fun _ => true) true Try.f9.params.toList args.toList ds p := hA0
  obtain ⟨rfl, rfl⟩ := trodVars_none hV
  rw [Try.params9] at hA hval hsz
  clear hA0 hval0 hsz0
  obtain ⟨v0, vs0, d0, ds0, p0, q0, hargs, rfl, rfl, h0, r0⟩ := trodAll_cons hA
  obtain ⟨v1, vs1, d1, ds1, p1, q1, rfl, rfl, rfl, h1, r1⟩ := trodAll_cons r0
  obtain ⟨v2, vs2, d2, ds2, p2, q2, rfl, rfl, rfl, h2, r2⟩ := trodAll_cons r1
  obtain ⟨rfl, rfl, rfl⟩ := trodAll_nil r2
  obtain rfl : args = #[v0, v1, v2] := by cases args; simp_all
  obtain ⟨x0_0, x0_1, x0_2, x0_3, rfl, y0_0, y0_1, y0_2, y0_3, y0_4⟩ := open_results (hval 0 24 _ rfl rfl) h0 (weights_arg hsz (j := 0) rfl rfl)
  obtain ⟨a1, rfl, hd1, hp1, wf1⟩ := open_int Try.underlying3 (hval 1 3 _ rfl rfl) h1
  obtain ⟨x2_0, x2_1, rfl, y2_0, y2_1⟩ := open_result (hval 2 35 _ rfl rfl) h2 (weights_arg hsz (j := 2) rfl rfl)
  refine (alikew_said x0_0 x0_1 x0_2 x0_3 a1 x2_0 x2_1 W y0_0 y0_1 y0_2 y0_3 y0_4 wf1 y2_0 y2_1).mono fun e W' ⟨he, hb⟩ => ?_
  subst he
  refine ⟨_, rfl, law_post ReplyAlike_laidOut ?_ rfl Try.underlying4 rfl rfl hWhole hb⟩
  rw [Try.params9]
  intro t ht
  simp only [List.mem_cons, List.not_mem_nil, or_false] at ht
  rcases ht with rfl | rfl | rfl <;> exact ⟨by kernel_rfl, of_decide_eq_true (by kernel_rfl)⟩

/-- ReplyAlike: whatever comes in the call returns true and every argument reads as it did -/
theorem replyAlike_holds : Rows.ReplyAlikeSaid :=
  OpenClaim.holds_of_wide 9 Try.f9 rfl rfl rfl rfl rfl rfl rfl ⟨rfl, rfl, rfl, rfl, rfl⟩ rfl rfl rfl rfl rfl (by kernel_rfl) Try.func9 (by kernel_rfl)
    (of_decide_eq_true (by kernel_rfl)) (by unfold Func.isWrapper; rw [if_neg (by decide +kernel)]; exact ⟨rfl, rfl⟩)
    (fun os started H enc _ => replyAlike_lifted os started H enc)
#print axioms replyAlike_holds
end Go.Proofs.Ytpikdeikcmdcmaa
