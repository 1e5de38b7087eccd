/-
  SessLives returns true and leaves its arguments as they were, for every input. No condition.
-/
import Derived.Test.YtmlgggcdjknlfaaLivesW
import Derived.Test.YtmlgggcdjknlfaaFrameI
namespace Go.Proofs.Ytmlgggcdjknlfaa
open Go.ChangeShapes Go.WideShapes Go.ChangeAt Go.RowKit
set_option linter.unusedVariables false
theorem SessLives_own : ownKnob Try.prog.godebug = none := by kernel_rfl
theorem SessLives_laidOut : laidOutB Try.prog = true := by kernel_rfl
set_option maxRecDepth 100000 in
theorem sessLives_lifted (os : Os) (started : os.Started) (H : Type) (enc : TypeId × Value → H) :
    ReturnsInHanded {} Try.checked os 3 .any (Rows.sessLivesSpec.pre6 enc Try.prog Try.f3 Rows.sessLivesRow.domain false) (Rows.sessLivesSpec.post enc Try.prog Try.f3 false true false false) := by
  refine returnsInHanded_of_change_sized (C := Try.checked) SessLives_own started (by kernel_rfl) Try.func3
    (ChangeSpec.witness6 (enc := enc) (C := Try.checked) false ⟨#[], #[.int .i64 0, .slice none 0 0, .int .i64 0], []⟩ 8 (by kernel_rfl) (by kernel_rfl) (by kernel_rfl) (by kernel_rfl)) ?_
  intro W base args ds gs before hval0 hW hcnd hsz0 hholds
  have hval : ∀ (j : Nat) t v, Try.f3.params[j]? = some t → args[j]? = some v → Value.okWide Try.prog W .any base t v := hval0
  have hsz : (DataW.weightsEach Try.prog (Try.f3.params.toList ++ Rows.sessLivesSpec.plain.varTypes Try.prog) (ds ++ gs)).all (· ≤ reachBytes) = true := hsz0
  have hWhole : DataW.Whole enc Try.prog Try.f3.params.toList Rows.sessLivesSpec.vars false W args.toList ds gs before := hW
  obtain ⟨p, q, hA0, hV, rfl, hfz, hnd⟩ := hW
  have hA : DataW.TrodAll enc Try.prog W 0 (fun _ => true) true Try.f3.params.toList args.toList ds p := hA0
  obtain ⟨rfl, rfl⟩ := trodVars_none hV
  rw [Try.params3] at hA hval hsz
  clear hA0 hval0 hsz0
  obtain ⟨v0, vs0, d0, ds0, p0, q0, hargs, rfl, rfl, h0, r0⟩ := trodAll_cons hA
  obtain ⟨v1, vs1, d1, ds1, p1, q1, rfl, rfl, rfl, h1, r1⟩ := trodAll_cons r0
  obtain ⟨v2, vs2, d2, ds2, p2, q2, rfl, rfl, rfl, h2, r2⟩ := trodAll_cons r1
  obtain ⟨rfl, rfl, rfl⟩ := trodAll_nil r2
  obtain rfl : args = #[v0, v1, v2] := by cases args; simp_all
  obtain ⟨a0, rfl, hd0, hp0, wf0⟩ := open_int Try.underlying2 (hval 0 2 _ rfl rfl) h0
  obtain ⟨ao1, n1, c1, l1, rfl, b1, le1, re1, wf1⟩ := open_nums Try.underlying22 Try.underlying2 (by kernel_rfl) (by kernel_rfl) (okWide_slice Try.underlying22 (hval 1 22 _ rfl rfl)) h1 (weights_arg hsz (j := 1) rfl rfl)
  obtain ⟨a2, rfl, hd2, hp2, wf2⟩ := open_int Try.underlying2 (hval 2 2 _ rfl rfl) h2
  refine (lives_said a0 ao1 n1 c1 l1 a2 W wf0 b1 le1 re1 wf1 wf2).mono fun e W' ⟨he, hb⟩ => ?_
  subst he
  refine ⟨_, rfl, law_post SessLives_laidOut ?_ rfl Try.underlying4 rfl rfl hWhole hb⟩
  rw [Try.params3]
  intro t ht
  simp only [List.mem_cons, List.not_mem_nil, or_false] at ht
  rcases ht with rfl | rfl | rfl <;> exact ⟨by kernel_rfl, of_decide_eq_true (by kernel_rfl)⟩

/-- SessLives: whatever comes in the call returns true and every argument reads as it did -/
theorem sessLives_holds : Rows.SessLivesSaid :=
  OpenClaim.holds_of_wide 3 Try.f3 rfl rfl rfl rfl rfl rfl rfl ⟨rfl, rfl, rfl, rfl, rfl⟩ rfl rfl rfl rfl rfl (by kernel_rfl) Try.func3 (by kernel_rfl)
    (of_decide_eq_true (by kernel_rfl)) (by unfold Func.isWrapper; rw [if_neg (by decide +kernel)]; exact ⟨rfl, rfl⟩)
    (fun os started H enc _ => sessLives_lifted os started H enc)
#print axioms sessLives_holds
end Go.Proofs.Ytmlgggcdjknlfaa
