/-
  StatBack returns true and leaves its arguments as they were, for every input. No condition.
-/
import Derived.Test.YtaoligpckpabfaaBackW
import Derived.Test.YtaoligpckpabfaaFrameG
import Derived.Test.YtaoligpckpabfaaFrameI
namespace Go.Proofs.Ytaoligpckpabfaa
open Go.ChangeShapes Go.WideShapes Go.ChangeAt Go.RowKit
set_option linter.unusedVariables false
theorem StatBack_own : ownKnob Try.prog.godebug = none := by kernel_rfl
theorem StatBack_laidOut : laidOutB Try.prog = true := by kernel_rfl
set_option maxRecDepth 100000 in
theorem statBack_lifted (os : Os) (started : os.Started) (H : Type) (enc : TypeId × Value → H) :
    ReturnsInHanded {} Try.checked os 8 .any (Rows.statBackSpec.pre6 enc Try.prog Try.f8 Rows.statBackRow.domain false) (Rows.statBackSpec.post enc Try.prog Try.f8 false true false false) := by
  refine returnsInHanded_of_change_sized (C := Try.checked) StatBack_own started (by kernel_rfl) Try.func8
    (ChangeSpec.witness6 (enc := enc) (C := Try.checked) false ⟨#[], #[.int .i64 0, .int .i64 0, .string ByteArray.empty, .slice none 0 0], []⟩ 8 (by kernel_rfl) (by kernel_rfl) (by kernel_rfl) (by kernel_rfl)) ?_
  intro W base args ds gs before hval0 hW hcnd hsz0 hholds
  have hval : ∀ (j : Nat) t v, Try.f8.params[j]? = some t → args[j]? = some v → Value.okWide Try.prog W .any base t v := hval0
  have hsz : (DataW.weightsEach Try.prog (Try.f8.params.toList ++ Rows.statBackSpec.plain.varTypes Try.prog) (ds ++ gs)).all (· ≤ reachBytes) = true := hsz0
  have hWhole : DataW.Whole enc Try.prog Try.f8.params.toList Rows.statBackSpec.vars false W args.toList ds gs before := hW
  obtain ⟨p, q, hA0, hV, rfl, hfz, hnd⟩ := hW
  have hA : DataW.TrodAll enc Try.prog W 0 (fun _ => true) true Try.f8.params.toList args.toList ds p := hA0
  obtain ⟨rfl, rfl⟩ := trodVars_none hV
  rw [Try.params8] at hA hval hsz
  clear hA0 hval0 hsz0
  obtain ⟨v0, vs0, d0, ds0, p0, q0, hargs, rfl, rfl, h0, r0⟩ := trodAll_cons hA
  obtain ⟨v1, vs1, d1, ds1, p1, q1, rfl, rfl, rfl, h1, r1⟩ := trodAll_cons r0
  obtain ⟨v2, vs2, d2, ds2, p2, q2, rfl, rfl, rfl, h2, r2⟩ := trodAll_cons r1
  obtain ⟨v3, vs3, d3, ds3, p3, q3, rfl, rfl, rfl, h3, r3⟩ := trodAll_cons r2
  obtain ⟨rfl, rfl, rfl⟩ := trodAll_nil r3
  obtain rfl : args = #[v0, v1, v2, v3] := by cases args; simp_all
  obtain ⟨a0, rfl, hd0, hp0, wf0⟩ := open_int Try.underlying2 (hval 0 2 _ rfl rfl) h0
  obtain ⟨a1, rfl, hd1, hp1, wf1⟩ := open_int Try.underlying2 (hval 1 2 _ rfl rfl) h1
  obtain ⟨s2, rfl, hd2, hp2, le2⟩ := Go.ChangeMaps.open_string Try.underlying9 (hval 2 9 _ rfl rfl) h2
  have re2 := sized_string hsz (j := 2) rfl (by rw [hd2]; rfl)
  obtain ⟨x3_0, x3_1, x3_2, x3_3, rfl, y3_0, y3_1⟩ := open_acts (hval 3 33 _ rfl rfl) h3 (weights_arg hsz (j := 3) rfl rfl)
  refine (back_said a0 a1 s2 x3_0 x3_1 x3_2 x3_3 W wf0 wf1 re2 y3_0 y3_1).mono fun e W' ⟨he, hb⟩ => ?_
  subst he
  refine ⟨_, rfl, law_post StatBack_laidOut ?_ rfl Try.underlying4 rfl rfl hWhole hb⟩
  rw [Try.params8]
  intro t ht
  simp only [List.mem_cons, List.not_mem_nil, or_false] at ht
  rcases ht with rfl | rfl | rfl | rfl <;> exact ⟨by kernel_rfl, of_decide_eq_true (by kernel_rfl)⟩

/-- StatBack: whatever comes in the call returns true and every argument reads as it did -/
theorem statBack_holds : Rows.StatBackSaid :=
  OpenClaim.holds_of_wide 8 Try.f8 rfl rfl rfl rfl rfl rfl rfl ⟨rfl, rfl, rfl, rfl, rfl⟩ rfl rfl rfl rfl rfl (by kernel_rfl) Try.func8 (by kernel_rfl)
    (of_decide_eq_true (by kernel_rfl)) (by unfold Func.isWrapper; rw [if_neg (by decide +kernel)]; exact ⟨rfl, rfl⟩)
    (fun os started H enc _ => statBack_lifted os started H enc)
#print axioms statBack_holds
end Go.Proofs.Ytaoligpckpabfaa
