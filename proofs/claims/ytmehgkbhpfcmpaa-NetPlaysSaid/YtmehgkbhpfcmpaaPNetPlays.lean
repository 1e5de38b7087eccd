/-
  NetPlays returns true and leaves its arguments as they were, for every input. No condition.
-/
import Derived.Test.YtmehgkbhpfcmpaaRP
import Derived.Test.YtmehgkbhpfcmpaaFrameI
namespace Go.Proofs.Ytmehgkbhpfcmpaa
open Go.ChangeShapes Go.WideShapes Go.ChangeAt Go.RowKit
set_option linter.unusedVariables false
theorem NetPlays_own : ownKnob Try.prog.godebug = none := by kernel_rfl
theorem NetPlays_laidOut : laidOutB Try.prog = true := by kernel_rfl
set_option maxRecDepth 100000 in
theorem netPlays_lifted (os : Os) (started : os.Started) (H : Type) (enc : TypeId × Value → H) :
    ReturnsInHanded {} Try.checked os 5 .any (Rows.netPlaysSpec.pre6 enc Try.prog Try.f5 Rows.netPlaysRow.domain false) (Rows.netPlaysSpec.post enc Try.prog Try.f5 false true false false) := by
  refine returnsInHanded_of_change_sized (C := Try.checked) NetPlays_own started (by kernel_rfl) Try.func5
    (ChangeSpec.witness6 (enc := enc) (C := Try.checked) false ⟨#[], #[.int .i64 0, .int .i64 0, .slice none 0 0], []⟩ 8 (by kernel_rfl) (by kernel_rfl) (by kernel_rfl) (by kernel_rfl)) ?_
  intro W base args ds gs before hval0 hW hcnd hsz0 hholds
  have hval : ∀ (j : Nat) t v, Try.f5.params[j]? = some t → args[j]? = some v → Value.okWide Try.prog W .any base t v := hval0
  have hsz : (DataW.weightsEach Try.prog (Try.f5.params.toList ++ Rows.netPlaysSpec.plain.varTypes Try.prog) (ds ++ gs)).all (· ≤ reachBytes) = true := hsz0
  have hWhole : DataW.Whole enc Try.prog Try.f5.params.toList Rows.netPlaysSpec.vars false W args.toList ds gs before := hW
  obtain ⟨p, q, hA0, hV, rfl, hfz, hnd⟩ := hW
  have hA : DataW.TrodAll enc Try.prog W 0 (fun _ => true) true Try.f5.params.toList args.toList ds p := hA0
  obtain ⟨rfl, rfl⟩ := trodVars_none hV
  rw [Try.params5] at hA hval hsz
  clear hA0 hval0 hsz0
  obtain ⟨v0, vs0, d0, ds0, p0, q0, hargs, rfl, rfl, h0, r0⟩ := trodAll_cons hA
  obtain ⟨v1, vs1, d1, ds1, p1, q1, rfl, rfl, rfl, h1, r1⟩ := trodAll_cons r0
  obtain ⟨v2, vs2, d2, ds2, p2, q2, rfl, rfl, rfl, h2, r2⟩ := trodAll_cons r1
  obtain ⟨rfl, rfl, rfl⟩ := trodAll_nil r2
  obtain rfl : args = #[v0, v1, v2] := by cases args; simp_all
  obtain ⟨a0, rfl, hd0, hp0, wf0⟩ := open_int Try.underlying3 (hval 0 3 _ rfl rfl) h0
  obtain ⟨a1, rfl, hd1, hp1, wf1⟩ := open_int Try.underlying3 (hval 1 3 _ rfl rfl) h1
  obtain ⟨x2_0, x2_1, x2_2, x2_3, rfl, y2_0, y2_1⟩ := G.open_ax (hval 2 38 _ rfl rfl) h2 (weights_arg hsz (j := 2) rfl rfl)
  refine (G.plays_any a0 a1 x2_0 x2_1 x2_2 x2_3 W y2_0).mono fun e W' ⟨he, hb⟩ => ?_
  subst he
  refine ⟨_, rfl, law_post NetPlays_laidOut ?_ rfl Try.underlying4 rfl rfl hWhole hb⟩
  rw [Try.params5]
  intro t ht
  simp only [List.mem_cons, List.not_mem_nil, or_false] at ht
  rcases ht with rfl | rfl | rfl <;> exact ⟨by kernel_rfl, of_decide_eq_true (by kernel_rfl)⟩

/-- NetPlays: whatever comes in the call returns true and every argument reads as it did -/
theorem netPlays_holds : Rows.NetPlaysSaid :=
  OpenClaim.holds_of_wide 5 Try.f5 rfl rfl rfl rfl rfl rfl rfl ⟨rfl, rfl, rfl, rfl, rfl⟩ rfl rfl rfl rfl rfl (by kernel_rfl) Try.func5 (by kernel_rfl)
    (of_decide_eq_true (by kernel_rfl)) (by unfold Func.isWrapper; rw [if_neg (by decide +kernel)]; exact ⟨rfl, rfl⟩)
    (fun os started H enc _ => netPlays_lifted os started H enc)
#print axioms netPlays_holds
end Go.Proofs.Ytmehgkbhpfcmpaa
