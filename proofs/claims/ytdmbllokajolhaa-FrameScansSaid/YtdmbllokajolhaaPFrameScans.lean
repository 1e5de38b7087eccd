/-
  FrameScans returns true and leaves its arguments as they were, for every input. No condition.
-/
import Derived.Test.YtdmbllokajolhaaScans
import Derived.Test.YtdmbllokajolhaaFrameB
namespace Go.Proofs.Ytdmbllokajolhaa
open Go.ChangeShapes Go.WideShapes Go.ChangeAt Go.RowKit
set_option linter.unusedVariables false
theorem FrameScans_own : ownKnob Try.prog.godebug = none := by kernel_rfl
theorem FrameScans_laidOut : laidOutB Try.prog = true := by kernel_rfl
set_option maxRecDepth 100000 in
theorem frameScans_lifted (os : Os) (started : os.Started) (H : Type) (enc : TypeId × Value → H) :
    ReturnsInHanded {} Try.checked os 4 .any (Rows.frameScansSpec.pre6 enc Try.prog Try.f4 Rows.frameScansRow.domain false) (Rows.frameScansSpec.post enc Try.prog Try.f4 false true false false) := by
  refine returnsInHanded_of_change_sized (C := Try.checked) FrameScans_own started (by kernel_rfl) Try.func4
    (ChangeSpec.witness6 (enc := enc) (C := Try.checked) false ⟨#[], #[.slice none 0 0, .slice none 0 0, .int .i64 0, .int .u8 0, .int .i64 0], []⟩ 8 (by kernel_rfl) (by kernel_rfl) (by kernel_rfl) (by kernel_rfl)) ?_
  intro W base args ds gs before hval0 hW hcnd hsz0 hholds
  have hval : ∀ (j : Nat) t v, Try.f4.params[j]? = some t → args[j]? = some v → Value.okWide Try.prog W .any base t v := hval0
  have hsz : (DataW.weightsEach Try.prog (Try.f4.params.toList ++ Rows.frameScansSpec.plain.varTypes Try.prog) (ds ++ gs)).all (· ≤ reachBytes) = true := hsz0
  have hWhole : DataW.Whole enc Try.prog Try.f4.params.toList Rows.frameScansSpec.vars false W args.toList ds gs before := hW
  obtain ⟨p, q, hA0, hV, rfl, hfz, hnd⟩ := hW
  have hA : DataW.TrodAll enc Try.prog W 0 (fun _ => true) true Try.f4.params.toList args.toList ds p := hA0
  obtain ⟨rfl, rfl⟩ := trodVars_none hV
  rw [Try.params4] at hA hval hsz
  clear hA0 hval0 hsz0
  obtain ⟨v0, vs0, d0, ds0, p0, q0, hargs, rfl, rfl, h0, r0⟩ := trodAll_cons hA
  obtain ⟨v1, vs1, d1, ds1, p1, q1, rfl, rfl, rfl, h1, r1⟩ := trodAll_cons r0
  obtain ⟨v2, vs2, d2, ds2, p2, q2, rfl, rfl, rfl, h2, r2⟩ := trodAll_cons r1
  obtain ⟨v3, vs3, d3, ds3, p3, q3, rfl, rfl, rfl, h3, r3⟩ := trodAll_cons r2
  obtain ⟨v4, vs4, d4, ds4, p4, q4, rfl, rfl, rfl, h4, r4⟩ := trodAll_cons r3
  obtain ⟨rfl, rfl, rfl⟩ := trodAll_nil r4
  obtain rfl : args = #[v0, v1, v2, v3, v4] := by cases args; simp_all
  obtain ⟨ao0, n0, c0, l0, rfl, b0, le0, re0⟩ := open_bytes Try.underlying23 Try.underlying5 (by kernel_rfl) (by kernel_rfl) (okWide_slice Try.underlying23 (hval 0 23 _ rfl rfl)) h0 (weights_arg hsz (j := 0) rfl rfl)
  obtain ⟨ao1, n1, c1, l1, rfl, b1, le1, re1⟩ := open_bytess Try.underlying27 Try.underlying23 Try.underlying5 (by kernel_rfl) (by kernel_rfl) (by kernel_rfl) (by kernel_rfl) (okWide_slice Try.underlying27 (hval 1 27 _ rfl rfl)) h1 (weights_arg hsz (j := 1) rfl rfl)
  obtain ⟨a2, rfl, hd2, hp2, wf2⟩ := open_int Try.underlying3 (hval 2 3 _ rfl rfl) h2
  obtain ⟨a3, rfl, hd3, hp3, wf3⟩ := open_int Try.underlying5 (hval 3 5 _ rfl rfl) h3
  obtain ⟨a4, rfl, hd4, hp4, wf4⟩ := open_int Try.underlying3 (hval 4 3 _ rfl rfl) h4
  refine (scans_said ao0 n0 c0 l0 ao1 n1 c1 l1 a2 a3 a4 W b0 le0 re0 b1 le1 re1 wf2 wf3 wf4).mono fun e W' ⟨he, hb⟩ => ?_
  subst he
  refine ⟨_, rfl, law_post FrameScans_laidOut ?_ rfl Try.underlying4 rfl rfl hWhole hb⟩
  rw [Try.params4]
  intro t ht
  simp only [List.mem_cons, List.not_mem_nil, or_false] at ht
  rcases ht with rfl | rfl | rfl | rfl | rfl <;> exact ⟨by kernel_rfl, of_decide_eq_true (by kernel_rfl)⟩

/-- FrameScans: whatever comes in the call returns true and every argument reads as it did -/
theorem frameScans_holds : Rows.FrameScansSaid :=
  OpenClaim.holds_of_wide 4 Try.f4 rfl rfl rfl rfl rfl rfl rfl ⟨rfl, rfl, rfl, rfl, rfl⟩ rfl rfl rfl rfl rfl (by kernel_rfl) Try.func4 (by kernel_rfl)
    (of_decide_eq_true (by kernel_rfl)) (by unfold Func.isWrapper; rw [if_neg (by decide +kernel)]; exact ⟨rfl, rfl⟩)
    (fun os started H enc _ => frameScans_lifted os started H enc)
#print axioms frameScans_holds
end Go.Proofs.Ytdmbllokajolhaa
