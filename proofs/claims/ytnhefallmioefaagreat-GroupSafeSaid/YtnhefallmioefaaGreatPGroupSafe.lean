/-
  GroupSafe returns true and leaves its arguments as they were, for every input. No condition.
-/
import Derived.Test.YtnhefallmioefaaGreatV0
import Derived.Test.YtnhefallmioefaaGreatV42
import Derived.Test.YtnhefallmioefaaGreatV1
import Derived.Test.YtnhefallmioefaaGreatV4
set_option linter.unusedVariables false
set_option linter.unusedSimpArgs false
namespace Go.Proofs.YtnhefallmioefaaGreat
open Go.ChangeShapes Go.WideShapes Go.ChangeAt Go.RowKit
theorem oI:ownKnob Tryz.prog.godebug=none:=by kernel_rfl
theorem lp:laidOutB Tryz.prog=true:=by kernel_rfl
set_option maxRecDepth 100000 in
theorem lS (os:Os) (started:os.Started) (H:Type) (enc:TypeId×Value->H) :
  ReturnsInHanded {} Tryz.checked os 3 .any (Rows.groupSafeSpec.pre6 enc Tryz.prog Tryz.f3 Rows.groupSafeRow.domain false) (Rows.groupSafeSpec.post enc Tryz.prog Tryz.f3 false true false false):=by
 refine returnsInHanded_of_change_sized (C:=Tryz.checked) oI started (by kernel_rfl) Tryz.func3
  (ChangeSpec.witness6 (enc:=enc) (C:=Tryz.checked) false ⟨#[],#[.int .i64 0,.slice none 0 0],[]⟩ 8 (by kernel_rfl) (by kernel_rfl) (by kernel_rfl) (by kernel_rfl)) ?_
 intro W base args ds gs before hval0 hW hcnd hsz0 hholds;have hval:∀(j:Nat) t v,Tryz.f3.params[j]? = some t->args[j]? = some v->Value.okWide Tryz.prog W .any base t v:=hval0;have hsz:(DataW.weightsEach Tryz.prog (Tryz.f3.params.toList++Rows.groupSafeSpec.plain.varTypes Tryz.prog) (ds++gs)).all (· <= reachBytes)=true:=hsz0;have hWhole:DataW.Whole enc Tryz.prog Tryz.f3.params.toList Rows.groupSafeSpec.vars false W args.toList ds gs before:=hW;obtain ⟨p,q,hA0,hV,rfl,hfz,hnd⟩:=hW;have hA:DataW.TrodAll enc Tryz.prog W 0 (λ_=>true) true Tryz.f3.params.toList args.toList ds p:=hA0;obtain ⟨rfl,rfl⟩:=trodVars_none hV;rw [Tryz.params3] at hA hval hsz;clear hA0 hval0 hsz0;obtain ⟨v0,vs0,d0,ds0,p0,q0,hargs,rfl,rfl,h0,r0⟩:=trodAll_cons hA;obtain ⟨v1,vs1,d1,ds1,p1,q1,rfl,rfl,rfl,h1,r1⟩:=trodAll_cons r0;obtain ⟨rfl,rfl,rfl⟩:=trodAll_nil r1;obtain rfl:args=#[v0,v1]:=by cases args;simp_all
 obtain ⟨a0,rfl,hd0,hp0,wf0⟩:=open_int Tryz.underlying3 (hval 0 3 _ rfl rfl) h0;obtain ⟨x1_0,x1_1,x1_2,x1_3,rfl,y1_0,y1_1,y1_2⟩:=AY (hval 1 22 _ rfl rfl) h1 (jm hsz (j:=1) rfl rfl);refine (vC a0 x1_0 x1_1 x1_2 x1_3 W y1_0 y1_1 y1_2).mono λe W' ⟨he,hb⟩=>?_;subst he;refine ⟨_,rfl,rK lp ?_ rfl Tryz.underlying4 rfl rfl hWhole hb⟩;rw [Tryz.params3];intro t ht;simp only [bg,gp,or_false] at ht;rcases ht with rfl | rfl<;>exact ⟨by kernel_rfl,d8 (by kernel_rfl)⟩
theorem groupSafe_holds:Rows.GroupSafeSaid :=
 OpenClaim.holds_of_wide 3 Tryz.f3 rfl rfl rfl rfl rfl rfl rfl ⟨rfl,rfl,rfl,rfl,rfl⟩ rfl rfl rfl rfl rfl (by kernel_rfl) Tryz.func3 (by kernel_rfl)
  (d8 (by kernel_rfl)) (by unfold Func.isWrapper;rw [aw (by decide +kernel)];exact ⟨rfl,rfl⟩)
  (λos started H enc _=>lS os started H enc)
#print axioms groupSafe_holds
end Go.Proofs.YtnhefallmioefaaGreat
