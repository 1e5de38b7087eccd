/-
  GroupChange returns true and leaves its arguments as they were, for every input. No condition.
-/
import Derived.Test.YtnhefallmioefaaGreatV0
import Derived.Test.YtnhefallmioefaaGreatV43
import Derived.Test.YtnhefallmioefaaGreatV1
import Derived.Test.YtnhefallmioefaaGreatV4
set_option linter.unusedVariables false
set_option linter.unusedSimpArgs false
namespace Go.Proofs.YtnhefallmioefaaGreat
open Go.ChangeShapes Go.WideShapes Go.ChangeAt Go.RowKit
theorem mB:ownKnob Tryz.prog.godebug=none:=by kernel_rfl
theorem jW:laidOutB Tryz.prog=true:=by kernel_rfl
set_option maxRecDepth 100000 in
theorem kA (os:Os) (started:os.Started) (H:Type) (enc:TypeId×Value->H) :
  ReturnsInHanded {} Tryz.checked os 5 .any (Rows.groupChangeSpec.pre6 enc Tryz.prog Tryz.f5 Rows.groupChangeRow.domain false) (Rows.groupChangeSpec.post enc Tryz.prog Tryz.f5 false true false false):=by
 refine returnsInHanded_of_change_sized (C:=Tryz.checked) mB started (by kernel_rfl) Tryz.func5
  (ChangeSpec.witness6 (enc:=enc) (C:=Tryz.checked) false ⟨#[],#[.int .i64 0,.slice none 0 0,.int .i64 0],[]⟩ 8 (by kernel_rfl) (by kernel_rfl) (by kernel_rfl) (by kernel_rfl)) ?_
 intro W base args ds gs before hval0 hW hcnd hsz0 hholds;have hval:∀(j:Nat) t v,Tryz.f5.params[j]? = some t->args[j]? = some v->Value.okWide Tryz.prog W .any base t v:=hval0;have hsz:(DataW.weightsEach Tryz.prog (Tryz.f5.params.toList++Rows.groupChangeSpec.plain.varTypes Tryz.prog) (ds++gs)).all (· <= reachBytes)=true:=hsz0;have hWhole:DataW.Whole enc Tryz.prog Tryz.f5.params.toList Rows.groupChangeSpec.vars false W args.toList ds gs before:=hW;obtain ⟨p,q,hA0,hV,rfl,hfz,hnd⟩:=hW;have hA:DataW.TrodAll enc Tryz.prog W 0 (λ_=>true) true Tryz.f5.params.toList args.toList ds p:=hA0;obtain ⟨rfl,rfl⟩:=trodVars_none hV;rw [Tryz.params5] at hA hval hsz;clear hA0 hval0 hsz0;obtain ⟨v0,vs0,d0,ds0,p0,q0,hargs,rfl,rfl,h0,r0⟩:=trodAll_cons hA;obtain ⟨v1,vs1,d1,ds1,p1,q1,rfl,rfl,rfl,h1,r1⟩:=trodAll_cons r0;obtain ⟨v2,vs2,d2,ds2,p2,q2,rfl,rfl,rfl,h2,r2⟩:=trodAll_cons r1;obtain ⟨rfl,rfl,rfl⟩:=trodAll_nil r2;obtain rfl:args=#[v0,v1,v2]:=by cases args;simp_all
 obtain ⟨a0,rfl,hd0,hp0,wf0⟩:=open_int Tryz.underlying3 (hval 0 3 _ rfl rfl) h0;obtain ⟨ao1,n1,c1,l1,rfl,b1,le1,re1⟩:=AX Tryz.underlying29 Tryz.underlying31 Tryz.underlying5 (by kernel_rfl) (by kernel_rfl) (by kernel_rfl) (by kernel_rfl) (okWide_slice Tryz.underlying29 (hval 1 29 _ rfl rfl)) h1 (jm hsz (j:=1) rfl rfl);obtain ⟨a2,rfl,hd2,hp2,wf2⟩:=open_int Tryz.underlying3 (hval 2 3 _ rfl rfl) h2;refine (su a0 ao1 n1 c1 l1 a2 W b1 le1 wf2).mono λe W' ⟨he,hb⟩=>?_;subst he;refine ⟨_,rfl,rK jW ?_ rfl Tryz.underlying4 rfl rfl hWhole hb⟩;rw [Tryz.params5];intro t ht;simp only [bg,gp,or_false] at ht;rcases ht with rfl | rfl | rfl<;>exact ⟨by kernel_rfl,d8 (by kernel_rfl)⟩
theorem groupChange_holds:Rows.GroupChangeSaid :=
 OpenClaim.holds_of_wide 5 Tryz.f5 rfl rfl rfl rfl rfl rfl rfl ⟨rfl,rfl,rfl,rfl,rfl⟩ rfl rfl rfl rfl rfl (by kernel_rfl) Tryz.func5 (by kernel_rfl)
  (d8 (by kernel_rfl)) (by unfold Func.isWrapper;rw [aw (by decide +kernel)];exact ⟨rfl,rfl⟩)
  (λos started H enc _=>kA os started H enc)
#print axioms groupChange_holds
end Go.Proofs.YtnhefallmioefaaGreat
