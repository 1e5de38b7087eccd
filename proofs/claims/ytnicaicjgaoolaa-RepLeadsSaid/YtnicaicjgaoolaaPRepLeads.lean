/-
  RepLeads returns true and leaves its arguments as they were, for every input. No condition.
-/
import Derived.Test.YtnicaicjgaoolaaU0
import Derived.Test.YtnicaicjgaoolaaPRepLeadsL13
import Derived.Test.YtnicaicjgaoolaaU1
set_option linter.unusedVariables false
set_option linter.unusedSimpArgs false
namespace Go.Proofs.Ytnicaicjgaoolaa
open Go.ChangeShapes Go.WideShapes Go.ChangeAt Go.RowKit
theorem qo:ownKnob Try.prog.godebug=none:=by kernel_rfl
theorem mm:laidOutB Try.prog=true:=by kernel_rfl
set_option maxRecDepth 100000 in
theorem mG (os:Os) (started:os.Started) (H:Type) (enc:TypeId×Value->H) :
  ReturnsInHanded {} Try.checked os 4 .any (Rows.repLeadsSpec.pre6 enc Try.prog Try.f4 Rows.repLeadsRow.domain false) (Rows.repLeadsSpec.post enc Try.prog Try.f4 false true false false):=by
 refine returnsInHanded_of_change_sized (C:=Try.checked) qo started (by kernel_rfl) Try.func4
  (ChangeSpec.witness6 (enc:=enc) (C:=Try.checked) false ⟨#[],#[.int .i64 0,.slice none 0 0,.slice none 0 0],[]⟩ 8 (by kernel_rfl) (by kernel_rfl) (by kernel_rfl) (by kernel_rfl)) ?_
 intro W base args ds gs before hval0 hW hcnd hsz0 hholds;have hval:∀(j:Nat) t v,Try.f4.params[j]? = some t->args[j]? = some v->Value.okWide Try.prog W .any base t v:=hval0;have hsz:(DataW.weightsEach Try.prog (Try.f4.params.toList++Rows.repLeadsSpec.plain.varTypes Try.prog) (ds++gs)).all (· <= reachBytes)=true:=hsz0;have hWhole:DataW.Whole enc Try.prog Try.f4.params.toList Rows.repLeadsSpec.vars false W args.toList ds gs before:=hW;obtain ⟨p,q,hA0,hV,rfl,hfz,hnd⟩:=hW;have hA:DataW.TrodAll enc Try.prog W 0 (λ_=>true) true Try.f4.params.toList args.toList ds p:=hA0;obtain ⟨rfl,rfl⟩:=trodVars_none hV;rw [Try.params4] at hA hval hsz;clear hA0 hval0 hsz0;obtain ⟨v0,vs0,d0,ds0,p0,q0,hargs,rfl,rfl,h0,r0⟩:=trodAll_cons hA;obtain ⟨v1,vs1,d1,ds1,p1,q1,rfl,rfl,rfl,h1,r1⟩:=trodAll_cons r0;obtain ⟨v2,vs2,d2,ds2,p2,q2,rfl,rfl,rfl,h2,r2⟩:=trodAll_cons r1;obtain ⟨rfl,rfl,rfl⟩:=trodAll_nil r2;obtain rfl:args=#[v0,v1,v2]:=by cases args;simp_all
 obtain ⟨a0,rfl,hd0,hp0,wf0⟩:=open_int Try.underlying3 (hval 0 3 _ rfl rfl) h0;obtain ⟨x1_0,x1_1,x1_2,x1_3,rfl,y1_0,y1_1,y1_2⟩:=AY (hval 1 22 _ rfl rfl) h1 (jy hsz (j:=1) rfl rfl);obtain ⟨ao2,n2,c2,l2,rfl,b2,le2,re2⟩:=tw Try.underlying29 Try.underlying5 (by kernel_rfl) (by kernel_rfl) (okWide_slice Try.underlying29 (hval 2 29 _ rfl rfl)) h2 (jy hsz (j:=2) rfl rfl);refine (tG a0 x1_0 x1_1 x1_2 x1_3 ao2 n2 c2 l2 W wf0 y1_0 y1_1 y1_2 b2 (by omega) le2).mono λe W' ⟨he,hb⟩=>?_;subst he;refine ⟨_,rfl,zG mm ?_ rfl Try.underlying4 rfl rfl hWhole hb⟩;rw [Try.params4];intro t ht;simp only [bG,iZ,or_false] at ht;rcases ht with rfl | rfl | rfl<;>exact ⟨by kernel_rfl,kQ (by kernel_rfl)⟩
theorem repLeads_holds:Rows.RepLeadsSaid :=
 OpenClaim.holds_of_wide 4 Try.f4 rfl rfl rfl rfl rfl rfl rfl ⟨rfl,rfl,rfl,rfl,rfl⟩ rfl rfl rfl rfl rfl (by kernel_rfl) Try.func4 (by kernel_rfl)
  (kQ (by kernel_rfl)) (by unfold Func.isWrapper;rw [aw (by decide +kernel)];exact ⟨rfl,rfl⟩)
  (λos started H enc _=>mG os started H enc)
#print axioms repLeads_holds
end Go.Proofs.Ytnicaicjgaoolaa
