/-
  GroupLeads returns true and leaves its arguments as they were, for every input. No condition.
-/
import Derived.Test.YtnhefallmioefaaGreatW0
import Derived.Test.YtnhefallmioefaaGreatW1
import Derived.Test.YtnhefallmioefaaGreatPGroupLeadsL2
import Derived.Test.YtnhefallmioefaaGreatW2
set_option maxHeartbeats 8000000
set_option linter.unusedVariables false
set_option linter.unusedSimpArgs false
namespace Go.Proofs.YtnhefallmioefaaGreat
open Go.ChangeShapes Go.WideShapes Go.ChangeAt Go.RowKit
theorem rQ:ownKnob Tryz.prog.godebug=none:=dW
theorem ny:laidOutB Tryz.prog=true:=dW
set_option maxRecDepth 100000 in
theorem ou (os:Os) (started:os.Started) (H:Type) (enc:TypeId×Value->H) :
  ReturnsInHanded {} Tryz.checked os 4 .any (Rows.groupLeadsSpec.pre6 enc Tryz.prog Tryz.f4 Rows.groupLeadsRow.domain false) (Rows.groupLeadsSpec.post enc Tryz.prog Tryz.f4 false true false false):=by
 refine returnsInHanded_of_change_sized (C:=Tryz.checked) rQ started dW Tryz.func4
  (ChangeSpec.witness6 (enc:=enc) (C:=Tryz.checked) false ⟨#[],#[.int .i64 0,.slice none 0 0,.slice none 0 0],[]⟩ 8 dW dW dW dW) ?_
 intro W base args ds gs before hval0 hW hcnd hsz0 hholds;have hval:∀(j:Nat) t v,Tryz.f4.params[j]? = some t->args[j]? = some v->Value.okWide Tryz.prog W .any base t v:=hval0;have hsz:(DataW.weightsEach Tryz.prog (Tryz.f4.params.toList++Rows.groupLeadsSpec.plain.varTypes Tryz.prog) (ds++gs)).all (· <= reachBytes)=true:=hsz0;have hWhole:DataW.Whole enc Tryz.prog Tryz.f4.params.toList Rows.groupLeadsSpec.vars false W args.toList ds gs before:=hW;obtain ⟨p,q,hA0,hV,rfl,hfz,PO⟩:=hW;have hA:DataW.TrodAll enc Tryz.prog W 0 (λ_=>true) true Tryz.f4.params.toList args.toList ds p:=hA0;obtain ⟨rfl,rfl⟩:=trodVars_none hV;rw [Tryz.params4] at hA hval hsz;clear hA0 hval0 hsz0;obtain ⟨v0,vs0,d0,ds0,p0,q0,hargs,rfl,rfl,h0,r0⟩:=trodAll_cons hA;obtain ⟨v1,vs1,d1,ds1,p1,q1,rfl,rfl,rfl,h1,r1⟩:=trodAll_cons r0;obtain ⟨v2,vs2,d2,ds2,p2,q2,rfl,rfl,rfl,h2,r2⟩:=trodAll_cons r1;obtain ⟨rfl,rfl,rfl⟩:=trodAll_nil r2;obtain rfl:args=#[v0,v1,v2]:=by cases args;simp_all
 obtain ⟨a0,rfl,hd0,hp0,wf0⟩:=open_int Tryz.underlying3 (hval 0 3 _ rfl rfl) h0;obtain ⟨x1_0,x1_1,x1_2,x1_3,rfl,y1_0,y1_1,y1_2⟩:=GE (hval 1 22 _ rfl rfl) h1 (kU hsz (j:=1) rfl rfl);obtain ⟨ao2,n2,c2,l2,rfl,b2,le2,re2⟩:=xW Tryz.underlying31 Tryz.underlying5 dW dW (okWide_slice Tryz.underlying31 (hval 2 31 _ rfl rfl)) h2 (kU hsz (j:=2) rfl rfl);refine (yo (λk l rec h1 h5 hl hB hr1 hr3=>Oq k l rec h1 h5 hl hB hr1 hr3) a0 x1_0 x1_1 x1_2 x1_3 ao2 n2 c2 l2 W y1_0 y1_1 y1_2 b2 le2).mono λe W' ⟨he,hb⟩=>?_;subst he;refine ⟨_,rfl,EK ny ?_ rfl Tryz.underlying4 rfl rfl hWhole hb⟩;rw [Tryz.params4];exact NZ
theorem groupLeads_holds:Rows.GroupLeadsSaid :=
 OpenClaim.holds_of_wide 4 Tryz.f4 rfl rfl rfl rfl rfl rfl rfl ⟨rfl,rfl,rfl,rfl,rfl⟩ rfl rfl rfl rfl rfl dW Tryz.func4 dW
  (gT dW) N3
  (λos started H enc _=>ou os started H enc)
#print axioms groupLeads_holds
end Go.Proofs.YtnhefallmioefaaGreat
