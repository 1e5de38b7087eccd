/- What the law leans on. No condition. -/
import Derived.Test.YtnhefallmioefaaGreatW0
import Derived.OrdersHeld
import Derived.WalkKit
import Derived.Deep.RegionHeld
import Derived.BigQuiet
import Derived.BigRegion
import Derived.Carry
import Derived.ChangeMaps5
import Derived.ChangeOld
import Derived.Deep.AppendLies
import Derived.Deep.CutBlock
import Derived.Deep.DeepCutAuto
import Derived.Deep.DrawnRows
import Derived.Deep.LoopGhost
import Derived.Deep.OwnRows
import Derived.Deep.QuietTactic
import Derived.Deep.RegionHeld3
import Derived.Deep.RegionLaw
import Derived.Deep.RegionWith
import Derived.Deep.Slices
import Derived.Deep.Strs
import Derived.DeepKeys4
import Derived.Laws.AppendOwnNone
import Derived.Laws.IdiomRangeMap
import Derived.Laws.IdiomStrings
import Derived.Laws.OwnMore
import Derived.Laws.ResultCell
import Derived.Laws.Rows
import Derived.Lib.AppendStr
import Derived.Lib.AppendZerosOnto
import Derived.Lib.Hide
import Derived.Lib.SlBytesConst
import Derived.Lib.SliceRun
import Derived.Lib.Walk
import Derived.Maps.Keyed
import Derived.OpenShut
import Derived.Orders
import Derived.ProofKit
import Derived.Shelf.RegionOpenPlain
import Derived.ShutString
import Derived.SizedLaws
import Derived.WalkLawsBesides
import Derived.WalkSpells
import Derived.Test.YtnhefallmioefaaGreatRows
set_option maxHeartbeats 8000000
set_option linter.unusedVariables false
set_option linter.unusedSimpArgs false
namespace Go.Proofs.YtnhefallmioefaaGreat
section
variable {P:Program} {ops:Array Oper} {Q:Exit->Act->World->Prop} {md:Region.Mode} {S:World->Prop}
def PX (P:Program) (ops:Array Oper) (S:World->Prop) (o:Oper) (v:Value) (a:Act):Prop :=
 Region.wanted o (yielded ops a.tmps)=true/\∀w,S w->∃f args,(execOp a.eval o).run P w = .ok (.enter f args) w/\Calls P f args w (λe w'=>e = .returned v/\w=w')
theorem PX.wpOp {i:Nat} {o:Oper} {v:Value} {a:Act} (hi:ops[i]? = some o) (hy:PX P ops S o v a)
  {K:Act->World->Prop} {w:World} (hS:S w) (h:K (a.put o.dst v) w):wpOp P ops Q i K a w:=by
 unfold Go.wpOp;simp only [hi];obtain ⟨hw,hv⟩:=hy;obtain ⟨f,args,h1,h2⟩:=hv w hS;simp only [hw,if_true,Oper.wp,h1,Oper.upon];refine .inl (h2.mono ?_);rintro e w' ⟨rfl,rfl⟩;exact h
theorem PX.of_same {o:Oper} {v:Value} {a a':Act} (hy:PX P ops S o v a) (he:execOp a'.eval o=execOp a.eval o)
  (hw:Region.wanted o (yielded ops a'.tmps)=Region.wanted o (yielded ops a.tmps)):PX P ops S o v a':=by
 unfold PX at *;rw [he,hw];exact hy
theorem Ae {j:Nat} {oi oj:Oper} {v:Value} (hj:ops[j]? = some oj) (hap:oi.apart ops oj=true)
  (hsi:∀cs b,oi.op ≠ .select cs b) (hsj:∀cs b,oj.op ≠ .select cs b)
  (hQ:∀c a w,Q (.panic c) (a.put oi.dst v) w->Q (.panic c) a w) {K:Act->World->Prop} {a:Act} {w:World}
  (hy:PX P ops S oi v a) (h:wpOp P ops Q j K (a.put oi.dst v) w) :
  wpOp P ops Q j (λa' w'=>PX P ops S oi v a'/\K (a'.put oi.dst v) w') a w:=by
 obtain ⟨h1,h2,h3⟩:=Oper.apart_spec hap;have keep:∀(a:Act),PX P ops S oi v a->∀u,PX P ops S oi v (a.put oj.dst u):=λa hy u =>
  hy.of_same (execOp_put oi hsi a oj.dst u h3) (wanted_put oi a oj.dst u h3)
 have keepD:∀d,PX P ops S oi v { a with defers:=d::a.defers }:=λd=>hy.of_same rfl rfl;unfold wpOp at *;simp only [hj] at *;rw [wanted_put oj a oi.dst v h1] at h;split
 ·rename_i hw;simp only [hw,if_true] at h;rcases h with h | ⟨hasks,hlets⟩
  case inr=>exact .inr ⟨by unfold Oper.asks at *;rw [execOp_put oj hsj a oi.dst v h1] at hasks;exact hasks,hlets⟩
  refine .inl ?_;unfold Oper.wp at *;rw [execOp_put oj hsj a oi.dst v h1] at h;generalize (execOp a.eval oj).run P w=r at *;cases r with
  | ok n w' =>
   cases n<;>simp only [Oper.upon] at h ⊢
   case value u=>exact ⟨keep a hy u,by rw [<-Act.put_comm a v u h2];exact h⟩
   case skip=>exact ⟨keep a hy _,by rw [<-Act.put_comm a v undef h2];exact h⟩
   case defer d =>
    refine ⟨keep _ (keepD d) _,?_⟩;rw [<-Act.put_comm _ v undef h2,<-Act.put_defers];exact h
   case enter f args =>
    refine Calls.mono h λe w'' he=>?_;cases e with
    | returned u=>exact ⟨keep a hy u,by rw [<-Act.put_comm a v u h2];exact he⟩
    | panicked c=>exact hQ _ _ _ he
    | outgrown=>exact he
   case row row args=>exact Rows.mono h λu w'' he=>⟨keep a hy u,by rw [<-Act.put_comm a v u h2];exact he⟩
  | halt x w' =>
   cases x<;>simp only [Oper.upon] at h ⊢
   case panic u=>exact hQ _ _ _ h
 ·rename_i hw;simp only [hw] at h;exact ⟨keep a hy _,by rw [<-Act.put_comm a v undef h2];exact h⟩
theorem rZ {i:Nat} {oi:Oper} {v:Value} (hi:ops[i]? = some oi) (hsel:∀(j:Nat) (o:Oper) cs b,ops[j]? = some o->o.op ≠ .select cs b)
  (hQ:∀c a w,Q (.panic c) (a.put oi.dst v) w->Q (.panic c) a w) :
  ∀(fuel:Nat) (listed:Array Bool) (a:Act) (w:World),
   (∀j oj,ops[j]? = some oj->j≠i->listed.getD j true=false->(∀e∈oj.after,Region.binds md e=true->e.on≠i)->oi.apart ops oj=true) ->
   i∈Region.ready md ops listed->PX P ops S oi v a->S w ->
   wpAnyH P md ops Q S fuel (listed.setIfInBounds i true) (a.put oi.dst v) w->wpAnyH P md ops Q S (fuel+1) listed a w:=by
 intro fuel;induction fuel with
 | zero =>
  intro listed a w _ hr hy hS H;refine ⟨λh=>(by rw [h] at hr;cases hr),λj hj=>?_⟩;by_cases SX:j=i
  ·subst SX;exact hy.wpOp hi hS ⟨hS,H⟩
  ·have:=ready_mono hj SX;rw [H.1] at this;cases this
 | succ fuel ih =>
  intro listed a w hfree hr hy hS H;refine ⟨λh=>(by rw [h] at hr;cases hr),λj hj=>?_⟩;by_cases SX:j=i
  ·subst SX;exact hy.wpOp hi hS ⟨hS,H⟩
  ·have h1:=H.2 j (ready_mono hj SX);obtain ⟨hjun,oj,hoj,hall⟩:=mem_ready.1 hj;have YI:∀e∈oj.after,Region.binds md e=true->e.on≠i:=λe he hb heq=>by
    have h1:=hall e he hb;have h0:=(mem_ready.1 hr).1;rw [heq] at h1;rcases Nat.lt_or_ge i listed.size with h' | h'
    ·simp [h'] at h0 h1;rw [h0] at h1;cases h1
    ·simp [Array.getElem?_eq_none h'] at h1
   have h2:=Ae hoj (hfree j oj hoj SX hjun YI) (λcs b=>hsel i oi cs b hi) (λcs b=>hsel j oj cs b hoj) hQ hy h1;have hfree':∀k ok,ops[k]? = some ok->k≠i->(listed.setIfInBounds j true).getD k true=false ->
     (∀e∈ok.after,Region.binds md e=true->e.on≠i)->oi.apart ops ok=true:=λk ok hk hki hun hno=>by
    refine hfree k ok hk hki ?_ hno;by_cases hjk:j=k
    ·subst hjk;exact hjun
    ·rw [getD_set_ne true hjk] at hun;exact hun
   refine wpOp_mono (λa' w' h3=>⟨h3.2.1,ih (listed.setIfInBounds j true) a' w' hfree' (ready_mono hr (F5 SX)) h3.1 h3.2.1 ?_⟩) h2;rw [Array.setIfInBounds_comm _ _ SX];exact h3.2.2
theorem gW {i:Nat} {oi:Oper} {v:Value} {fuel:Nat} {listed:Array Bool} {a:Act} {w:World} (hi:ops[i]? = some oi)
  (hs:Region.noSelect ops=true) (hf:Region.free md ops listed i=true) (hr:(Region.ready md ops listed).contains i=true)
  (hQ:∀c a w,Q (.panic c) (a.put oi.dst v) w->Q (.panic c) a w) (hwt:Region.wanted oi (yielded ops a.tmps)=true) (f:FuncId) (args:Array Value) (hrun:∀w,S w->(execOp a.eval oi).run P w = .ok (.enter f args) w) (hc:∀w,S w->Calls P f args w (λe w'=>e = .returned v/\w=w')) (hS:S w)
  (h:wpAnyH P md ops Q S fuel (listed.setIfInBounds i true) (a.put oi.dst v) w):wpAnyH P md ops Q S (fuel+1) listed a w :=
 rZ hi (Region.noSelect_spec hs) hQ fuel listed a w (Region.free_spec hi hf) (by simpa using hr) ⟨hwt,λw hw=>⟨f,args,hrun w hw,hc w hw⟩⟩ hS h
theorem yJ {P:Program} {ρ:Operand->Value} {o:Oper} {t:TypeId} {ps:Array (Nat×Operand)} {v:Value} {w:World} (ho:o.op = .build t ps) (parts:Array (Nat×Value)) (hp:(ps.toList.map λp=>(p.1,ρ p.2))=parts.toList) (hr:(Instr.build t parts).run P w = .ok v w):(execOp ρ o).run P w = .ok (.value v) w:=by
 have hp2:ps.map (λp=>(p.1,ρ p.2))=parts:=Array.ext' (by rw [Array.toList_map];exact hp);subst hp2;simp [execOp,ho,hr,Result.andThen]
end
open Go.RowKit
theorem bX {p q:Prop} (h:q) (e:p=q:=by ((try simp only [Act.put,eY,uO,uP])<;>exact rfl)):p:=by rw [e];exact h
inductive QC:List Oper->Nat->Oper->Prop
 | z {o:Oper} {l:List Oper}:QC (o::l) 0 o
 | s {a o:Oper} {l:List Oper} {n:Nat}:QC l n o->QC (a::l) (n+1) o
theorem QC.get {l:List Oper} {n:Nat} {o:Oper} (h:QC l n o):l.toArray[n]? = some o:=by
 rw [jx];induction h with
 | z=>rfl
 | s h ih=>rw [List.getElem?_cons_succ];exact ih
section
variable {P:Program} {l:List Oper} {Q:Exit->Act->World->Prop} {md:Region.Mode} {S:World->Prop} {fuel:Nat} {listed:Array Bool} {a a':Act} {w:World}
theorem aJ (i:Nat) {oi:Oper} {v:Value}
  (h:wpAnyH P md l.toArray Q S fuel (listed.setIfInBounds i true) a' w)
  (hi:QC l i oi:=by (repeat apply QC.s)<;>exact QC.z)
  (hw:Region.wanted oi (yielded l.toArray a.tmps)=true:=by rfl)
  (hy:∀w,S w->(execOp a.eval oi).run P w = .ok (.value v) w:=by (intro w hSw;(try dsimp only at hSw);go_simp<;>with_reducible rfl))
  (ha:a.put oi.dst v=a':=by ((try simp only [Act.put,eY,uO,uP])<;>exact rfl))
  (hs:Region.noSelect l.toArray=true:=by kernel_rfl) (hf:Region.free md l.toArray listed i=true:=by kernel_rfl) (hr:(Region.ready md l.toArray listed).contains i=true:=by kernel_rfl)
  (hQ:∀c a w,Q (.panic c) (a.put oi.dst v) w->Q (.panic c) a w:=by exact λ_ _ _ h=>h) (hS:S w:=by exact aD):wpAnyH P md l.toArray Q S (fuel+1) listed a w :=
 wpAnyH_take hi.get hs hf hr hQ (Or.inl ⟨hw,hy⟩) hS (by rw [ha];exact h)
theorem Oj (i:Nat) {oi:Oper} {v:Value} (hi:QC l i oi) (hy:∀w,S w->(execOp a.eval oi).run P w = .ok (.value v) w)
  (h:wpAnyH P md l.toArray Q S fuel (listed.setIfInBounds i true) a' w)
  (hw:Region.wanted oi (yielded l.toArray a.tmps)=true:=by rfl)
  (ha:a.put oi.dst v=a':=by ((try simp only [Act.put,eY,uO,uP])<;>exact rfl))
  (hs:Region.noSelect l.toArray=true:=by kernel_rfl) (hf:Region.free md l.toArray listed i=true:=by kernel_rfl) (hr:(Region.ready md l.toArray listed).contains i=true:=by kernel_rfl)
  (hQ:∀c a w,Q (.panic c) (a.put oi.dst v) w->Q (.panic c) a w:=by exact λ_ _ _ h=>h) (hS:S w:=by exact aD):wpAnyH P md l.toArray Q S (fuel+1) listed a w :=
 wpAnyH_take hi.get hs hf hr hQ (Or.inl ⟨hw,hy⟩) hS (by rw [ha];exact h)
theorem dR (i:Nat) {oi:Oper}
  (h:wpAnyH P md l.toArray Q S fuel (listed.setIfInBounds i true) a' w)
  (hi:QC l i oi:=by (repeat apply QC.s)<;>exact QC.z)
  (hw:Region.wanted oi (yielded l.toArray a.tmps)=false:=by rfl)
  (ha:a.put oi.dst undef=a':=by ((try simp only [Act.put,eY,uO,uP])<;>exact rfl))
  (hs:Region.noSelect l.toArray=true:=by kernel_rfl) (hf:Region.free md l.toArray listed i=true:=by kernel_rfl) (hr:(Region.ready md l.toArray listed).contains i=true:=by kernel_rfl)
  (hQ:∀c a w,Q (.panic c) (a.put oi.dst undef) w->Q (.panic c) a w:=by exact λ_ _ _ h=>h) (hS:S w:=by exact aD):wpAnyH P md l.toArray Q S (fuel+1) listed a w :=
 wpAnyH_take (v:=undef) hi.get hs hf hr hQ (Or.inr ⟨hw,rfl⟩) hS (by rw [ha];exact h)
theorem dh (i:Nat) {o:Oper}
  (g0:∀K':Act->World->Prop,Shut (∀a w,S w->(S w->wpAnyH P md l.toArray Q S fuel (listed.setIfInBounds i true) a w)->K' a w)->if Region.wanted o (yielded l.toArray a.tmps)=true then Oper.wp P o a w K' Q else K' (a.put o.dst undef) w)
  (h0:QC l i o:=by (repeat apply QC.s)<;>exact QC.z)
  (hr:Region.ready md l.toArray listed=[i]:=by kernel_rfl):wpAnyH P md l.toArray Q S (fuel+1) listed a w :=
 wpAnyH_ready hr (by simp) (AllReadyH.cons h0.get g0 AllReadyH.nil)
theorem mf (i j:Nat) {o p:Oper}
  (g0:∀K':Act->World->Prop,Shut (∀a w,S w->(S w->wpAnyH P md l.toArray Q S fuel (listed.setIfInBounds i true) a w)->K' a w)->if Region.wanted o (yielded l.toArray a.tmps)=true then Oper.wp P o a w K' Q else K' (a.put o.dst undef) w)
  (g1:∀K':Act->World->Prop,Shut (∀a w,S w->(S w->wpAnyH P md l.toArray Q S fuel (listed.setIfInBounds j true) a w)->K' a w)->if Region.wanted p (yielded l.toArray a.tmps)=true then Oper.wp P p a w K' Q else K' (a.put p.dst undef) w)
  (h0:QC l i o:=by (repeat apply QC.s)<;>exact QC.z)
  (h1:QC l j p:=by (repeat apply QC.s)<;>exact QC.z)
  (hr:Region.ready md l.toArray listed=[i,j]:=by kernel_rfl):wpAnyH P md l.toArray Q S (fuel+1) listed a w :=
 wpAnyH_ready hr (by simp) (AllReadyH.cons h0.get g0 (AllReadyH.cons h1.get g1 AllReadyH.nil))
theorem LF (i j k:Nat) {o p q:Oper}
  (g0:∀K':Act->World->Prop,Shut (∀a w,S w->(S w->wpAnyH P md l.toArray Q S fuel (listed.setIfInBounds i true) a w)->K' a w)->if Region.wanted o (yielded l.toArray a.tmps)=true then Oper.wp P o a w K' Q else K' (a.put o.dst undef) w)
  (g1:∀K':Act->World->Prop,Shut (∀a w,S w->(S w->wpAnyH P md l.toArray Q S fuel (listed.setIfInBounds j true) a w)->K' a w)->if Region.wanted p (yielded l.toArray a.tmps)=true then Oper.wp P p a w K' Q else K' (a.put p.dst undef) w)
  (g2:∀K':Act->World->Prop,Shut (∀a w,S w->(S w->wpAnyH P md l.toArray Q S fuel (listed.setIfInBounds k true) a w)->K' a w)->if Region.wanted q (yielded l.toArray a.tmps)=true then Oper.wp P q a w K' Q else K' (a.put q.dst undef) w)
  (h0:QC l i o:=by (repeat apply QC.s)<;>exact QC.z)
  (h1:QC l j p:=by (repeat apply QC.s)<;>exact QC.z)
  (h2:QC l k q:=by (repeat apply QC.s)<;>exact QC.z)
  (hr:Region.ready md l.toArray listed=[i,j,k]:=by kernel_rfl):wpAnyH P md l.toArray Q S (fuel+1) listed a w :=
 wpAnyH_ready hr (by simp) (AllReadyH.cons h0.get g0 (AllReadyH.cons h1.get g1 (AllReadyH.cons h2.get g2 AllReadyH.nil)))
theorem Ol (i j k m:Nat) {o p q r:Oper}
  (g0:∀K':Act->World->Prop,Shut (∀a w,S w->(S w->wpAnyH P md l.toArray Q S fuel (listed.setIfInBounds i true) a w)->K' a w)->if Region.wanted o (yielded l.toArray a.tmps)=true then Oper.wp P o a w K' Q else K' (a.put o.dst undef) w)
  (g1:∀K':Act->World->Prop,Shut (∀a w,S w->(S w->wpAnyH P md l.toArray Q S fuel (listed.setIfInBounds j true) a w)->K' a w)->if Region.wanted p (yielded l.toArray a.tmps)=true then Oper.wp P p a w K' Q else K' (a.put p.dst undef) w)
  (g2:∀K':Act->World->Prop,Shut (∀a w,S w->(S w->wpAnyH P md l.toArray Q S fuel (listed.setIfInBounds k true) a w)->K' a w)->if Region.wanted q (yielded l.toArray a.tmps)=true then Oper.wp P q a w K' Q else K' (a.put q.dst undef) w)
  (g3:∀K':Act->World->Prop,Shut (∀a w,S w->(S w->wpAnyH P md l.toArray Q S fuel (listed.setIfInBounds m true) a w)->K' a w)->if Region.wanted r (yielded l.toArray a.tmps)=true then Oper.wp P r a w K' Q else K' (a.put r.dst undef) w)
  (h0:QC l i o:=by (repeat apply QC.s)<;>exact QC.z)
  (h1:QC l j p:=by (repeat apply QC.s)<;>exact QC.z)
  (h2:QC l k q:=by (repeat apply QC.s)<;>exact QC.z)
  (h3:QC l m r:=by (repeat apply QC.s)<;>exact QC.z)
  (hr:Region.ready md l.toArray listed=[i,j,k,m]:=by kernel_rfl):wpAnyH P md l.toArray Q S (fuel+1) listed a w :=
 wpAnyH_ready hr (by simp) (AllReadyH.cons h0.get g0 (AllReadyH.cons h1.get g1 (AllReadyH.cons h2.get g2 (AllReadyH.cons h3.get g3 AllReadyH.nil))))
theorem iX (h:Q .normal a w) (hr:Region.ready md l.toArray listed=[]:=by kernel_rfl):wpAnyH P md l.toArray Q S fuel listed a w:=wpAnyH_done hr h fuel
end
section
variable {p:Prop}
theorem Oc (h:p:=by
 rintro e w3 ⟨v3,hr,RD,hb3⟩;rw [HQ.out] at hr RD;obtain rfl:=hr;have Pk:=af (O5.out.trans (hb3.mono O5.out.size));have S5:=af (RD.mono O5.out.size);clear hb3 RD;obtain ⟨Zb,c3,rfl,hc3,hc39⟩:=S5.out.shape;go_wp2_with fail
 refine (iq (HD.out.below Pk.out)).mono ?_;rintro e w4 ⟨rfl,rfl⟩;go_wp2_with fail
 go_loopw [12,58] (λa i wr=>∃(j:Nat) (ve:Value),j<=recs.length/\i = .int .i64 (j:Int)/\a = .int .i64 ((F.aY (recs.take j)).length:Int)/\wr.heap[w3.heap.size]? = some (.cells #[.pointer (some ⟨d,0,none⟩),.int .i64 k.lives,.bool false,.int .i64 1,.slice Zb recs.length c3,ve] 103 (0,0))/\OX wr 0 3 ve (dH (recs.take j))/\(∀b,ve.ownBlock=some b->w3.heap.size<b)/\PC wr w.heap.size (.slice Zb recs.length c3) recs/\Below w.heap.size w wr/\Below w3.heap.size w3 wr) (λ_ i _=>recs.length - (intOf i).toNat)
 case atStart =>
  refine ⟨0,.slice none 0 0,by omega,rfl,by simp [F.aY],?_,OX.nil _ _ _,(λb hb=>by cases hb),?_,?_,?_⟩
  ·exact aV _ _
  ·exact S5.out.below ((aG _ _).alloc (ah _) _)
  ·exact Pk.out.alloc Pk.out.size _
  ·exact (aG _ _).alloc (ah _) _
 case round =>
  obtain ⟨j,ve,hj,rfl,rfl,hcell,WL,hvb,QR,hbl,hb3⟩:=hrel;have HC:=af hcell;have HV:=af WL;have Zg:=af hvb;have HL:=af QR;have Q0:=af hbl;have WB:=af hb3;clear hcell WL hvb QR hbl hb3;by_cases hlt:j<recs.length
  ·have hrj:(recs.getD j []).length<=20000:=by
    have e:recs.getD j []=recs[j]:=by simp [List.getD,hlt]
    rw [e];exact hrs _ (cW _)
   have XE:(F.aY (recs.take j)).length+(12+(recs.getD j []).length)=(F.aY (recs.take (j+1))).length:=by
    have e:recs.getD j []=recs[j]:=by simp [List.getD,hlt]
    rw [e,<-bO hlt,lu]
   have YW:(F.aY (recs.take (j+1))).length<=1048576:=by
    have e:F.aY recs=F.aY (recs.take (j+1))++F.aY (recs.drop (j+1)):=by
     unfold F.aY;rw [<-List.flatMap_append,eI]
    rw [e,aE] at Rh;omega
   obtain ⟨us,hu,TF,PL,Qz⟩:=HL.out;obtain ⟨ao,c,e1,hi,_,_⟩:=n6 (Qz j hlt);have hgu:=TF;rcases TF.2 with ⟨_,h0⟩ | ⟨g,cap,cur,e0,_,hg,hgn,hgm,hgs,hgt⟩
   ·omega
   cases e0;have hcell:wr.cell? ⟨g,j,none⟩=some (.slice ao (recs.getD j []).length c):=by
    have:=World.ownsRow.cellAt hgu j (by omega);rw [this,<-e1];have hun:j<us.length:=by omega
    simp [List.getD,hun]
   have HI:=af hi;clear hu TF PL Qz hgu hg hgs hgt hgn hgm e1 hi;have HRJ:=af hrj;have HFJ:=af XE;clear hrj XE;generalize QR:recs.getD j []=rl at *;have UO:=af QR;clear QR;go_wp2_with fail
   refine (vg ao rl.length c rl HI.out HRJ.out).mono ?_;rintro e wr2 ⟨rfl,hb⟩;have HBS:=af hb;clear hb hcell;have VO:wrap64 ((F.aY (recs.take j)).length+(12+(rl.length:Int)))=((F.aY (recs.take (j+1))).length:Int):=by
    have:=HFJ.out;rw [<-this];unfold wrap64;omega
   have hfj3:Hid ((F.aY (recs.take (j+1))).length<=1048576):=af YW;have HSUM:=af (show wrap64 ((F.aY (recs.take j)).length+(12+(rl.length:Int)))=((F.aY (recs.take (j+1))).length:Int) from VO);have hc2:wr2.heap[w3.heap.size]? = some (.cells #[.pointer (some ⟨d,0,none⟩),.int .i64 k.lives,.bool false,.int .i64 1,.slice (some ⟨g,0,none⟩) recs.length c3,ve] 103 (0,0)):=(Only.OL HBS.out []).keeps HC.out (by simp);have U2:=af hc2;clear hc2 YW;generalize hz:(F.aY (recs.take (j+1))).length=z at *;have HZ:=af hz;clear hz;have UG:(dH (recs.take j)).length=j:=by rw [gK,aQ];omega
   have HELN:=af UG;have hv2:OX wr2 0 3 ve (dH (recs.take j)):=ji HV.out HBS.out;obtain ⟨ae,ce,e5,_⟩:=hv2.Xr;rw [UG] at e5;subst e5;have HV2:=af hv2;have HLEN:Hid ((dH (recs.take j)).length+1<=17592186044416):=af (by rw [UG];omega);clear UG hv2;have UZ:wr2.cell? ⟨w3.heap.size,5,none⟩=some (.slice ae j ce):=(ap U2.out 5).trans rfl;go_wp2_with (at_builtin;refine ii rfl (.tmp 70) (.tmp 72) 74 rfl 3 Tryz.underlying74 F.info3 (.slice ae j ce) (dH (recs.take j)) rfl (OX.alloc HV2.out _) (some ⟨wr2.heap.size,0,none⟩) 1 1 [(z:Int)] rfl (lP (aV wr2 _)) HLEN.out ?_)
   intro ve5 w5 PS Rl SK;have h5:=Rl.keeps (bD U2.out (.cells #[.int .i64 (z:Int)] 3)) (lM (OX.alloc HV2.out (.cells #[.int .i64 (z:Int)] 3)) (bD U2.out (.cells #[.int .i64 (z:Int)] 3)) (by simp));obtain ⟨a5,c5,e5,_⟩:=PS.Xr;rw [aE,HELN.out] at e5;simp only [aX,fp,cB] at e5;subst e5;have Re:w5.cell? ⟨w3.heap.size,5,none⟩=some (.slice ae j ce):=(ap h5 5).trans rfl;have hz:=aU h5 5;have HL5:=af h5;have RJ:=af PS;have Zl:=af Rl;have Wx:=af SK;clear h5 PS Rl SK;go_wp2_with fail
   case roundEnd =>
    refine ⟨?_,?_⟩;rotate_left
    ·simp [intOf];omega
    have hlw:w3.heap.size<wr.heap.size:=bg HC.out;have YV:∀b,(Value.slice a5 (j+1) c5).ownBlock=some b->w3.heap.size<b:=λb hb=>by
     rcases Wx.out b hb with h1 | h1
     ·exact Zg.out b h1
     ·have:=HBS.out.size;have h2:(wr2.alloc (.cells #[.int .i64 (z:Int)] 3)).heap.size=wr2.heap.size+1:=by simp
      omega
    have P8:Only (w3.heap.size::(Value.slice ae j ce).ownBlock.toList) wr (w5.setCell ⟨w3.heap.size,5,none⟩ (.slice a5 (j+1) c5)):=(((Only.OL HBS.out _).trans (Only.OL ((aG _ _).alloc (ah _) _) _)).trans (Zl.out.mono (λb hb=>aM _ hb))).setCell (by simp) _;have Qv:∀b∈(w3.heap.size::(Value.slice ae j ce).ownBlock.toList),w3.heap.size<=b:=λb hb=>by
     rcases cA.1 hb with rfl | hb
     ·exact ah _
     ·exact gc (Zg.out b (by simpa using hb))
    have hew:dH (recs.take (j+1))=dH (recs.take j)++[(z:Int)]:=by
     have e:recs.take (j+1)=recs.take j++[recs[j]]:=(bO hlt).symm;have hz2:=HZ.out;rw [e] at hz2;rw [e,lw,hz2]
    refine ⟨j+1,.slice a5 (j+1) c5,by omega,by simp,by rw [HZ.out],be HL5.out 5 _,?_,YV,?_,?_,?_⟩
    ·rw [hew];exact bR RJ.out (S:=[w3.heap.size]) ((Only.OL (aG _ _) _).setCell (by simp) _) (λb hb=>by have:=YV b hb;simp;omega)
    ·refine HL.out.only P8 (λb hb cur=>?_);rcases cA.1 hb with rfl | hb
     ·rw [HC.out];simp
     ·rw [d9 HV.out (by simpa using hb)];simp
    ·exact Q0.out.trans (P8.below Q0.out.size (λb hb=>aF Pk.out.size (Qv b hb)))
    ·exact WB.out.trans (P8.below (gc hlw) Qv)
  ·have Tv:j=recs.length:=by omega
   subst Tv;go_wp2_with fail
   go_ret2
   rw [bW] at HV;have hlw:w3.heap.size<wr.heap.size:=bg HC.out;obtain ⟨us,hu,TF,PL,Qz⟩:=HL.out;have YC:=λb hb=>World.ownsRow.lt TF b hb;have WL:=λb hb=>HV.out.lt b hb;have Qv:∀b∈(w3.heap.size::((Value.slice Zb recs.length c3).ownBlock.toList++ve.ownBlock.toList)),w.heap.size<=b/\b<wr.heap.size/\∃cur t,t≠5/\wr.heap[b]? = some (.cells cur t (0,0)):=λb hb=>by
    rcases cA.1 hb with rfl | hb
    ·exact ⟨Pk.out.size,hlw,_,103,by simp,HC.out⟩
    ·rcases aA.1 hb with hb | hb
     ·have hb2:(Value.slice Zb recs.length c3).ownBlock=some b:=by simpa using hb
      exact ⟨(YC b hb2).1,(YC b hb2).2,_,31,by simp,d9 (fw TF (aH _)) hb2⟩
     ·have hb2:ve.ownBlock=some b:=by simpa using hb
      exact ⟨aF Pk.out.size (gc (Zg.out b hb2)),(WL b hb2).2,_,3,by simp,d9 HV.out hb2⟩
   have hDlt:∀b∈D,b<w.heap.size:=HD.out.lt;refine ⟨⟨w3.heap.size,_,rfl,λA hA=>⟨⟨⟨_,_,HC.out,⟨⟨us,hu,fw TF (aH _),λi hi=>?_⟩,HV.out,λb hb=>?_,λb hb=>?_⟩⟩,bd,λb hb=>(Qv b hb).2.1⟩,HD.out.below Q0.out,λb hb hb2=>?_,λb hb=>aR _ (aI _ hb),λb hb=>aR _ (aR _ hb),λb hb=>?_⟩,λb hb=>(Qv b hb).1,Q0.out⟩⟩
   ·obtain ⟨ao4,c4,e4,h1,h2,h3⟩:=jk (Qz i hi);refine ⟨ao4,c4,e4,h1,h2,λp hp=>⟨λhm=>?_,(h3 p hp).2⟩⟩;rcases aA.1 hm with hm | hm
    ·have:=hA _ hm;have:=(h3 p hp).1;omega
    rcases aA.1 hm with hm | hm
    ·have:=hDlt _ hm;have:=(h3 p hp).1;omega
    ·obtain ⟨_,_,cur,t,ht,hc⟩:=Qv _ hm;have hb4:(us.getD i undef).ownBlock=some p.block:=by rw [e4,hp];rfl
     have h6:=d9 (fw (Qz i hi) (aH _)) hb4;rw [hc] at h6;simp at h6;exact ht h6
   ·exact aM _ (aI _ (by simp [hb]))
   ·exact aM _ (aR _ (by simp [hb]))
   ·have:=hDlt _ hb;have:=(Qv _ hb2).1;omega
   ·rcases aA.1 hb with hb | hb
    ·exact aK (hA _ hb) Q0.out.size
    rcases aA.1 hb with hb | hb
    ·exact aK (hDlt _ hb) Q0.out.size
    ·exact (Qv _ hb).2.1):p:=h
theorem N2 (h:p:=by
 clear hff;generalize s.n=n at *;generalize s.own=ow at *;go_enter Tryz.func62,Tryz.ntmps62
 go_wp2_with fail
 go_loopw [11,5] (λi v wr=>∃j:Nat,j<=n/\i = .int .i64 (j:Int)/\PG wr A w.heap.size v (cc j)/\Below w.heap.size w wr) (λi _ _=>n - (intOf i).toNat)
 case atStart=>exact ⟨0,aH _,rfl,by rw [H0.out];exact PG.nil _ _ _,aG _ _⟩
 case round =>
  obtain ⟨j,hj,rfl,ho,hb⟩:=hrel;have HO:=af ho;have HB:=af hb;have WT:=cell_later hb hc0;clear ho hb;obtain ⟨ao,c,rfl,_,_⟩:=HO.out.shape;have q6:IntKind.i64.wrap ((j:Int)+1)=(j:Int)+1:=IntWalk.i64_in _ (by omega);have HSJ:=af (HST.out j);have HLJ:=af (Yo.out j);by_cases hlt:j<n
  ·have q5:(j:Int)<(n:Int):=by omega
   by_cases hjo:j=ow
   ·rw [ay hjo,dq] at HSJ;have g1:((j:Int) != (ow:Int))=false:=by simp [hjo]
    clear hlt hjo;go_wp2_with fail
    go_roundw
    case rel=>exact ⟨j+1,by omega,rfl,by rw [HSJ.out];exact HO.out,HB.out⟩
    case measure=>simp [intOf];omega
   ·rw [am hjo] at HSJ;have g1:((j:Int) != (ow:Int))=true:=(by rw [bne_iff_ne];omega)
    have HC:=af (HF.out wr _ HB.out HO.out.lt j hlt hjo);clear hlt hjo;go_wp2_with fail
    refine HC.out.mono ?_;rintro e w2 ⟨v,u,rfl,Qb,hb2⟩;have hO2:=HO.out.below hb2;have O5:=af (HB.out.trans (hb2.mono HB.out.size));unfold en;have hbB:Below w2.heap.size w2 (w2.alloc (.cells #[.int .i64 (ff j).OD,.int .i64 (ff j).dst,.int .i64 (ff j).kind,v,u] 83)):=(aG _ _).alloc (ah _) _;have Rz:=af (Qb.below hbB);have S5:=af (hO2.below hbB);have Pk:=af (O5.out.alloc O5.out.size (.cells #[.int .i64 (ff j).OD,.int .i64 (ff j).dst,.int .i64 (ff j).kind,v,u] 83));have HX3:=af (aV w2 (.cells #[.int .i64 (ff j).OD,.int .i64 (ff j).dst,.int .i64 (ff j).kind,v,u] 83));go_wp2_with (at_builtin;refine oO rfl (.tmp 20) (.tmp 24) rfl w.heap.size (.slice ao (cc j).length c) (cc j) rfl S5.out w2.heap.size (ff j) v u rfl HX3.out Rz.out (by have:=HLJ.out;omega) Pk.out.size ?_)
    intro v4 w4 Rb Vd;have HO4:=af Rb;have TA:=af (Pk.out.trans (Vd.below Pk.out.size (λb hb=>(S5.out.lt b hb).1)));go_wp2_with fail
    case roundEnd=>exact ⟨⟨j+1,by omega,rfl,by rw [HSJ.out];exact HO4.out,TA.out⟩,by simp [intOf];omega⟩
  ·obtain rfl:j=n:=by omega
   go_wp2_with fail
   go_ret
   rw [SQ.out];exact ⟨_,rfl,HO.out,HB.out⟩):p:=h
theorem NQ (h:p:=by
 refine aJ 24 ?_;refine aJ 25 ?_;refine dR 26 ?_;refine dR 27 ?_;refine dR 28 ?_;refine dR 29 ?_;refine dR 30 ?_;refine dR 31 ?_;refine dR 32 ?_;refine aJ 33 ?_;refine aJ 34 ?_;refine dR 35 ?_;refine dR 36 ?_;refine dR 37 ?_;refine dR 38 ?_;refine aJ 39 ?_;refine aJ 40 ?_;refine dR 41 ?_;refine dR 42 ?_;refine dR 43 ?_;refine dR 44 ?_;refine dR 45 ?_;refine aJ 46 ?_;refine aJ 47 ?_;refine dR 48 ?_;refine dR 49 ?_;refine dR 50 ?_;refine dR 51 ?_;refine dR 52 ?_;refine aJ 53 ?_;refine iX ?_;clear aD;go_wp2_with fail
 go_meet
 exact ⟨rfl,QT.out,QL.out⟩):p:=h
theorem Ob (h:p:=by
 as_aux_lemma =>
 refine wp_region_held_drew (S:=λw'=>w'.cell? ⟨M,0,none⟩=some (.int .i64 m.OD)/\w'.cell? ⟨M,1,none⟩=some (.int .i64 m.dst)/\w'.cell? ⟨M,3,none⟩=some (.slice (some ⟨b,off,none⟩) m.N.length c)/\w'.cell? ⟨r,0,none⟩=some (.int .i64 (s.own:Int))/\w'.cell? ⟨r,1,none⟩=some (.int .i64 (s.n:Int))/\w'.cell? ⟨b,off,none⟩=some (.int .i64 n0)) (by kernel_rfl) SG.out (λaD=>?_);refine aJ 0 ?_;generalize W1.drew=V1 at *;refine dh 1 λK hK=>?_;go_simp
 refine UR.out.mono ?_;rintro e w2 ⟨rfl,Pf,OZ⟩;have QT:=af Pf;have QL:=af OZ;clear Pf OZ;go_wp2_with fail
 refine hK.out _ _ (Tm.out _ QL.out QT.out) (λaD=>?_);clear hK K;refine bX ?_;refine aJ 2 ?_;refine aJ 3 ?_;refine aJ 4 ?_;refine aJ 5 ?_;refine aJ 6 ?_;refine aJ 7 ?_;refine aJ 8 ?_;refine aJ 9 ?_;refine aJ 10 ?_;refine aJ 11 ?_;refine aJ 12 ?_;refine aJ 13 ?_;refine aJ 14 ?_;refine aJ 15 ?_;refine aJ 16 ?_;refine aJ 17 ?_;refine aJ 18 ?_;refine aJ 19 ?_;refine aJ 20 ?_;refine aJ 21 ?_;refine aJ 22 ?_;refine aJ 23 ?_;refine aJ 24 ?_;refine aJ 25 ?_;refine aJ 26 ?_;refine aJ 27 ?_;refine aJ 28 ?_;refine aJ 29 ?_;refine aJ 30 ?_;refine aJ 31 ?_;refine aJ 32 ?_;refine aJ 33 ?_;refine aJ 34 ?_;refine aJ 35 ?_;refine aJ 36 ?_;refine aJ 37 ?_;refine aJ 38 ?_;refine aJ 39 ?_;refine aJ 40 ?_;refine aJ 41 ?_;refine aJ 42 ?_;refine aJ 43 ?_;refine aJ 44 ?_;refine aJ 45 ?_;refine aJ 46 ?_;refine aJ 47 ?_;refine aJ 48 ?_;refine aJ 49 ?_;refine aJ 50 ?_;refine aJ 51 ?_;refine aJ 52 ?_;refine aJ 53 ?_;refine iX ?_;clear aD;go_wp2_with fail
 go_meet
 exact ⟨rfl,QT.out,QL.out⟩):p:=h
theorem Oa (h:p:=by
 refine aJ 39 ?_;refine aJ 40 ?_;refine dR 41 ?_;refine dR 42 ?_;refine dR 43 ?_;refine dR 44 ?_;refine dR 45 ?_;refine aJ 46 ?_;refine aJ 47 ?_;refine dR 48 ?_;refine dR 49 ?_;refine dR 50 ?_;refine dR 51 ?_;refine dR 52 ?_;refine aJ 53 ?_;refine iX ?_;clear aD;go_wp2_with fail
 go_meet
 exact ⟨rfl,QT.out,QL.out⟩):p:=h
theorem ME (h:p:=by
 go_upto_region 5 with (fail)
 generalize wr.alloc (.cells #[.int .i64 at_,.int .i64 mn,.int .i64 tm] 117)=W2 at *;go_quiet (fail)
 go_wp2_with fail
 go_roundw
 case rel=>exact ⟨j+1,by omega,rfl,λi hi=>(by
  by_cases YU:i=j
  ·rw [YU,HX.out,WC.out];simp [*]
  ·exact HPR.out i (by omega)),O5.out _⟩
 case measure=>simp [intOf];omega):p:=h
theorem N9 (h:p:=by
 have h0:=h.more;have hn:=hb.n5;obtain ⟨r,hr⟩:∃r,r=S.P4 n es x:=⟨_,rfl⟩
 rw [<-hr];unfold Mn.P4 at hr;split at hr
 ·split at hr
  ·rename_i hx;obtain ⟨i,hi,_,e⟩:=eC hx;rw [hr];simp only [e];exact h.tick (ey es) ha hn i hi
  ·rw [hr];exact h0
 split at hr
 ·split at hr
  ·rename_i hx;obtain ⟨i,hi,_,e⟩:=eC hx;rw [hr];simp only [e];have em:S.q[i]? = some (S.q.getD i og):=by rw [cf hi];simp [hi]
   exact h.bring (ey es) ha hn i _ em
  ·rw [hr];exact h0
 split at hr
 ·split at hr
  ·rw [hr];exact h.lose _
  ·rw [hr];exact h0
 split at hr
 ·split at hr
  ·rw [hr];exact h.copy (by omega) _
  ·rw [hr];exact h0
 split at hr
 ·split at hr
  ·rename_i hx;obtain ⟨i,hi,_,e⟩:=eC hx;rw [hr];simp only [e];exact h.Qm hb i hi x.K
  ·rw [hr];exact h0
 split at hr
 ·split at hr
  ·rename_i hx;obtain ⟨i,hi,_,e⟩:=eC hx;rw [hr];simp only [e];exact h.back hb i hi
  ·rw [hr];exact h0
 split at hr
 ·split at hr<;>(rw [hr];exact h0)
 split at hr
 ·split at hr<;>(rw [hr];exact h0)
 split at hr
 ·split at hr
  ·rename_i hx2;obtain ⟨i,hi,_,e⟩:=eC hx2;rw [hr];simp only [e];exact h.PY (ey es) ha hn i hi x.B hx
  ·rw [hr];exact h0
 ·rw [hr];exact h0):p:=h
theorem Ky (h:p:=by
 have Z7:=af (HC _ Pe);clear HC Pe P0;go_enter Tryz.func9,Tryz.ntmps9
 go_wp2_with fail
 refine Z7.out.mono ?_;rintro e w1 ⟨b,rfl,hq⟩;have HQ:=af hq;clear hq;go_wp2_with fail
 go_ret
 exact ⟨b,rfl,HQ.out⟩):p:=h
theorem oK (h:p:=by
 go_wp2_with fail
 go_ret
 exact ⟨rfl,rfl⟩):p:=h
theorem N8 (h:p:=by
 by_cases h4:nl=4+bl
 ·subst h4;have E4:Hid ((4+bl==4+bl)=true):=af (by simp);cases b1:decide (n1<0) with
  | true =>
   go_quiet (fail)
   go_wp2_with fail
   go_meet
   exact ⟨by rw [E4.out,b1];rfl,nq,rfl⟩
  | false =>
   cases b2:n0==s.Ow with
   | false =>
    go_quiet (fail)
    go_wp2_with fail
    go_meet
    exact ⟨by rw [E4.out,b1,b2];rfl,nq,rfl⟩
   | true =>
    go_quiet (fail)
    go_wp2_with fail
    go_meet
    exact ⟨by rw [E4.out,b1,b2];rfl,nq,rfl⟩
 ·have g4:((nl:Int) != 4+(bl:Int))=true:=by rw [bne_iff_ne];omega
  have e4:(nl==4+bl)=false:=by simpa using h4
  go_quiet (fail)
  go_wp2_with fail
  go_meet
  exact ⟨by rw [e4];rfl,nq,rfl⟩):p:=h
theorem Ng (h:p:=by
 refine wp_region_held_drew (S:=λw'=>w'.cell? ⟨M,3,none⟩=some (.slice (some ⟨b,off,none⟩) (4+bl) c)/\w'.cell? ⟨b,off+1,none⟩=some (.int .i64 n1)/\w'.cell? ⟨b,off+2,none⟩=some (.int .i64 n2)) (by kernel_rfl) ⟨RZ,XD,hn2c⟩ (λaD=>?_);refine aJ 0 ?_;refine aJ 1 ?_;refine aJ 2 ?_;refine aJ 3 ?_;refine aJ 4 ?_;refine aJ 5 ?_;refine aJ 6 ?_;refine aJ 7 ?_;refine aJ 8 ?_;generalize W5.drew=V6 at *;refine dh 9 λK hK=>?_;go_simp
 refine HFT.out.mono ?_;rintro e wa ⟨rfl,rfl⟩;go_wp2_with fail
 refine hK.out _ _ aD (λaD=>?_);clear hK K;refine bX ?_;refine aJ 10 ?_;refine iX ?_;clear aD;go_wp2_with fail
 go_meet
 exact ⟨rfl,rfl⟩):p:=h
theorem Nf (h:p:=by
 go_enter Tryz.func84,Tryz.ntmps84
 go_wp2_with fail
 refine (A0.out _ HB.out).mono ?_;rintro e w1 ⟨d1,rfl,rfl⟩;go_wp2_with fail
 refine (A4.out _ (by exact HB.out.WV rfl)).mono ?_;rintro e w1 ⟨d2,rfl,rfl⟩;have hx:=HX.out;go_wp2_with fail
 clear hx;go_region_with (first
  | (go_at_call 101;refine (A8.out _ (by first | exact HB.out.WV rfl | exact (HB.out.alloc _).WV rfl)).mono ?_;rintro e w3 ⟨d3,rfl,rfl⟩)
  | (go_at_call 102;refine (A2H.out _ (by exact rfl)).mono ?_;rintro e w3 ⟨rfl,rfl⟩))
 all_goals cases r
 all_goals go_wp2_with fail
 all_goals go_ret2
 all_goals exact ⟨rfl,B7 (aG _ _) _ rfl rfl rfl rfl⟩):p:=h
theorem KJ (h:p:=by
 rw [e];go_wp2_with fail
 (try simp only [Exit.inBlock,Exit.then])
 (try simp only [m1,m2])
 all_goals first | omega | (refine bodyPost_ret (results_cell_row (P:=Tryz.prog) (fn:=Tryz.f77) rfl _ _ w.heap.size 122 _ _ _ rfl (aV _ _) Tryz.underlying122 rfl Gv) rfl ⟨rfl,(aG _ _).alloc (ah _) _⟩)):p:=h
theorem Nc (h:p:=by
 have PN:(T.QE i).up j=true:=by rw [<-hr.up j hj];exact hu
 rw [kW hr hj PN];unfold X.Cs.QE at PN ⊢;cases XY:T.up i with
 | true =>
  rw [XY] at PN;simp only [if_true] at PN ⊢;rw [<-kW h.rel hj PN];exact h.pre j hj (by rw [h.rel.up j hj];exact PN)
 | false =>
  rw [XY] at PN;simp only [bk,if_false] at PN ⊢;by_cases e1:j=i
  ·rw [ay e1];have:X.tells (X.back (T.nd i))=[]:=rfl;rw [this];exact List.nil_prefix
  ·rw [am e1] at PN ⊢;rw [<-kW h.rel hj PN];exact h.pre j hj (by rw [h.rel.up j hj];exact PN)):p:=h
theorem Nb (h:p:=by
 obtain ⟨k1,k2,k3⟩:=h2;rcases k3 with k3 | ⟨b',off',e,k4⟩
 ·omega
 ·rw [e] at hp;cases hp;have h9:=World.block_lt_of_cell? w _ (k4 0 (by omega));have h9:b'<w.heap.size:=h9;exact ⟨λhm=>by have:=hA _ hm;show False;simp only at this;omega,aK h9 hb.size⟩):p:=h
theorem KI (h:p:=by
 go_enter Tryz.func84,Tryz.ntmps84
 go_wp2_with fail
 refine (A0.out _ HB.out).mono ?_;rintro e w1 ⟨d1,rfl,rfl⟩;go_wp2_with fail
 refine (A4.out _ (by exact HB.out.WV rfl)).mono ?_;rintro e w1 ⟨d2,rfl,rfl⟩;go_wp2_with fail
 go_ret2
 exact ⟨rfl,xa (aG _ _) _⟩):p:=h
theorem Na (h:p:=by
 rintro e RH ⟨rfl,R6⟩;have Rx:=af (Tr.out.trans (R6.mono Tr.out.size));have Zr:=af (Zq.out.below R6);clear R6;go_wp2_with fail
 refine hK.out _ _ (Tz.out _ Rx.out) (λaD=>?_);clear hK K;refine bX ?_;refine dh 9 λK hK=>?_;unfold en;go_simp
 refine hK.out _ _ (Tz.out _ (Rx.out.alloc Rx.out.size _)) (λaD=>?_);clear hK K;refine bX ?_;refine aJ 10 ?_;refine iX ?_;clear aD;go_wp2_with fail
 go_ret
 rw [HE.out];exact Tp.out _ _ _ Rx.out Zr.out):p:=h
theorem MY (h:p:=by
 obtain ⟨rfl,rfl⟩:=h2 rfl;obtain rfl:l2=[]:=bP.1 h1;exact wpList_append_own_none hgd s x t ho base e i0 1 ht Q4 v _ _ hs hown hx (h v w (by simpa using hown) (World.grownBy.refl _ _) (aG _ _))):p:=h
theorem MX (h:p:=by
 have HTU:=af (Xf.out w2 · · hc2);clear hc2 OZ Tt;go_wp2_with fail
 refine HT2.out.mono ?_;intro e w3 hp;obtain ⟨v,A3,Z3,rfl,h3,hr3,m3⟩:=HTU.out _ _ hp;have HS3:=af (Xg.out w3 A3 Z3 v h3 hr3);have Rz:=af (TU.out.trans m3);clear h3 hr3 m3 hp;go_wp2_with fail
 refine HS3.out.mono ?_;rintro e w4 ⟨rfl,hG⟩;have HG:=af (Px.trans Rz.out hG);clear hG;go_wp2_with fail
 go_ret
 exact ⟨rfl,HG.out⟩):p:=h
theorem GU (h:p:=by
 obtain ⟨gl',cr',e9,_,hr2⟩:=h2.Ss (by omega);cases e9;exact ⟨by rw [ap h2.cell];rfl,hr2 i hi,by rw [ap (h2.one i hi)];rfl⟩):p:=h
theorem KH (h:p:=by
 go_upto_region 5 with (fail)
 generalize wr.alloc (.cells #[.int .i64 at_,.int .i64 mn,.int .i64 tm] 117)=W2 at *;go_quiet (fail)
 go_wp2_with fail
 go_ret
 exact ⟨by rw [Zm.out (by rw [WC.out];simp [*])];rfl,O5.out _⟩):p:=h
theorem MW (h:p:=by
 have hb:Below w.heap.size w (w.alloc (.cells #[.string t] 9)):=(aG _ _).alloc (ah _) _;have HM:=af (yh (h.below hb) ho w.heap.size t (by rw [ap (aV _ _)];rfl) ht);have HB:=af hb;have PH:=hl _ hb;have h3:=cell_later hb h1;go_enter Tryz.func85,Tryz.ntmps85
 go_wp2_with fail
 refine HM.out.mono ?_;rintro e w1 ⟨rfl,rfl⟩;go_wp2_with fail
 go_ret2
 exact ⟨rfl,HB.out⟩):p:=h
theorem GT (h:p:=by
 intro e w4 h4;have H4:=af (PE.trans M3.out h4);obtain ⟨v4,_,_,rfl,_⟩:=h4;go_wp2_with fail
 go_ret
 rw [Ug.out,HR.out];exact H4.out):p:=h
theorem MV (h:p:=by
 refine aJ 12 ?_;refine aJ 13 ?_;refine dR 14 ?_;refine dR 15 ?_;refine dR 16 ?_;refine dR 17 ?_;refine dR 18 ?_;refine dR 19 ?_;refine dR 20 ?_;refine dR 21 ?_;refine dR 22 ?_;refine dR 23 ?_;refine aJ 24 ?_;refine aJ 25 ?_;refine aJ 26 ?_;refine dh 27 λK hK=>?_;go_simp
 refine hK.out _ _ trivial (λaD=>?_);clear hK K;refine bX ?_;refine iX ?_;go_wp2_with fail
 go_ret
 exact P7.out _ _ rfl):p:=h
theorem qW (h:p:=by
 go_wp2_with fail
 go_ret
 rw [HE.out];exact HF.out):p:=h
theorem Bj (h:p:=by
 rintro e w2 ⟨rfl,rfl⟩;exact ⟨_,rfl,rfl,(h.below hb1).gyp (Mv.below hb1)⟩):p:=h
theorem pZ (h:p:=by
 exact Sy.of hg h (λm hm=>by cases hm)):p:=h
theorem KG (h:p:=by
 refine iX ?_;clear aD;go_wp2_with fail
 go_ret
 rw [HE.out];exact Tp.out _ _ _ Rx.out Zr.out):p:=h
theorem MU (h:p:=by
 obtain ⟨h1,h2,h3⟩:=h;refine ⟨h1,h2,?_⟩;rcases h3 with h3 | ⟨b,off,h4,h5⟩
 ·exact .inl h3
 ·exact .inr ⟨b,off,h4,λi hi=>cell_later hb (h5 i hi)⟩):p:=h
theorem MT (h:p:=by
 have hat:=Mn.at_set S i j ⟨(S.at i).s,dI (S.at i).k keep,false⟩ (by rw [h.rel.len];exact O9);have hu:((S.set i ⟨(S.at i).s,dI (S.at i).k keep,false⟩).at j).up=true:=hu;show de ((S.set i ⟨(S.at i).s,dI (S.at i).k keep,false⟩).at j).s <+: _;rw [hat] at hu ⊢;split at hu
 ·cases hu
 ·grind [h.pre]):p:=h
theorem KF (h:p:=by
 have PN:T.up i=true:=by rw [<-h.up i hi];exact hu
 rw [hl];show de (S.at i).s <+: _;rw [kW h hi PN];exact (h4 i (aH _) (by omega) PN).map cD):p:=h
theorem KE (h:p:=by
 go_wp2_with fail
 go_roundw
 case rel =>
  refine ⟨j+1,_,by omega,by simp,rfl,?_⟩;rw [HSTJ.out,HAD.out];exact HFI.out
 case measure=>simp [intOf];omega):p:=h
theorem MS (h:p:=by
 rw [dg];intro x hx;obtain ⟨t1,t2,t3⟩:=dL (z:=z) (e:=e) 1 S;rcases (t3 x).1 hx with g | ⟨c,d1,d2,d3⟩
 ·rw [hq] at g;cases g
 ·obtain ⟨h1,_,h3⟩:=hw.tk (e:=e) hb c d1;have:=h1.num;rw [h3] at this;have:=List.length_pos_of_mem d3;omega):p:=h
theorem MR (h:p:=by
 refine ⟨h.1,?_⟩;rcases h.2 with h2 | ⟨g,cap,cur,hv,hg,hh,r⟩
 ·exact .inl h2
 ·exact .inr ⟨g,cap,cur,hv,aF hb hg,hh,r⟩):p:=h
theorem MQ (h:p:=by
 cases hr1:r.1 with
 | nil=>exact aH _
 | cons a l =>
  rw [hr1] at Vc hk4;have:l=[]:=by cases l with
   | nil=>rfl
   | cons _ _=>simp at Vc
  subst this;have:=(hk4 a bd).1;rw [tC,qq];unfold wm;rw [am (by omega)];omega):p:=h
theorem MO (h:p:=by
 intro a7 c7 W7 WN Yd hg7;have HO7:=af WN;have ZA:=af ((WA.out.alloc WA.out.size _).trans Yd);clear WN Yd hg7;go_wp2_with fail
 go_roundw
 case rel=>exact ⟨j+1,by omega,rfl,by rw [Ws.out];exact HO7.out,ZA.out⟩
 case measure=>simp [intOf];omega):p:=h
theorem MN (h:p:=by
 simp only [bi,bb,bq,not_or,ne_eq,dJ,gp] at hy;have P9:=ee (z:=z) (e:=e) { s1 with OB:=s1.OB.set m.OD.toNat true };rw [P9.Oy,hy.1.1.1] at h;rcases h with h | h<;>cases h):p:=h
theorem DY (h:p:=by
 go_wp2_with fail
 go_ret
 exact ⟨rfl,HF.out⟩):p:=h
theorem yc (h:p:=by
 exact ⟨aH _,λh=>absurd h h2,hnB⟩):p:=h
theorem MM (h:p:=by
 intro hm;have hk:v.ownBlock=some b:=by simpa using hm
 rcases ho.2 with ⟨rfl,_⟩ | ⟨g,cap,cur,rfl,_,hg,_⟩
 ·simp [Value.ownBlock] at hk
 ·simp [Value.ownBlock] at hk;subst hk;rw [hg] at h;exact hne cur (rV h).symm):p:=h
theorem pg (h:p:=by
 exact hid _ _ rfl rfl rfl rfl):p:=h
theorem ML (h:p:=by
 go_wp2_with fail
 go_quiet (fail)
 go_wp2_with fail
 go_ret
 rw [HE.out,HSF.out,Zm.out];exact ⟨rfl,((H1.out.below (aB _ q)).below (aB _ nq)).VJ (M1.out.trans ((Mv.below (aB _ q)).trans (Mv.below (aB _ nq))))⟩):p:=h
theorem KD (h:p:=by
 go_quiet (fail)
 go_wp2_with fail
 refine ⟨⟨j+1,by omega,rfl,by rw [HST.out];rfl,O5.out _⟩,?_⟩;simp [intOf];omega):p:=h
theorem MK (h:p:=by
 have:(l6 x.1,Value.bool x.2)∈arr.toList.map (λe=>(e.key,e.val)):=by rw [hm];exact d7.2 ⟨x,hx,rfl⟩
 obtain ⟨e,he,hee⟩:=d7.1 this;simp only [ig] at hee;exact h2 e he (by rw [hee.1,ZG])):p:=h
theorem MJ (h:p:=by
 apply bz;intro hn;apply O0;have hp0:p=0:=by omega
 unfold nf;simp only [bu,aZ,cE];rw [e2,e3,hp0];exact ⟨by show ((0:Nat):Int)<=(s1.Oz.length:Int);omega,rfl⟩):p:=h
theorem MH (h:p:=by
 go_enter Tryz.func106,Tryz.ntmps106
 go_wp2_with fail
 refine HK.out.mono ?_;rintro e w1 ⟨rfl,hr,ho⟩;go_wp2_with fail
 refine (oX a _ _ _ hr).mono ?_;rintro e w2 ⟨rfl,hr2,OZ⟩;go_wp2
 go_ret
 exact ⟨rfl,hr2,ho.trans OZ⟩):p:=h
theorem MG (h:p:=by
 clear h hcell;go_enter Tryz.func98,Tryz.ntmps98
 go_wp2_with fail
 go_loopw [] (λwr=>wr=w) (λwr=>0)
 case atStart=>rfl
 case round =>
  subst hrel;go_wp2_with fail
  go_end0
  rw [HE.out];exact ⟨H0.out,Only.refl _ _,rfl⟩):p:=h
theorem DX (h:p:=by
 go_wp2_with fail
 go_ret
 exact ⟨rfl,HG.out⟩):p:=h
theorem MF (h:p:=by
 refine aJ 15 ?_;refine aJ 16 ?_;refine dR 17 ?_;refine dR 18 ?_;refine dR 19 ?_;refine dR 20 ?_;refine dR 21 ?_;refine dR 22 ?_;refine aJ 23 ?_;refine aJ 24 ?_;refine iX ?_;go_wp2_with fail
 go_ret
 exact ⟨by simp,1,rfl⟩):p:=h
theorem GS (h:p:=by
 go_quiet (fail)
 go_wp2_with fail
 go_meet
 exact ⟨by rw [b1,b2];rfl,nq,rfl⟩):p:=h
theorem MD (h:p:=by
 exact ⟨⟨rfl,rfl,rfl,rfl,rfl,rfl,rfl,rfl,rfl,rfl,rfl,rfl,rfl,rfl,rfl,rfl,rfl,rfl,rfl,rfl,by show LJ.total<=_;rw [show LJ.total=0 from rfl];exact aH _⟩,λl q e=>by cases e⟩):p:=h
theorem MC (h:p:=by
 cases hr1:r.1 with
 | nil=>exact List.Pairwise.nil
 | cons a l =>
  rw [hr1] at Vc;have:l=[]:=by cases l with
   | nil=>rfl
   | cons _ _=>simp at Vc
  subst this;exact List.pairwise_singleton _ _):p:=h
theorem KC (h:p:=by
 go_enter Tryz.func47,Tryz.ntmps47
 go_wp2_with fail
 go_ret2
 rw [HE.out];exact Yk.none (H.out.VJ (Mv.refl _ _ _))):p:=h
theorem KB (h:p:=by
 rcases e with e | ⟨rfl,rfl,e⟩
 ·exact .inl (hg.dn j u k k' e hk)
 ·exact .inr ⟨rfl,rfl,by omega⟩):p:=h
theorem GR (h:p:=by
 go_quiet (fail)
 go_wp2_with fail
 go_meet
 exact ⟨rfl,rfl,rfl,nq,rfl⟩):p:=h
theorem GQ (h:p:=by
 intro u hu;obtain ⟨y,_,rfl⟩:=d7.1 hu;rfl):p:=h
theorem MB (h:p:=by
 intro v' w' g1 g2 _;exact h v' w' (by rw [aE,h1,cy];exact g1) g2 (hb w' g2)):p:=h
theorem KA (h:p:=by
 rintro e w1 ⟨rfl,hb⟩;have HB:=af hb;clear hb;go_wp2_with fail
 go_ret2
 exact ⟨rfl,HB.out⟩):p:=h
theorem Kz (h:p:=by
 rw [g7,ay rfl,g6 f (by rw [PD.own];exact f3),ay rfl];rcases d4 WT f f2 with g | g<;>omega):p:=h
theorem N0 (h:p:=by
 refine ⟨h.1,?_⟩;rcases h.2 with h2 | ⟨g,cap,cur,hv,hg,hh,r⟩
 ·exact .inl h2
 ·exact .inr ⟨g,cap,cur,hv,hg,by rw [hb.block g (jN.1 hh).1];exact hh,r⟩):p:=h
theorem GP (h:p:=by
 go_wp2_with fail
 go_ret
 rw [Wz.out];exact PE.none (H7.out.VJ M7.out)):p:=h
theorem MA (h:p:=by
 rcases Nat.lt_or_ge j l2.length with hlt | Qv
 ·exact hlt
 ·simp [JY Qv] at hj):p:=h
theorem Mz (h:p:=by
 rw [fz,ay (by omega)] at h3;rw [h3];have:i<l.length:=by omega
 simp [this]):p:=h
theorem My (h:p:=by
 have h3:=F3 (c:=E.length) (t:=(T.nd i).Ow) h.pw.cl (h.pw.kd _);have h4:D.length*E.length<=κ*Λ:=nF (by have:=h.rd;omega) (by have:=h.re;omega);omega):p:=h
theorem GN (h:p:=by
 unfold X.get;split
 ·rfl
 ·split
  ·exact O9 _
  ·exact O9 _):p:=h
theorem Mx (h:p:=by
 subst hH hv hn;refine ⟨by simp,.inr ⟨w.heap.size,l.length,_,rfl,hb,heap_alloc_new w _,ah _,by unfold maxLen;omega,by simp,?_⟩⟩;simp [bE]):p:=h
theorem Mw (h:p:=by
 refine jf n _ _ λj hj=>?_;simp only [bf];by_cases e2:j=i
 ·subst e2;have:(S.call j r).up j=true:=hu;rw [this];simp
 ·simp only [e2,if_false];rfl):p:=h
theorem NZ (h:p:=by
 intro t ht;simp only [cA,ki,or_false] at ht;rcases ht with rfl | rfl | rfl<;>exact ⟨by kernel_rfl,gT (by kernel_rfl)⟩):p:=h
theorem Mu (h:p:=by
 go_wp2_with fail
 go_ret
 exact ⟨rfl,PK.out⟩):p:=h
theorem Mt (h:p:=by
 go_wp2_with fail
 go_ret
 rw [HE.out];exact PE.none (Py.trans (QU.out.trans (Mv.below (aB W q1))) ((Ri.out.below (aB W q1)).VJ (Mv.refl _ _ _)))):p:=h
theorem Mr (h:p:=by
 go_enter Tryz.func22,Tryz.ntmps22
 go_wp2_with fail
 go_quiet ((go_at_call 41;exact mG (HH.out _)))
 go_wp2_with fail
 go_ret
 exact ⟨rfl,aB _ _⟩):p:=h
theorem DW (h:p:=by
 go_wp2_with fail
 go_ret
 exact ⟨rfl,HB.out⟩):p:=h
theorem Kx (h:p:=by
 have e:(s.Oy && !decide (s.Ow<s.Ow+1))=true:=e;rw [e0] at e;cases e):p:=h
theorem Bi (h:p:=by
 exact ⟨ah _,id,rfl,rfl⟩):p:=h
theorem Mq (h:p:=by
 obtain ⟨_,_,_,_,o⟩:=(h.tk (e:=e) hb i i1).1.out x i3;rcases o with o | o | o
 ·exact .inl o.1
 ·exact .inr (.inl o.1)
 ·exact .inr (.inr o.1)):p:=h
theorem Mm (h:p:=by
 exact fX _ _ d (by show d<(S.nd c).n;rw [(hown c (O2 c c1)).2];exact d1) (by show d≠(S.nd c).own;rw [(hown c (O2 c c1)).1];exact d2)):p:=h
theorem Ml (h:p:=by
 rw [hb] at hv HJ;go_wp2_with fail
 go_roundw
 case rel=>exact ⟨j+1,by omega,rfl,by rw [HJ.out];rfl,trivial⟩
 case measure=>simp [intOf];omega):p:=h
theorem Kw (h:p:=by
 have e:(s.Oy && !decide (s.Ow<s.Ow))=true:=e;rw [e0] at e;cases e):p:=h
theorem Mk (h:p:=by
 unfold O4;split
 ·rfl
 ·simp only;split
  ·exact (ee (z:=z) (e:=e) { s1 with OB:=s1.OB.set m.OD.toNat true }).Ox
  ·rfl):p:=h
theorem Kv (h:p:=by
 unfold fN at SJ;simp only [bu,aZ] at SJ;omega):p:=h
theorem Ku (h:p:=by
 have e2:G.V j u2=some (c2,l2,false):=e2;rw [h.Vf u2 hu] at e2;cases e2):p:=h
theorem Mj (h:p:=by
 clear Qv;go_wp2_with fail
 go_roundw
 case rel=>exact ⟨b+1,by omega,rfl,by rw [HJ.out];rfl,trivial⟩
 case measure=>simp [intOf];omega):p:=h
theorem Kt (h:p:=by
 go_quiet (fail)
 go_wp2_with fail
 go_meet
 exact ⟨by rw [b1];rfl,nq,rfl⟩):p:=h
theorem Mi (h:p:=by
 obtain ⟨Z',hz',m'⟩:=ua hi hz m;exact ⟨v,A',Z',rfl,⟨Y,os,rs,ds,ls,_,vl,nb,mb,qv,lv,hc,hz'⟩,Rn.row hv,m'⟩):p:=h
theorem Ks (h:p:=by
 have e:(s.Oy && !decide (s.Ow<t))=true:=e;rw [e0] at e;cases e):p:=h
theorem Mh (h:p:=by
 rcases h.ag.2 with h2 | ⟨u,k,k1,k2,k3,k4⟩
 ·rw [h2];simp
 ·rw [k4];exact (iz (hg.later k1 k2 (by rw [e1];simp)) k3).symm):p:=h
theorem Kr (h:p:=by
 unfold asked;split
 ·simp only;split
  ·split<;>rfl
  ·rfl
 ·rfl):p:=h
theorem Mg (h:p:=by
 rw [BitVec.toNat_ofInt];have:(0:Int)<=z % ((2 ^ 64:Nat):Int):=Int.emod_nonneg _ (by decide);rw [Int.toNat_of_nonneg this];rfl):p:=h
theorem Mf (h:p:=by
 obtain ⟨h4,h5⟩:=h3 p hp;refine ⟨λhm=>?_,aK h5 ho.size⟩;rcases he _ hm with h6 | h6
 ·exact h4 h6
 ·omega):p:=h
theorem Me (h:p:=by
 rcases hg.top s.Ow with h2 | h2
 ·exact cK ((hg.ok s.Ow).up _ _ (by omega) (ah _)) h2
 ·rw [h2] at hk;simp at hk):p:=h
theorem Md (h:p:=by
 subst h3;obtain rfl:l2=[]:=bP.1 h1;simp at hj):p:=h
theorem DV (h:p:=by
 exact Out.none h rfl rfl (ah _)):p:=h
theorem Mc (h:p:=by
 simp [Instr.lookup,run_underlying Tryz.underlying67,MapKept.run_getObj_map h,mX.check w _ hkey,h1,F9,Result.andThen]):p:=h
theorem Mb (h:p:=by
 exact ⟨λx hx=>(by cases hx),rfl,rfl,λh=>absurd rfl h,rfl,λh=>(by show 0+1<=_;omega),cZ _⟩):p:=h
theorem Ma (h:p:=by
 cases ao with
 | none=>have:=HL.out.nil rfl;omega
 | some p=>obtain ⟨g,rfl⟩:=HL.out.form p rfl;exact ⟨g,rfl⟩):p:=h
theorem L9 (h:p:=by
 refine jf n _ _ λj hj=>?_;by_cases e2:j=i
 ·subst e2;rw [ay rfl,hu];simp
 ·simp only [e2,if_false]):p:=h
theorem L8 (h:p:=by
 clear hb3;go_wp2_with fail
 go_ret2
 rw [HE.out];exact Yk.none ((H2.out.below Pk.out).VJ (M2.out.trans (Mv.below Pk.out)))):p:=h
theorem L7 (h:p:=by
 rcases aA.1 hb with h | h
 ·exact .inl h
 ·exact .inr (by rw [aj.1 h];exact ah _)):p:=h
theorem Kq (h:p:=by
 rintro e w1 ⟨rfl,rfl⟩;exact ⟨rfl,h.gyp (Mv.refl _ _ _)⟩):p:=h
theorem L6 (h:p:=by
 go_wp2_with fail
 go_roundw
 case rel=>exact ⟨t+1,by omega,by simp,HF.out⟩
 case measure=>simp [intOf];omega):p:=h
theorem JS (h:p:=by
 exact ⟨none,0,rfl,hl,λ_=>⟨rfl,rfl⟩,.inl rfl⟩):p:=h
theorem Ea (h:p:=by
 exact ((Only.refl _ _).setCell (by simp) _).setCell (by simp) _):p:=h
theorem JR (h:p:=by
 rw [aL,List.getElem?_set_ne (by omega),<-aL];exact h.next hl j):p:=h
theorem JQ (h:p:=by
 have:=hm.sub b (by simp [h1]);simp only [aA] at this ⊢;rcases this with h3 | h3<;>simp [h3]):p:=h
theorem JP (h:p:=by
 obtain ⟨M,hM,_⟩:=(hk k (by omega)).1.Sr (e:=e) (F:=F) hn (by omega) (by omega);exact ⟨M,hM⟩):p:=h
theorem JO (h:p:=by
 clear H2 HM;have hne:(e0 != 0)=eb:=ZY.out;go_wp2_with fail
 go_ret
 exact ⟨rfl,hr2.out.VJ HMF.out⟩):p:=h
theorem JN (h:p:=by
 obtain ⟨A',X',h,m⟩:=h;exact ⟨_,A',X',rfl,h,PG.nil _ _ _,m,(λb hb=>by cases hb)⟩):p:=h
theorem JM (h:p:=by
 unfold OV enter;have:((-1:Int)==(s.own:Int))=false:=by simp
 simp only [this,uQ]):p:=h
theorem D9 (h:p:=by
 exact St.none (Gr.of rfl rfl rfl) (λq=>q.of rfl rfl)):p:=h
theorem JL (h:p:=by
 rw [aj.1 hy];exact ⟨f,h3,by omega,by show ((m.OD.toNat:Nat):Int)=_;omega⟩):p:=h
theorem JK (h:p:=by
 rcases (hz b).1 hb with h1 | ⟨i,hi,hx⟩
 ·exact aI _ (m.mv.sub b h1)
 ·grind):p:=h
theorem D8 (h:p:=by
 exact ⟨aH _,λ_ h=>absurd rfl h,hnB⟩):p:=h
theorem JJ (h:p:=by
 rcases Nat.lt_or_ge j l.length with hlt | Qv
 ·exact hlt
 ·simp [JY Qv] at hj):p:=h
theorem JI (h:p:=by
 obtain ⟨_,cur,hc⟩:=hT mb hm;obtain ⟨arr,c,h1,_⟩:=h.cut.map;rw [h1] at hc;simp at hc):p:=h
theorem D7 (h:p:=by
 rw [show (4+bl)=m.N.length from PD.symm];exact h9):p:=h
theorem JH (h:p:=by
 obtain ⟨G,hG⟩:=h1.wk;have:=(hG.ni _ hd).bad;rw [X.bf,ay rfl] at this;exact this):p:=h
theorem JG (h:p:=by
 rw [ay Qv] at HE;go_wp2_with fail
 go_ret
 rw [HE.out];exact PE.none (SN.out.1.VJ SN.out.2)):p:=h
theorem JF (h:p:=by
 cases al7 with
 | none=>have:=Qp.nil rfl;have:=Qp.le;omega
 | some p=>exact ⟨p,rfl⟩):p:=h
theorem JE (h:p:=by
 simp [Value.ownBlock] at hb;rw [aj.1 hm] at hb;subst hb;rw [hg] at hl;simp at hl):p:=h
theorem JD (h:p:=by
 go_quiet (fail)
 go_wp2_with fail
 go_meet
 exact ⟨by rw [y1,c1];rfl,_,fg W q4 nq⟩):p:=h
theorem JC (h:p:=by
 unfold gF;rw [ay (by have:=hc.ql;rw [h.rel.q,aW];omega),h.rel.q];simp):p:=h
theorem JB (h:p:=by
 have e:(s.Oz.map Po.bs).getD i []=s.Oz[i].bs:=by simp [List.getD,hi]
 rw [e];exact k3):p:=h
theorem JA (h:p:=by
 rw [dK,dE _ _ e2];exact (RY (Xs j2) (h.node j2 h2).xA (h.xx j2 j1 h2 h1 e2)).symm):p:=h
theorem Jz (h:p:=by
 conv=>rhs;rw [e]
 unfold recs;rw [cz,cy,aE]):p:=h
theorem Jy (h:p:=by
 go_quiet (fail)
 go_wp2_with fail
 go_meet
 exact ⟨by rw [y1];rfl,_,fg W q4 nq⟩):p:=h
theorem Jx (h:p:=by
 refine ⟨h,hq,Kp.refl S,hi,λj=>?_⟩;rw [eO j hq,hq];exact aH _):p:=h
theorem Jw (h:p:=by
 have:=ih λx hx=>h x (aM _ hx);have:=h a bd;omega):p:=h
theorem Jv (h:p:=by
 rcases hm.mv.gr b hx with h1 | h1
 ·exact hd b hb h1
 ·have:=h.alt b (hP b hb);omega):p:=h
theorem Ju (h:p:=by
 show ((s.cnt+1:Nat):Int) - 2*s.Ow - (if s.OC = -1 then 0 else 1)=_;omega):p:=h
theorem Jt (h:p:=by
 have:=h5 j (by omega);rw [Addr.add_lit,this];simp [PI] at hj;simp [<-hj,PI,bv]):p:=h
theorem D6 (h:p:=by
 go_wp2_with fail
 go_end0
 exact ⟨rfl,HF.out⟩):p:=h
theorem Jr (h:p:=by
 clear hx;go_enter Tryz.func7,Tryz.ntmps7
 go_wp2_with fail
 go_ret2
 exact ⟨rfl,rfl⟩):p:=h
theorem D5 (h:p:=by
 go_wp2_with fail
 go_ret
 exact ⟨rfl,TA.out⟩):p:=h
theorem Jq (h:p:=by
 have:=h5 j (by omega);rw [Addr.add_lit,this];simp [PI] at hj;simp [<-hj,PI,iv]):p:=h
theorem Jp (h:p:=by
 obtain ⟨vl,gv,gn,gm,gh,hcell⟩:=h8.cells;rw [ap hcell,Q9,TR];rfl):p:=h
theorem Jo (h:p:=by
 go_quiet (fail)
 go_wp2_with fail
 go_meet
 exact ⟨by rw [b1,b2,b3];rfl,nq,rfl⟩):p:=h
theorem Jn (h:p:=by
 go_quiet (fail)
 go_wp2_with fail
 go_meet
 exact ⟨by rw [b1,b2,b4];rfl,nq,rfl⟩):p:=h
theorem Jm (h:p:=by
 unfold O4;split
 ·rfl
 ·simp only;split
  ·exact (ee _).Ow
  ·rfl):p:=h
theorem Jl (h:p:=by
 subst g;split
 ·rename_i e1;subst e1;omega
 ·show X.pl (T.nd j)<=_;omega):p:=h
theorem Jk (h:p:=by
 obtain ⟨e1,e2,e3⟩:=hg.V j u c2 l2 b2 e;exact ⟨e1,e2.mono hle.L,e3⟩):p:=h
theorem Jj (h:p:=by
 generalize sj.Oz.length=sl at *;go_wp2_with fail
 go_meet
 exact ⟨rfl,rfl⟩):p:=h
theorem Ji (h:p:=by
 obtain ⟨arr,c,h1,_⟩:=h.cut.map;rw [e,h.RL] at h1;simp [eD] at h1):p:=h
theorem Jh (h:p:=by
 refine aJ 34 ?_;refine iX ?_;go_wp2_with fail
 go_meet
 exact ⟨rfl,aD⟩):p:=h
theorem Jg (h:p:=by
 go_wp2_with fail
 go_ret
 rw [HW.out];exact ⟨by rw [UR.out];rfl,P7.out⟩):p:=h
theorem Jf (h:p:=by
 show ((S'.bring z e m).dl z e l).q.length<=_;rw [aX];omega):p:=h
theorem Je (h:p:=by
 go_wp2_with fail
 go_ret
 exact ⟨_,rfl,OW.nil _ _ _,aG _ _⟩):p:=h
theorem Jd (h:p:=by
 have:=(hG.gi.O7 _ _ (PD.UC i1.lead).1).2;rw [hMl] at this;exact this):p:=h
theorem Jc (h:p:=by
 rcases he g hm with h6 | h6
 ·exact h3 h6
 ·have:=bg h4;omega):p:=h
theorem Jb (h:p:=by
 as_aux_lemma =>
 go_wp2_with fail
 go_ret
 rw [Ug.out,HR.out];exact HF.out):p:=h
theorem Ja (h:p:=by
 clear k0 k1 k2 k3 PT;go_wp2_with fail
 go_ret
 exact ⟨b,rfl,HQ.out⟩):p:=h
theorem I9 (h:p:=by
 obtain ⟨i6,f6,_,_,h6,h7,h8⟩:=(hG.mi w (O1 w hw)).2.f;omega):p:=h
theorem I8 (h:p:=by
 subst h3;obtain rfl:l=[]:=bP.1 h1;simp at hj):p:=h
theorem I7 (h:p:=by
 cases hp:p x<;>cases hq:q x<;>simp [hp,hq] at h2 ⊢ <;> omega):p:=h
theorem I6 (h:p:=by
 go_wp2_with fail
 go_ret2
 rw [HE.out];exact Yk.none (H2.out.VJ M2.out)):p:=h
theorem I5 (h:p:=by
 intro j s;unfold bH;split
 ·exact ih (j+1) s
 ·grind [place]):p:=h
theorem I4 (h:p:=by
 rintro e w1 ⟨rfl,hr,ho⟩;go_wp2
 go_ret
 exact ⟨rfl,hr,ho⟩):p:=h
theorem I3 (h:p:=by
 rw [fV] at this ⊢;rw [hl];show (m:Int)<=k.room;omega):p:=h
theorem I1 (h:p:=by
 rw [h4];exact .inl ⟨rfl,aP _,λh=>⟨h,rfl⟩⟩):p:=h
theorem I0 (h:p:=by
 obtain ⟨⟨vr,ve,h1,_⟩,_⟩:=h.wl;rw [ap h1];rfl):p:=h
theorem IZ (h:p:=by
 by_cases hg:G.O7 (T.nd j).Ow=some j
 ·simp_all
 ·simp_all):p:=h
theorem D0 (h:p:=by
 rw [hg h3];simp [bT hf]):p:=h
theorem IY (h:p:=by
 go_wp2_with fail
 go_ret
 exact ⟨by rw [HF.out];rfl,Zx.out⟩):p:=h
theorem IX (h:p:=by
 go_wp2_with fail
 go_ret2
 exact ⟨by rw [HF.out];rfl,HG.out⟩):p:=h
theorem IW (h:p:=by
 rcases o with o | o | o
 ·omega
 ·exact ⟨o.2,o2⟩
 ·omega):p:=h
theorem MZ (h:p:=by
 obtain ⟨A2,Z2,h2,m2⟩:=p;exact ⟨A2,Z2,h.mv h2 m2⟩):p:=h
theorem DZ (h:p:=by
 exact ⟨h,λe=>by simp at e⟩):p:=h
theorem IV (h:p:=by
 rw [aW];split
 ·rw [cy];rfl
 ·rfl):p:=h
theorem IU (h:p:=by
 unfold Mn.OS;rw [dp,eZ];rfl):p:=h
theorem IR (h:p:=by
 exact Mv.only ho (λb hb=>(HZ.out b).2 (.inl (ht b hb).1))):p:=h
theorem IQ (h:p:=by
 exact i5 x (by rw [hq];exact aM _ hx) hk3):p:=h
theorem IP (h:p:=by
 rcases h with h | h
 ·rw [TE] at h;cases h
 ·exact h U9):p:=h
theorem IO (h:p:=by
 rcases w with ⟨w1,_⟩ | ⟨_,w2⟩
 ·omega
 ·exact w2):p:=h
theorem IM (h:p:=by
 exact ⟨rfl,by show ((s1.own:Nat):Int)=_;rw [g1]⟩):p:=h
theorem az (h:p:=by omega):p:=h
theorem dW (h:p:=by kernel_rfl):p:=h
theorem iI (h:p:=by rw [ap hcell];rfl):p:=h
theorem bL (h:p:=by simp):p:=h
theorem jn (h:p:=by rw [ap P0];rfl):p:=h
theorem mU (h:p:=by rw [ap h.cell];rfl):p:=h
theorem dZ (h:p:=by decide):p:=h
theorem rU (h:p:=by rw [ap h1];rfl):p:=h
theorem Bl (h:p:=by rw [hq];exact bd):p:=h
theorem yd (h:p:=by rw [aQ];omega):p:=h
theorem kE (h:p:=by unfold maxLen;omega):p:=h
theorem p8 (h:p:=by rw [OP.own,OP.nn];exact hi):p:=h
theorem gD (h:p:=by simp;omega):p:=h
theorem Hh (h:p:=by rw [oa];simp only [Nat.reduceMul,Nat.reduceSub,Nat.reducePow];omega):p:=h
theorem Et (h:p:=by unfold Cs.Ox;rw [dp,eZ];rfl):p:=h
theorem yg (h:p:=by rw [hq];exact aM _ hx):p:=h
theorem vP (h:p:=by rw [ap (aV _ _)];rfl):p:=h
theorem N3 (h:p:=by unfold Func.isWrapper;rw [am (by decide +kernel)];exact ⟨rfl,rfl⟩):p:=h
theorem Br (h:p:=by rw [HL.out];exact ah _):p:=h
theorem KZ (h:p:=by rintro e w' ⟨h1,h2⟩;exact ⟨h1,h2.trans (Mv.below hb)⟩):p:=h
theorem yf (h:p:=by rw [ap h2.cell];rfl):p:=h
theorem KY (h:p:=by have f1:(p:Int)<=(s.Oz.length:Int):=f1;omega):p:=h
theorem Bq (h:p:=by rw [ap hlc.cell];rfl):p:=h
theorem Nn (h:p:=by unfold OV at hc;simp only [bu,bb] at hc;exact hc.2):p:=h
theorem Nm (h:p:=by obtain ⟨G,hG⟩:=hw;exact λi hi=>⟨(hG.ni i hi).own,(hG.ni i hi).nn⟩):p:=h
theorem Nk (h:p:=by rw [show (i:Int)+1 - 1=(i:Int) by omega];exact IntWalk.i64_in _ (by omega)):p:=h
theorem Hg (h:p:=by obtain ⟨G,hG⟩:=h.wk;exact hG.up):p:=h
theorem Hf (h:p:=by obtain ⟨G,hG⟩:=hw;exact hG.up):p:=h
theorem KX (h:p:=by rw [aj.1 hm] at hb;rw [hb];simp):p:=h
theorem ye (h:p:=by rw [<-hu];exact hi):p:=h
theorem He (h:p:=by have:=hc.cnt5 (by omega) hi;omega):p:=h
theorem Hd (h:p:=by rw [ap (h.one i hi),hu];rfl):p:=h
theorem Bp (h:p:=by rw [bf,ay rfl]):p:=h
theorem ud (h:p:=by simpa using hm):p:=h
theorem Es (h:p:=by rw [cH];omega):p:=h
theorem Er (h:p:=by rw [ap HXC.out];rfl):p:=h
theorem kD (h:p:=by cases h):p:=h
theorem Nj (h:p:=by rw [hnl2,P9];simp only [bk,if_false];omega):p:=h
theorem Ni (h:p:=by unfold Mn.OS;rw [dp,eZ];rfl):p:=h
theorem KW (h:p:=by show (s.Oy&&_)=false;rw [h1];rfl):p:=h
theorem KV (h:p:=by show ¬jJ s m=true;rw [h];decide):p:=h
theorem Hc (h:p:=by rw [ap VB.out.hf];rfl):p:=h
theorem KU (h:p:=by rw [aj.1 hb];exact h.rR):p:=h
theorem Nh (h:p:=by rw [TS];show (((S.nd c).own:Nat):Int)=_;rw [UY.1]):p:=h
theorem KT (h:p:=by rw [<-u1];rw [a1.up] at hu;exact hu):p:=h
theorem Hb (h:p:=by unfold X.agree;split<;>rfl):p:=h
theorem KR (h:p:=by unfold fq at e1;simpa using e1.symm):p:=h
theorem KQ (h:p:=by show S1.up l=true;rw [u1];exact l1):p:=h
theorem Bo (h:p:=by simpa using h1):p:=h
theorem Ha (h:p:=by show (0:Int)<=_;decide):p:=h
theorem Ep (h:p:=by rw [ap H1];rfl):p:=h
theorem G9 (h:p:=by rw [List.length_zip];omega):p:=h
theorem mT (h:p:=by cases k):p:=h
theorem vO (h:p:=by rw [TS];rfl):p:=h
theorem Bn (h:p:=by rw [hu];exact hi):p:=h
theorem KP (h:p:=by unfold wm;rw [am (by omega)]):p:=h
theorem KO (h:p:=by rw [ap (h.one i hi)];rfl):p:=h
theorem KN (h:p:=by rcases RX with g | g<;>omega):p:=h
theorem Eo (h:p:=by simp [List.getD,h]):p:=h
theorem KM (h:p:=by show rec.length<=8000;omega):p:=h
theorem G8 (h:p:=by rw [<-h.up];exact hi):p:=h
theorem Bm (h:p:=by rw [hz2];omega):p:=h
theorem KL (h:p:=by rw [aE];omega):p:=h
theorem G7 (h:p:=by rw [ap k1];rfl):p:=h
theorem G6 (h:p:=by rw [HL.out];exact hlt):p:=h
theorem G5 (h:p:=by simp [Value.ownBlock]):p:=h
theorem KK (h:p:=by decide +kernel):p:=h
theorem G4 (h:p:=by rw [ap h];rfl):p:=h
theorem G3 (h:p:=by rw [<-e3];exact f2):p:=h
theorem uc (h:p:=by simp [hb]):p:=h
theorem GZ (h:p:=by simpa using hrP.symm):p:=h
theorem GY (h:p:=by exact ah _):p:=h
theorem GX (h:p:=by rw [PD];exact hfn):p:=h
theorem En (h:p:=by simpa using hk):p:=h
theorem El (h:p:=by simpa using hi):p:=h
theorem Ek (h:p:=by simpa using hb):p:=h
theorem jy (h:p:=by rfl):p:=h
theorem Ej (h:p:=by rw [hz1];rfl):p:=h
end
def bv (x:UInt8):Value:=.int .u8 (x.toNat:Int)
structure Pg (w:World) (ao:Option Addr) (n c:Nat) (l:List UInt8):Prop where
 len:l.length=n
 nil:ao=none->n=0/\c=0
 at_:n=0\/∃b off,ao=some ⟨b,off,none⟩/\∀i,i<n->w.cell? ⟨b,off+i,none⟩=some (.int .u8 ((l.getD i 0).toNat:Int))
structure IsBB (w:World) (ao:Option Addr) (n:Nat) (ls:List (List UInt8)):Prop where
 len:ls.length=n
 at_:n=0\/∃b off,ao=some ⟨b,off,none⟩/\∀i,i<n->∃a m c,w.cell? ⟨b,off+i,none⟩=some (.slice a m c)/\Pg w a m c (ls.getD i [])/\m<=140737488351232
theorem Pg.below {w w':World} {ao:Option Addr} {n c:Nat} {l:List UInt8} (h:Pg w ao n c l) (hb:Below w.heap.size w w'):Pg w' ao n c l:=MU
theorem Pg.alloc {w:World} {ao:Option Addr} {n c:Nat} {l:List UInt8} (h:Pg w ao n c l) (o:Obj):Pg (w.alloc o) ao n c l :=
 h.below ((aG _ _).alloc (ah _) o)
theorem Pg.WV {w w':World} {ao:Option Addr} {n c:Nat} {l:List UInt8} (h:Pg w ao n c l) (hw:w'.heap=w.heap):Pg w' ao n c l:=by
 obtain ⟨h1,h2,h3⟩:=h;refine ⟨h1,h2,?_⟩;rcases h3 with h3 | ⟨b,off,h4,h5⟩
 ·exact .inl h3
 ·exact .inr ⟨b,off,h4,λi hi=>(World.cell?_of_block (by rw [hw])).trans (h5 i hi)⟩
theorem ot {w:World} {ao:Option Addr} {n c:Nat} {l:List UInt8} (h:Pg w ao n c l) (k:Nat) (hk:k<=n):Pg w ao k c (l.take k):=by
 obtain ⟨h1,h2,h3⟩:=h;refine ⟨by rw [aQ,h1];omega,(λe=>⟨by have:=(h2 e).1;omega,(h2 e).2⟩),?_⟩;rcases h3 with h3 | ⟨b,off,h4,h5⟩
 ·exact .inl az
 ·refine .inr ⟨b,off,h4,λi hi=>?_⟩;rw [h5 i az];simp [hi]
theorem lj {w:World} {b off n c:Nat} {l:List UInt8} (h:Pg w (some ⟨b,off,none⟩) n c l) (k c':Nat) (hk:k<=n):Pg w (some ⟨b,off+k,none⟩) (n - k) c' (l.drop k):=by
 obtain ⟨h1,h2,h3⟩:=h;refine ⟨by rw [cH,h1],(λe=>by cases e),?_⟩;rcases h3 with h3 | ⟨b',off',h4,h5⟩
 ·exact .inl az
 ·cases h4;refine .inr ⟨b,off+k,rfl,λi hi=>?_⟩;rw [Nat.add_assoc,h5 (k+i) az];simp [Oe]
theorem ri {w:World} {p:Addr} (c:Nat):Pg w (some p) 0 c []:=⟨rfl,(λe=>by cases e),.inl rfl⟩
theorem hZ (w:World):Pg w none 0 0 []:=⟨rfl,λ_=>⟨rfl,rfl⟩,.inl rfl⟩
theorem uj (w:World) (l:List UInt8) (vs:Array Value) (hv:vs=(l.map bv).toArray) (t:TypeId) (fr:Nat×Nat) (H:Nat) (hH:H=w.heap.size) (n:Nat) (hn:l.length=n) (c:Nat) :
  Pg (w.alloc (.cells vs t fr)) (some ⟨H,0,none⟩) n c l:=by
 subst hH hv hn;refine ⟨rfl,(λh=>by cases h),.inr ⟨_,_,rfl,λi hi=>?_⟩⟩;rw [World.cell?_alloc_mark];simp [hi,bv]
theorem Hu {w:World} {base:Nat} {e:TypeId} {v:Value} {n:Nat} {l:List UInt8} (h:w.ownsRow base e 1 v n (l.map bv)) :
  ∃ao c,v = .slice ao n c/\Pg w ao n c l:=by
 obtain ⟨h1,h2⟩:=h;have hl:l.length=n:=Bo;rcases h2 with ⟨rfl,rfl⟩ | ⟨g,cap,cur,rfl,hg,hh,hn,hm,hs,ht⟩
 ·exact JS
 ·refine ⟨_,cap,rfl,hl,(λh=>by cases h),.inr ⟨g,0,rfl,λi hi=>?_⟩⟩;have:cur.toList[i]? = some (bv (l.getD i 0)):=by
   have h3:(cur.toList.take (n*1))[i]? = (l.map bv)[i]? := by rw [ht]
   exact Mz
  simp only [World.cell?,hh,cB];simpa [bv] using this
def OW (w:World) (base:Nat) (e:TypeId) (v:Value) (l:List UInt8):Prop:=w.ownsRow base e 1 v l.length (l.map bv)
theorem OW.nil (w:World) (base:Nat) (e:TypeId):OW w base e (.slice none 0 0) []:=World.ownsRow_nil _ _ _ _
theorem OW.alloc {w:World} {base:Nat} {e:TypeId} {v:Value} {l:List UInt8} (h:OW w base e v l) (o:Obj):OW (w.alloc o) base e v l:=World.ownsRow.alloc h o
theorem OW.S9 {w:World} {base:Nat} {e:TypeId} {v:Value} {l:List UInt8} (h:OW w base e v l):∃ao c,v = .slice ao l.length c/\Pg w ao l.length c l:=Hu h
theorem OW.lt {w:World} {base:Nat} {e:TypeId} {v:Value} {l:List UInt8} (h:OW w base e v l):∀k,v.ownBlock=some k->base<=k/\k<w.heap.size:=World.ownsRow.lt h
theorem OW.mono {w:World} {base base':Nat} {e:TypeId} {v:Value} {l:List UInt8} (h:OW w base e v l) (hb:base'<=base):OW w base' e v l:=MR
theorem OW.new (w:World) (base:Nat) (e:TypeId) (l:List UInt8) (vs:Array Value) (hv:vs=(l.map bv).toArray) (H:Nat) (hH:H=w.heap.size) (hb:base<=w.heap.size) (n:Nat) (hn:l.length=n) (hm:n<=140737488355328) :
 OW (w.alloc (.cells vs e)) base e (.slice (some ⟨H,0,none⟩) n n) l:=Mx
theorem dm {P:Program} {w:World} {ops:Array Oper} {rest:List Oper} {o:Oper} {a:Act} {Q:Exit->Act->World->Prop} (hgd:o.guard=none) (s x:Operand) (t:TypeId)
  (ho:o.op = .call { callee:=.builtin .append,args:=#[s,x],argTypes:=#[t,t]})
  (base:Nat) (e:TypeId) (ht:P.underlying t=some (.slice e)) (hi:(P.info? e).map (λi=>(i.zero,i.size,i.bytes))=some (some (.int .u8 0),1,1))
  (v:Value) (l:List UInt8) (hs:a.eval s=v) (hown:OW w base e v l)
  (ao:Option Addr) (m c:Nat) (l2:List UInt8) (hx:a.eval x = .slice ao m c) (QX:Pg w ao m c l2)
  (hbytes:l.length+m<=140737488355328) (hbase:base<=w.heap.size)
  (h:∀v' w',OW w' base e v' (l++l2)->w.grownBy w' v.ownBlock->Below base w w'->wpList P ops Q rest (a.put o.dst v') w'):wpList P ops Q (o::rest) a w:=by
 obtain ⟨i0,Q4,hz0,hz1,hz2⟩:=info_parts hi;obtain ⟨h1,h2,h3⟩:=QX;have hb:∀w',w.grownBy w' v.ownBlock->Below base w w':=λw' hg=>(aG base w).grown hg hbase (λk hk=>(hown.lt k hk).1);unfold OW at hown h;cases ao with
 | none =>
  exact MY
 | some ad =>
  refine wpList_append_own w hgd s x t ho base e i0 (.int .u8 0) 1 1 ht Q4 hz0 hz1 hz2 rfl dZ v _ _ hs hown ad m c (l2.map bv) hx Bo ?_ ?_ kE az hbase ?_
  ·intro j u hj;rcases h3 with h3 | ⟨b,off,h4,h5⟩
   ·exact Md
   ·obtain rfl:ad=⟨b,off,none⟩:=by simpa using h4
    have PI:j<l2.length:=MA;exact Jt
  ·exact GQ
  ·exact MB
def iv (x:Int):Value:=.int .i64 x
structure Uf (w:World) (ao:Option Addr) (n c:Nat) (l:List Int):Prop where
 len:l.length=n
 nil:ao=none->n=0/\c=0
 at_:n=0\/∃b off,ao=some ⟨b,off,none⟩/\∀i,i<n->w.cell? ⟨b,off+i,none⟩=some (.int .i64 (l.getD i 0))
theorem Uf.below {w w':World} {ao:Option Addr} {n c:Nat} {l:List Int} (h:Uf w ao n c l) (hb:Below w.heap.size w w'):Uf w' ao n c l:=MU
theorem Uf.alloc {w:World} {ao:Option Addr} {n c:Nat} {l:List Int} (h:Uf w ao n c l) (o:Obj):Uf (w.alloc o) ao n c l :=
 h.below ((aG _ _).alloc (ah _) o)
theorem lO (w:World) (l:List Int) (vs:Array Value) (hv:vs=(l.map iv).toArray) (t:TypeId) (fr:Nat×Nat) (H:Nat) (hH:H=w.heap.size) (n:Nat) (hn:l.length=n) (c:Nat) :
  Uf (w.alloc (.cells vs t fr)) (some ⟨H,0,none⟩) n c l:=by
 subst hH hv hn;refine ⟨rfl,(λh=>by cases h),.inr ⟨_,_,rfl,λi hi=>?_⟩⟩;rw [World.cell?_alloc_mark];simp [hi,iv]
theorem Ht {w:World} {base:Nat} {e:TypeId} {v:Value} {n:Nat} {l:List Int} (h:w.ownsRow base e 1 v n (l.map iv)) :
  ∃ao c,v = .slice ao n c/\Uf w ao n c l:=by
 obtain ⟨h1,h2⟩:=h;have hl:l.length=n:=Bo;rcases h2 with ⟨rfl,rfl⟩ | ⟨g,cap,cur,rfl,hg,hh,hn,hm,hs,ht⟩
 ·exact JS
 ·refine ⟨_,cap,rfl,hl,(λh=>by cases h),.inr ⟨g,0,rfl,λi hi=>?_⟩⟩;have:cur.toList[i]? = some (iv (l.getD i 0)):=by
   have h3:(cur.toList.take (n*1))[i]? = (l.map iv)[i]? := by rw [ht]
   exact Mz
  simp only [World.cell?,hh,cB];simpa [iv] using this
def OX (w:World) (base:Nat) (e:TypeId) (v:Value) (l:List Int):Prop:=w.ownsRow base e 1 v l.length (l.map iv)
theorem OX.nil (w:World) (base:Nat) (e:TypeId):OX w base e (.slice none 0 0) []:=World.ownsRow_nil _ _ _ _
theorem OX.alloc {w:World} {base:Nat} {e:TypeId} {v:Value} {l:List Int} (h:OX w base e v l) (o:Obj):OX (w.alloc o) base e v l:=World.ownsRow.alloc h o
theorem OX.Xr {w:World} {base:Nat} {e:TypeId} {v:Value} {l:List Int} (h:OX w base e v l):∃ao c,v = .slice ao l.length c/\Uf w ao l.length c l:=Ht h
theorem OX.lt {w:World} {base:Nat} {e:TypeId} {v:Value} {l:List Int} (h:OX w base e v l):∀k,v.ownBlock=some k->base<=k/\k<w.heap.size:=World.ownsRow.lt h
theorem OX.below {w w':World} {base:Nat} {e:TypeId} {v:Value} {l:List Int} (h:OX w base e v l) (hb:Below w.heap.size w w'):OX w' base e v l:=N0
theorem OX.mono {w:World} {base base':Nat} {e:TypeId} {v:Value} {l:List Int} (h:OX w base e v l) (hb:base'<=base):OX w base' e v l:=MR
theorem OX.new (w:World) (base:Nat) (e:TypeId) (l:List Int) (vs:Array Value) (hv:vs=(l.map iv).toArray) (H:Nat) (hH:H=w.heap.size) (hb:base<=w.heap.size) (n:Nat) (hn:l.length=n) (hm:n<=140737488355328) :
 OX (w.alloc (.cells vs e)) base e (.slice (some ⟨H,0,none⟩) n n) l:=Mx
theorem ja {P:Program} {w:World} {ops:Array Oper} {rest:List Oper} {o:Oper} {a:Act} {Q:Exit->Act->World->Prop} (hgd:o.guard=none) (s x:Operand) (t:TypeId)
  (ho:o.op = .call { callee:=.builtin .append,args:=#[s,x],argTypes:=#[t,t]})
  (base:Nat) (e:TypeId) (ht:P.underlying t=some (.slice e)) (hi:(P.info? e).map (λi=>(i.zero,i.size,i.bytes))=some (some (.int .i64 0),1,8))
  (v:Value) (l:List Int) (hs:a.eval s=v) (hown:OX w base e v l)
  (ao:Option Addr) (m c:Nat) (l2:List Int) (hx:a.eval x = .slice ao m c) (QX:Uf w ao m c l2)
  (hbytes:l.length+m<=17592186044416) (hbase:base<=w.heap.size)
  (h:∀v' w',OX w' base e v' (l++l2)->w.grownBy w' v.ownBlock->Below base w w'->wpList P ops Q rest (a.put o.dst v') w'):wpList P ops Q (o::rest) a w:=by
 obtain ⟨i0,Q4,hz0,hz1,hz2⟩:=info_parts hi;obtain ⟨h1,h2,h3⟩:=QX;have hb:∀w',w.grownBy w' v.ownBlock->Below base w w':=λw' hg=>(aG base w).grown hg hbase (λk hk=>(hown.lt k hk).1);unfold OX at hown h;cases ao with
 | none =>
  exact MY
 | some ad =>
  refine wpList_append_own w hgd s x t ho base e i0 (.int .i64 0) 1 8 ht Q4 hz0 hz1 hz2 rfl dZ v _ _ hs hown ad m c (l2.map iv) hx Bo ?_ ?_ kE az hbase ?_
  ·intro j u hj;rcases h3 with h3 | ⟨b,off,h4,h5⟩
   ·exact Md
   ·obtain rfl:ad=⟨b,off,none⟩:=by simpa using h4
    have PI:j<l2.length:=MA;exact Jq
  ·exact GQ
  ·exact MB
structure Only (S:List Nat) (w w':World):Prop where
 os:w'.os=w.os
 tape:w'.tape=w.tape
 output:w'.output=w.output
 size:w.heap.size<=w'.heap.size
 block:∀k,k<w.heap.size->k∉S->w'.heap[k]? = w.heap[k]?
theorem Only.refl (S:List Nat) (w:World):Only S w w:=⟨rfl,rfl,rfl,ah _,λ_ _ _=>rfl⟩
theorem Only.trans {S:List Nat} {a b c:World} (h:Only S a b) (k:Only S b c):Only S a c :=
 ⟨k.os.trans h.os,k.tape.trans h.tape,k.output.trans h.output,aF h.size k.size,λi hi hs=>(k.block i (aK hi h.size) hs).trans (h.block i hi hs)⟩
theorem Only.mono {S T:List Nat} {w w':World} (h:Only S w w') (hst:∀k∈S,k∈T):Only T w w' :=
 ⟨h.os,h.tape,h.output,h.size,λk hk ht=>h.block k hk λhs=>ht (hst k hs)⟩
theorem Only.cut {S T:List Nat} {w w':World} (h:Only S w w') (hst:∀k∈S,k<w.heap.size->k∈T):Only T w w' :=
 ⟨h.os,h.tape,h.output,h.size,λk hk ht=>h.block k hk λhs=>ht (hst k hs hk)⟩
theorem Only.drew {S:List Nat} {a w:World} (h:Only S a w):Only S a w.drew:=⟨h.os,h.tape,h.output,h.size,h.block⟩
theorem Only.drewN {S:List Nat} {a w:World} (h:Only S a w) (n:Nat):Only S a (w.drewN n):=h.trans ⟨rfl,rfl,rfl,ah _,λ_ _ _=>rfl⟩
theorem Only.alloc {S:List Nat} {a w:World} (h:Only S a w) (o:Obj):Only S a (w.alloc o) :=
 h.trans ⟨rfl,rfl,rfl,by simp,λk hk _=>Below.heap_alloc _ _ _ hk⟩
theorem Only.setCell {S:List Nat} {a w:World} (h:Only S a w) {p:Addr} (hp:p.block∈S) (u:Value):Only S a (w.setCell p u) :=
 h.trans ⟨rfl,rfl,rfl,by simp [World.setCell],λk _ hk=>Below.heap_setCell _ _ _ _ (λe=>hk (e ▸ hp))⟩
theorem Only.OL {w w':World} (h:Below w.heap.size w w') (S:List Nat):Only S w w':=⟨h.os,h.tape,h.output,h.size,λk hk _=>h.block k hk⟩
theorem Only.below {S:List Nat} {w w':World} (h:Only S w w') {B:Nat} (hB:B<=w.heap.size) (hs:∀k∈S,B<=k):Below B w w' :=
 ⟨h.os,h.tape,h.output,h.size,λk hk=>h.block k (aK hk hB) λhm=>by have:=hs k hm;omega⟩
theorem Only.keeps {S:List Nat} {w w':World} (h:Only S w w') {k:Nat} {o:Obj} (hk:w.heap[k]? = some o) (hn:k∉S):w'.heap[k]? = some o:=by
 rw [h.block k (jN.1 hk).1 hn];exact hk
theorem Only.cell {S:List Nat} {w w':World} (h:Only S w w') {p:Addr} {v:Value} (hc:w.cell? p=some v) (hn:p.block∉S):w'.cell? p=some v :=
 (World.cell?_of_block (w:=w) (h.block p.block (World.block_lt_of_cell? w p hc) hn)).trans hc
theorem bg {w:World} {k:Nat} {o:Obj} (hk:w.heap[k]? = some o):k<w.heap.size:=(jN.1 hk).1
theorem ap {w:World} {k:Nat} {c:Array Value} {t:TypeId} {fr:Nat×Nat} (h:w.heap[k]? = some (.cells c t fr)) (i:Nat):w.cell? ⟨k,i,none⟩=c[i]? := by
 simp [World.cell?,h]
theorem aU {w:World} {k:Nat} {c:Array Value} {t:TypeId} (h:w.heap[k]? = some (.cells c t (0,0))) (i:Nat):w.frozen? ⟨k,i,none⟩=false:=by
 simp [World.frozen?,h]
theorem be {w:World} {k:Nat} {c:Array Value} {t:TypeId} (h:w.heap[k]? = some (.cells c t (0,0))) (i:Nat) (u:Value) :
 (w.setCell ⟨k,i,none⟩ u).heap[k]? = some (.cells (c.setIfInBounds i u) t (0,0)):=heap_setCell_same w k i c t u h
theorem aV (w:World) (o:Obj):(w.alloc o).heap[w.heap.size]? = some o:=heap_alloc_new w o
theorem bD {w:World} {k:Nat} {o:Obj} (h:w.heap[k]? = some o) (o':Obj):(w.alloc o').heap[k]? = some o:=(Only.refl [] w).alloc o' |>.keeps h bL
theorem mG {P:Program} {f:FuncId} {args:Array Value} {w:World} {n:Nat} {v:Value}
  (h:Calls P f args (w.drewN n) λe w'=>e = .returned v/\w.drewN n=w'):Calls P f args (w.drewN n) λe w''=>e = .returned v/\∃m,w''=w.drewN m :=
 h.mono λ_ _ ⟨he,hm⟩=>⟨he,n,hm.symm⟩
theorem J4 {P:Program} {o:Oper} {a:Act} {w:World} {K:Act->World->Prop} {Q Q':Exit->Act->World->Prop} (h:o.wp P a w K Q) (hq:∀c a w,Q (.panic c) a w->Q' (.panic c) a w) (ho:LetsOut Q->LetsOut Q'):o.wp P a w K Q':=by
 unfold Oper.wp at *;generalize (execOp a.eval o).run P w=r at *;unfold Oper.upon at *;split at h
 ·exact h
 ·exact h
 ·exact h
 ·refine h.mono ?_;intro e w' he;cases e with
  | returned v=>exact he
  | panicked c=>exact hq _ _ _ he
  | outgrown=>exact ho he
 ·exact h
 ·exact hq _ _ _ h
 ·exact h.elim
theorem d8 {P:Program} {w:World} {ops:Array Oper} {o:Oper} {a:Act} {K:Act->World->Prop} {Q:Exit->Act->World->Prop} {E:Prop} (hgd:o.guard=none)
  (h:∀Q':Exit->Act->World->Prop,(∀a' w',K a' w'->Q' .normal a' w')->wpList P ops Q' [o] a w) :
  if Region.wanted o (yielded ops a.tmps)=true then Oper.wp P o a w K Q else E:=by
 rw [ay (by simp [Region.wanted,hgd])];have hh:=h (λe a' w'=>match e with | .normal=>K a' w' | _=>False) (λ_ _ k=>k);unfold wpList at hh;rw [ay (by simp [Region.wanted,hgd])] at hh;rcases hh with hh | ⟨_,a',w',hh⟩
 ·exact J4 (Oper.wp_mono (λa w k=>k) hh) (λc a w hq=>hq.elim) (λ⟨a',w',h2⟩=>h2.elim)
 ·exact hh.elim
open Go.ChangeMaps Go.WideMaps Go.Maps
section
variable {P:Program} {w:World} {r bm since last OA:Nat} {ty:TypeId}
theorem zB {seen:Array Nat} (hr:w.heap[r]? = some (.mapIter (some bm) since seen last)) (hb:w.heap[bm]? = some (.map #[] OA)) :
  (Instr.next (.pointer (some ⟨r,0,none⟩)) false ty).run P w = .ok (.tuple #[.bool false]) w:=by
 simp [Instr.next,getObj,Sem.run_bind,Sem.run,hr,hb,Result.andThen,choose,Question.forced]
theorem DP {e:MapEntry} (hr:w.heap[r]? = some (.mapIter (some bm) since #[] last)) (hb:w.heap[bm]? = some (.map #[e] OA)) (he:e.born<since) :
  (Instr.next (.pointer (some ⟨r,0,none⟩)) false ty).run P w = .ok (.tuple #[.bool true,e.key,e.val]) (setBlock w r (.mapIter (some bm) since #[e.born] OA)):=by
 have h1:¬since<=e.born:=az;have h2:(#[e].filter (λx=>decide (x.born<since)))=#[e]:=by simp [he]
 simp [Instr.next,getObj,setObj,Sem.run_bind,Sem.run,hr,hb,Result.andThen,choose,Question.forced,he,h1,setBlock]
theorem DQ {e:MapEntry} (hr:w.heap[r]? = some (.mapIter (some bm) since #[e.born] last)) (hb:w.heap[bm]? = some (.map #[e] OA)) (he:e.born<last) :
  (Instr.next (.pointer (some ⟨r,0,none⟩)) false ty).run P w = .ok (.tuple #[.bool false]) w:=by
 have h1:¬last<=e.born:=az;simp [Instr.next,getObj,Sem.run_bind,Sem.run,hr,hb,Result.andThen,choose,Question.forced,h1]
theorem BW {e:MapEntry} (hr:w.heap[r]? = some (.mapIter (some bm) since #[e.born] OA)) (hb:w.heap[bm]? = some (.map #[e] OA)) :
  (Instr.entry (.pointer (some ⟨r,0,none⟩))).run P w = .ok (.tuple #[e.key,e.val]) w:=by
 simp [Instr.entry,getObj,Sem.run_bind,Sem.run,hr,hb,Result.andThen]
end
end Go.Proofs.YtnhefallmioefaaGreat
namespace Go.Proofs.YtnhefallmioefaaGreat.Crc
def NP (c:BitVec 32):BitVec 32:=(c >>> 1) ^^^ (0xEDB88320#32 &&& (0#32 - (c &&& 1#32)))
def sw:Nat->BitVec 32->BitVec 32
 | 0,c=>c
 | n+1,c=>sw n (NP c)
def Ny (x:UInt8):BitVec 32:=BitVec.ofNat 32 x.toNat
def Ov (c:BitVec 32) (x:UInt8):BitVec 32:=sw 8 (c ^^^ Ny x)
def go (c:BitVec 32) (l:List UInt8):BitVec 32:=l.foldl Ov c
def LI:BitVec 32 := ~~~ 0#32
def wS (l:List UInt8):BitVec 32 := ~~~ (go LI l)
theorem xD (n:Nat) (c:BitVec 32):sw (n+1) c=NP (sw n c):=by
 induction n generalizing c with
 | zero=>rfl
 | succ n ih=>show sw (n+1) (NP c)=_;rw [ih];rfl
theorem sW (c:BitVec 32) (l m:List UInt8):go c (l++m)=go (go c l) m:=by simp [go]
theorem Km (a:BitVec 32) : ~~~ a=a ^^^ LI:=by unfold LI;rw [show (~~~ 0#32)=BitVec.allOnes 32 from by decide,BitVec.xor_allOnes]
def Om (T:List UInt8) (k:Nat):List UInt8:=T.take k++List.replicate (T.length - k) 0
end Go.Proofs.YtnhefallmioefaaGreat.Crc
namespace Go.Proofs.YtnhefallmioefaaGreat.F
open Go.Proofs.YtnhefallmioefaaGreat
open Go.RowKit
theorem nh (a b:BitVec 32):bits .xor .u32 (a.toNat:Int) (b.toNat:Int)=((a ^^^ b).toNat:Int):=by
 rw [u32_xor_nat _ _ a.isLt b.isLt,BitVec.toNat_xor]
theorem rH (a b:BitVec 32):bits .and .u32 (a.toNat:Int) (b.toNat:Int)=((a &&& b).toNat:Int):=by
 rw [u32_and_nat _ _ a.isLt b.isLt,BitVec.toNat_and]
theorem Dc (c:BitVec 32):bits .xor .u32 ((c.toNat:Int) / 2) (bits .and .u32 3988292384 (-bits .and .u32 (c.toNat:Int) 1 % 4294967296))=((Crc.NP c).toNat:Int):=by
 have h1:=rH c 1#32;have h2:((1#32).toNat:Int)=1:=rfl;rw [h2] at h1;have h3 : -((c &&& 1#32).toNat:Int) % 4294967296=((0#32 - (c &&& 1#32)).toNat:Int):=by
  have:=(c &&& 1#32).isLt;rw [BitVec.toNat_sub];simp only [lV];omega
 have h4:=rH 3988292384#32 (0#32 - (c &&& 1#32));have h5:((3988292384#32).toNat:Int)=3988292384:=rfl;rw [h5] at h4;have h6:(c.toNat:Int) / (2:Int)=((c >>> 1).toNat:Int):=by
  rw [BitVec.toNat_ushiftRight,Nat.shiftRight_eq_div_pow];omega
 rw [h1,h3,h4,h6,nh];rfl
theorem FD (c:BitVec 32) (x:UInt8):bits .xor .u32 (c.toNat:Int) ((x.toNat:Int) % 4294967296)=((c ^^^ Crc.Ny x).toNat:Int):=by
 have hx:=x.toNat_lt;have:(x.toNat:Int) % 4294967296=((Crc.Ny x).toNat:Int):=by
  unfold Crc.Ny;rw [lV];omega
 rw [this,nh]
theorem qT (c:BitVec 32):bits .xor .u32 IntKind.u32.max (c.toNat:Int)=((~~~ c).toNat:Int):=by
 have h:=nh (~~~ 0#32) c;have h5:(((~~~ 0#32:BitVec 32)).toNat:Int)=IntKind.u32.max:=dZ;rw [h5] at h;rw [h,Crc.Km c,BitVec.xor_comm];rfl
theorem oS (ls:List (List UInt8)) (k:Nat) (h:k<ls.length):(ls.take (k+1)).flatten=(ls.take k).flatten++ls.getD k []:=by
 rw [gU h,List.flatten_append];simp [h]
theorem qy (l:List UInt8) (k:Nat) (h:k<l.length):l.take (k+1)=l.take k++[l.getD k 0]:=by
 rw [gU h];simp [h]
theorem tF {a b:Int} (h:a=b):Value.int .u32 a=Value.int .u32 b:=by rw [h]
theorem zj {a b:Int} (h:a=b):Ending.returned (Value.int .u32 a) = .returned (Value.int .u32 b):=by rw [h]
theorem zw (len:Nat) (ls:List (List UInt8)) (b off cap:Nat) (w:World) (hlen:ls.length=len) (hm:len<=140737488351232)
  (hc:∀i,i<len->∃a n c,w.cell? ⟨b,off+i,none⟩=some (.slice a n c)/\Pg w a n c (ls.getD i [])/\n<=140737488351232) :
  Calls Tryz.prog 102 #[.slice (some ⟨b,off,none⟩) len cap] w λe w'=>e = .returned (.int .u32 ((Crc.wS ls.flatten).toNat:Int))/\w=w':=by
 have HL:=af hlen;clear hlen;go_enter Tryz.func102,Tryz.ntmps102
 go_wp2
 go_loop [3,10] (λc i=>∃k:Nat,k<=len/\i = .int .i64 k/\c = .int .u32 ((Crc.go Crc.LI (ls.take k).flatten).toNat:Int)) (λ_ i=>len - (intOf i).toNat)
 case atStart=>exact ⟨0,aH _,rfl,rfl⟩
 case round =>
  obtain ⟨k,hk,rfl,rfl⟩:=hrel;by_cases hlt:k<len
  ·obtain ⟨a,n,c,hcell,hb,hn⟩:=hc k hlt;have Rh:=oS ls k G6;generalize ls.getD k []=l at hb Rh;have HF:=af Rh;have HB:=af hb;clear hb Rh;go_wp2
   go_loop [3,16] (λc i=>∃j:Nat,j<=n/\i = .int .i64 j/\c = .int .u32 ((Crc.go (Crc.go Crc.LI (ls.take k).flatten) (l.take j)).toNat:Int)) (λ_ i=>n - (intOf i).toNat)
   case atStart=>exact ⟨0,aH _,rfl,rfl⟩
   case round =>
    obtain ⟨j,hj,rfl,rfl⟩:=hrel;by_cases hltj:j<n
    ·obtain ⟨hbl,_,hba⟩:=HB.out;rcases hba with h0 | ⟨b1,off1,rfl,hcb⟩
     ·omega
     have hcj:=hcb j hltj;have ht:=qy _ j (by rw [hbl];exact hltj);generalize l.getD j 0=x at hcj ht;have HT:=af ht;clear hcb hbl ht;go_wp2
     go_loop [3,24] (λc i=>∃t:Nat,t<=8/\i = .int .i64 t/\c = .int .u32 ((Crc.sw t (Crc.go (Crc.go Crc.LI (ls.take k).flatten) (l.take j) ^^^ Crc.Ny x)).toNat:Int)) (λ_ i=>8 - (intOf i).toNat)
     case atStart=>exact ⟨0,by omega,rfl,tF (FD _ _)⟩
     case round =>
      obtain ⟨t,ht,rfl,rfl⟩:=hrel;by_cases VT:t<8
      ·go_wp2
       go_round
       case rel=>exact ⟨t+1,by omega,by go_num,tF (by rw [Dc,Crc.xD])⟩
       case measure=>simp [intOf];omega
      ·go_wp2
       go_round
       case rel =>
        obtain rfl:t=8:=az;exact ⟨j+1,by omega,by go_num,tF (by rw [HT.out,Crc.sW];rfl)⟩
       case measure=>simp [intOf];omega
    ·go_wp2
     go_round
     case rel =>
      obtain rfl:j=n:=az;exact ⟨k+1,by omega,by go_num,tF (by rw [HF.out,Crc.sW,bE (l:=l) (by rw [HB.out.len];exact ah _)])⟩
     case measure=>simp [intOf];omega
  ·go_wp2
   go_ret
   obtain rfl:k=len:=az;exact ⟨zj (by rw [qT,bE Br];rfl),rfl⟩
theorem j7:(Tryz.prog.info? 5).map (λi=>(i.zero,i.size,i.bytes))=some (some (.int .u8 0),1,1):=dW
def b4 (c:BitVec 32) (i:Nat):UInt8:=UInt8.ofNat (c.toNat / 2 ^ (8*(3 - i)))
def oL (c:BitVec 32):List UInt8:=[b4 c 0,b4 c 1,b4 c 2,b4 c 3]
theorem qn (c:BitVec 32):(oL c).length=4:=rfl
theorem zZ (c:BitVec 32) (i:Nat) (hi:i<4) (d:Int) (hd:d=((2 ^ (8*(3 - i)):Nat):Int)):(c.toNat:Int) / d % 256=((b4 c i).toNat:Int):=by
 subst hd;unfold b4;rw [Od,Int.natCast_emod,Int.natCast_ediv];rfl
theorem Ix (c:BitVec 32):(c.toNat:Int) % 256=((b4 c 3).toNat:Int):=by
 have:=zZ c 3 dZ 1 dZ
 rwa [Int.ediv_one] at this
def qR (x0 x1 x2 x3:UInt8):BitVec 32:=BitVec.ofNat 32 (x0.toNat*16777216+x1.toNat*65536+x2.toNat*256+x3.toNat)
theorem oa (x0 x1 x2 x3:UInt8):(qR x0 x1 x2 x3).toNat=x0.toNat*16777216+x1.toNat*65536+x2.toNat*256+x3.toNat:=by
 unfold qR;have h0:=x0.toNat_lt;have h1:=x1.toNat_lt;have h2:=x2.toNat_lt;have h3:=x3.toNat_lt;rw [lV,Nat.mod_eq_of_lt az]
def kS (l:List UInt8) (i:Nat):BitVec 32:=qR (l.getD i 0) (l.getD (i+1) 0) (l.getD (i+2) 0) (l.getD (i+3) 0)
theorem Lu (c:BitVec 32):#[Value.int .u8 ((c.toNat:Int) / 16777216),Value.int .u8 ((c.toNat:Int) / 65536 % 256),Value.int .u8 ((c.toNat:Int) / 256 % 256),Value.int .u8 ((c.toNat:Int) % 256)]=((oL c).map bv).toArray:=by
 have hlt:=c.isLt;rw [show (c.toNat:Int) / 16777216=(c.toNat:Int) / 16777216 % 256 by omega,zZ c 0 dZ 16777216 dZ,zZ c 1 dZ 65536 dZ,zZ c 2 dZ 256 dZ,Ix c];rfl
theorem mM (base:Nat) (v:Value) (l:List UInt8) (c:BitVec 32) (w:World) (h:OW w base 5 v l) (hl:l.length<=70368744177664) (hb:base<=w.heap.size) :
  Calls Tryz.prog 104 #[v,.int .u32 (c.toNat:Int)] w λe w'=>∃v',e = .returned v'/\OW w' base 5 v' (l++oL c)/\Below base w w':=by
 have hlt:=c.isLt;have hc1:l.length+4<=140737488355328:=az;have HC:=af (Lu c);have HO:=af h;clear h;have h0:(0:Int)<=(c.toNat:Int):=az;have h1:(c.toNat:Int)<4294967296:=az;generalize (c.toNat:Int)=z at HC h0 h1;clear hlt;go_enter Tryz.func104,Tryz.ntmps104
 go_wp2_with (at_builtin;refine dm rfl _ _ 31 rfl base 5 Tryz.underlying31 j7 _ _ rfl (HO.out.alloc _) _ _ _ (oL c) rfl (uj _ (oL c) _ HC.out _ _ _ rfl 4 rfl _) hc1 gD ?_;intro v3 w3 P6 Vi hb4)
 go_ret
 exact ⟨_,rfl,P6,((aG _ _).alloc hb _).trans hb4⟩
theorem xU (a b k:Nat) (h:b<2 ^ k):a*2 ^ k ||| b=a*2 ^ k+b:=by
 have:=Nat.shiftLeft_add_eq_or_of_lt (i:=k) h a;rw [Nat.shiftLeft_eq] at this;exact this.symm
theorem Oo (x0 x1 x2 x3:UInt8):bits .or .u32 (bits .or .u32 (bits .or .u32 ((x0.toNat:Int) % 4294967296*16777216 % 4294967296) ((x1.toNat:Int) % 4294967296*65536 % 4294967296)) ((x2.toNat:Int) % 4294967296*256 % 4294967296)) ((x3.toNat:Int) % 4294967296)=((qR x0 x1 x2 x3).toNat:Int):=by
 have h0:=x0.toNat_lt;have h1:=x1.toNat_lt;have h2:=x2.toNat_lt;have h3:=x3.toNat_lt;rw [oa];generalize x0.toNat=a at *;generalize x1.toNat=b at *;generalize x2.toNat=c at *;generalize x3.toNat=d at *;rw [show (a:Int) % 4294967296*16777216 % 4294967296=((a*16777216:Nat):Int) by omega,show (b:Int) % 4294967296*65536 % 4294967296=((b*65536:Nat):Int) by omega,
  show (c:Int) % 4294967296*256 % 4294967296=((c*256:Nat):Int) by omega,show (d:Int) % 4294967296=((d:Nat):Int) by omega]
 have e1:a*16777216 ||| b*65536=a*16777216+b*65536:=xU a (b*65536) 24 az;have e2:(a*256+b)*65536 ||| c*256=(a*256+b)*65536+c*256:=xU _ (c*256) 16 az;have e3:(a*65536+b*256+c)*256 ||| d=(a*65536+b*256+c)*256+d:=xU _ d 8 az;rw [u32_or_nat _ _ az az,e1,show a*16777216+b*65536=(a*256+b)*65536 by omega,u32_or_nat _ _ az az,e2,
  show (a*256+b)*65536+c*256=(a*65536+b*256+c)*256 by omega,u32_or_nat _ _ az az,e3]
theorem yX (ao:Option Addr) (n cp:Nat) (l:List UInt8) (i:Nat) (w:World) (h:Pg w ao n cp l) (hn:n<=70368744177664) (hi:i+4<=n) :
  Calls Tryz.prog 101 #[.slice ao n cp,.int .i64 (i:Int)] w λe w'=>∃d,e = .returned (.int .u32 ((kS l i).toNat:Int))/\w'=w.drewN d:=by
 obtain ⟨b,off,rfl,hc⟩:∃b off,ao=some ⟨b,off,none⟩/\∀i,i<n->w.cell? ⟨b,off+i,none⟩=some (.int .u8 ((l.getD i 0).toNat:Int)):=by
  rcases h.at_ with h0 | h0
  ·omega
  ·exact h0
 have c0:=hc i az;have c1:=hc (i+1) az;have c2:=hc (i+2) az;have c3:=hc (i+3) az;clear h hc;have RX:=oa (l.getD i 0) (l.getD (i+1) 0) (l.getD (i+2) 0) (l.getD (i+3) 0);have HV:=af (show kS l i=qR (l.getD i 0) (l.getD (i+1) 0) (l.getD (i+2) 0) (l.getD (i+3) 0) from rfl);generalize l.getD i 0=x0 at *;generalize l.getD (i+1) 0=x1 at *;generalize l.getD (i+2) 0=x2 at *;generalize l.getD (i+3) 0=x3 at *;have HN:=af RX;clear RX;go_enter Tryz.func101,Tryz.ntmps101
 go_wp2_with fail
 go_quiet (fail)
 go_wp2_with fail
 go_ret
 exact ⟨nq,zj (by rw [HV.out];exact Oo _ _ _ _),rfl⟩
theorem dV (ao:Option Addr) (n c:Nat) (l:List UInt8) (w:World) (h:Pg w ao n c l) (hn:n<=70368744177664) :
  Calls Tryz.prog 48 #[.slice ao n c] w λe w'=>∃v',e = .returned v'/\OW w' w.heap.size 5 v' l/\Below w.heap.size w w':=by
 have hc0:([]:List UInt8).length+n<=140737488355328:=gD;have HO:=af h;clear h;have hnil:=λ(w:World)=>Lib.run_eql_slice_nil (P:=Tryz.prog) w 31 5 ao n c 0 0 Tryz.underlying31;cases ao with
 | none =>
  obtain ⟨rfl,rfl⟩:=HO.out.nil rfl;obtain rfl:l=[]:=bP.1 HO.out.len;go_enter Tryz.func48,Tryz.ntmps48
  exact Je
 | some a =>
  go_enter Tryz.func48,Tryz.ntmps48
  go_wp2_with (at_builtin;refine dm rfl _ _ 31 rfl w.heap.size 5 Tryz.underlying31 j7 _ [] rfl (OW.new _ _ _ [] _ rfl _ rfl GY 0 rfl dZ) _ _ _ _ rfl (HO.out.alloc _) hc0 bL ?_;intro v2 w2 hown2 hgr2 hb2;clear hgr2)
  go_ret
  exact ⟨_,rfl,by simpa using hown2,((aG _ _).alloc (ah _) _).trans hb2⟩
theorem E6 (n:Nat) (w:World) (hn:n<=70368744177664) :
  Calls Tryz.prog 112 #[.slice none 0 0,.int .i64 (n:Int)] w λe w'=>∃v',e = .returned v'/\OW w' w.heap.size 5 v' []/\Below w.heap.size w w':=by
 by_cases h0:n=0
 ·subst h0;go_enter Tryz.func112,Tryz.ntmps112
  exact Je
 ·obtain ⟨i0,Q4,hz0,hz1,hz2⟩:=info_parts j7;have hold:(Builtin.firstCells i0.size 0 (.slice none 0 0)).run Tryz.prog w.drew = .ok (#[]:Array Value) w.drew:=run_firstCells_none w.drew i0.size 0 0 0;have O0:Builtin.nextslicecap (0+n) 0*i0.bytes<=281474976710656:=by
   refine growslice_fits az ?_;rw [hz2];omega
  have hrz:=λty=>Lib.run_append_grow_zeros w 31 3 ty 5 i0 (.int .u8 0) .i64 .i64 Tryz.underlying31 Tryz.underlying3 Q4 hz0 none 0 0 [] hold n az az az az Bm O0;rw [cB] at hrz;have Qv:=grownCap_ge w n 0 5;have hle:=grownCap_le_maxLen w n 0 5 kE;have hcs:((([]:List Value).toArray++Builtin.zeroCells (Value.int .u8 0).cells n++Builtin.zeroCells (Value.int .u8 0).cells (grownCap w n 0 5 - n)):Array Value).size=grownCap w n 0 5:=by
   simp [Builtin.zeroCells,Value.cells];omega
  generalize ([]:List Value).toArray++Builtin.zeroCells (Value.int .u8 0).cells n++Builtin.zeroCells (Value.int .u8 0).cells (grownCap w n 0 5 - n)=cur at hrz hcs;generalize grownCap w n 0 5=G at hrz Qv hle hcs;have HC:=af hcs;have HR:=af hrz;clear O0 hold hcs hrz Q4 hz0 hz1 hz2;unfold maxLen at hle;have g0:(0:Int)<(n:Int):=az;go_enter Tryz.func112,Tryz.ntmps112
  go_wp2_with (at_builtin;refine Lib.wpList_append_run _ rfl _ _ _ _ rfl _ _ rfl rfl _ _ (HR.out _) ?_)
  go_ret
  refine ⟨_,rfl,⟨by simp,.inr ⟨_,_,_,rfl,ah _,aV w.drew _,by simp,by unfold maxLen;omega,by simpa using HC.out,by simp⟩⟩,((aG _ _).drew).alloc (ah _) _⟩
theorem wN (ls:List (List UInt8)) (k:Nat) (h:k<ls.length):(ls.take (k+1)).flatten.length=(ls.take k).flatten.length+(ls.getD k []).length:=by
 rw [oS ls k h,aE]
theorem zS (ls:List (List UInt8)) (k:Nat):(ls.take k).flatten.length<=ls.flatten.length:=by
 have:=congrArg List.length (congrArg List.flatten (eI k ls));rw [List.flatten_append,aE] at this;omega
theorem yQ (b off len cap:Nat) (ls:List (List UInt8)) (w:World) (hlen:ls.length=len) (hm:ls.flatten.length<=70368744177664) (hl9:len<=1000)
  (hc:∀i,i<len->∃a n c,w.cell? ⟨b,off+i,none⟩=some (.slice a n c)/\Pg w a n c (ls.getD i [])/\n<=140737488351232) :
  Calls Tryz.prog 105 #[.slice (some ⟨b,off,none⟩) len cap] w λe w'=>∃v',e = .returned v'/\OW w' w.heap.size 5 v' ls.flatten/\Below w.heap.size w w':=by
 have HC:=af hc;clear hc;have HL:=af hlen;clear hlen;go_enter Tryz.func105,Tryz.ntmps105
 go_wp2_with fail
 go_loop [3,11] (λc i=>∃k:Nat,k<=len/\i = .int .i64 (k:Int)/\c = .int .i64 (((ls.take k).flatten.length:Nat):Int)) (λ_ i=>len - (intOf i).toNat)
 case atStart=>exact ⟨0,aH _,rfl,rfl⟩
 case round =>
  obtain ⟨k,hk,rfl,rfl⟩:=hrel;by_cases hlt:k<len
  ·obtain ⟨a,n,c,hcell,hb,hn⟩:=HC.out k hlt;have Rh:=wN ls k G6;have hbl:=hb.len;have hle:=zS ls (k+1);rw [hbl] at Rh;rw [Rh] at hle;generalize (ls.take k).flatten.length=q at Rh hle;have HF:=af Rh;have hq:q+n<=70368744177664:=az;clear hb Rh hbl hle;go_wp2_with fail
   go_round
   case rel=>exact ⟨k+1,by omega,by go_num,by rw [HF.out];go_num⟩
   case measure=>simp [intOf];omega
  ·obtain rfl:k=len:=by omega
   rw [bE Br];generalize hq:ls.flatten.length=q at hm;have HQ:=af hq;clear hq;go_wp2_with fail
   refine (E6 q _ hm).mono ?_;rintro e w1 ⟨v1,rfl,hown1,hb1⟩;have HO:=af hown1;clear hown1;go_wp2_with fail
   go_loopw [6,27] (λv i wr=>∃j:Nat,j<=k/\i = .int .i64 (j:Int)/\OW wr w.heap.size 5 v (ls.take j).flatten/\Below w.heap.size w wr) (λ_ i _=>k - (intOf i).toNat)
   case atStart=>exact ⟨0,aH _,rfl,HO.out,hb1⟩
   case round =>
    clear hb1 HO;obtain ⟨j,hj,rfl,hown,hbl⟩:=hrel;by_cases R2:j<k
    ·obtain ⟨a,n,c,YY,hb,hn⟩:=HC.out j R2;have hcell:=cell_later hbl YY;have Rh:=wN ls j (by rw [HL.out];exact R2);have SJ:=oS ls j (by rw [HL.out];exact R2);have hbn:=hb.len;have hle:=zS ls (j+1);have hz:=hbl.size;have hc1:(ls.take j).flatten.length+n<=140737488355328:=by rw [hbn] at Rh;rw [HQ.out] at hle;omega
     have HB:=af (hb.below hbl);have HT:=af SJ;have HO:=af hown;clear hb Rh SJ hbn hle hown YY;go_wp2_with (at_builtin;refine dm rfl _ _ 31 rfl w.heap.size 5 Tryz.underlying31 j7 _ _ rfl HO.out _ _ _ _ rfl HB.out hc1 hz ?_;intro v2 w2 hown2 hgr2 hb2;clear hgr2)
     go_roundw
     case rel=>exact ⟨j+1,by omega,by go_num,by rw [HT.out];exact hown2,hbl.trans hb2⟩
     case measure=>simp [intOf];omega
    ·obtain rfl:j=k:=by omega
     rw [bE Br] at hown;go_wp2_with fail
     go_ret
     exact ⟨_,rfl,hown,hbl⟩
def eU (rec:List UInt8):List UInt8:=oL (BitVec.ofNat 32 rec.length)++oL (~~~ (BitVec.ofNat 32 rec.length))
def cM (rec:List UInt8):List UInt8:=eU rec++oL (Crc.wS (eU rec++rec))++rec
theorem lQ (rec:List UInt8):(eU rec).length=8:=rfl
theorem dG (rec:List UInt8):(cM rec).length=12+rec.length:=by
 unfold cM;rw [aE,aE,lQ,qn]
theorem oP (w:World) (a1:Option Addr) (n1 c1:Nat) (l1:List UInt8) (h1:Pg w a1 n1 c1 l1) (m1:n1<=140737488351232) (a2:Option Addr) (n2 c2:Nat) (l2:List UInt8) (h2:Pg w a2 n2 c2 l2) (m2:n2<=140737488351232) (t:TypeId) (fr:Nat×Nat) (H:Nat) (hH:H=w.heap.size) :
  ∀i,i<2->∃a n c,(w.alloc (.cells #[.slice a1 n1 c1,.slice a2 n2 c2] t fr)).cell? ⟨H,0+i,none⟩=some (.slice a n c)/\Pg (w.alloc (.cells #[.slice a1 n1 c1,.slice a2 n2 c2] t fr)) a n c ([l1,l2].getD i [])/\n<=140737488351232:=by
 subst hH;intro i hi;rcases (by omega:i=0\/i=1) with rfl | rfl
 ·exact ⟨a1,n1,c1,by rw [World.cell?_alloc_mark];rfl,h1.alloc _,m1⟩
 ·exact ⟨a2,n2,c2,by rw [World.cell?_alloc_mark];rfl,h2.alloc _,m2⟩
theorem tY {w:World} {base:Nat} {e:TypeId} {v:Value} {l:List UInt8} (h:OW w base e v l) (n:Nat) (hn:l.length=n) :
  ∃ao c,v = .slice ao n c/\Pg w ao n c l:=by
 subst hn;exact h.S9
theorem LZ (m:Nat) (h:m<4294967296):((BitVec.ofNat 32 m).toNat:Int)=(m:Int):=by
 rw [lV,Nat.mod_eq_of_lt az]
theorem xS (ao:Option Addr) (n c:Nat) (B:List UInt8) (ar:Option Addr) (m cr:Nat) (rec:List UInt8) (w:World) (h:Pg w ao n c B) (hr:Pg w ar m cr rec) (hn:n<=1099511627776) (hm:m<=20000) :
  Calls Tryz.prog 86 #[.slice ao n c,.slice ar m cr] w λe w'=>∃v',e = .returned (.tuple #[v',.int .i64 0])/\OW w' w.heap.size 5 v' (B++cM rec)/\Below w.heap.size w w':=by
 have Qp:=hr.len;have hlB:=h.len;have HB:=af h;clear h;have HR:=af hr;clear hr;have hc:=LZ m az;have YI:=qT (BitVec.ofNat 32 m);rw [hc] at YI;have HN:=af YI;clear YI;have HC:=af hc;clear hc;have HL:=af Qp;clear Qp;have HLB:=af hlB;clear hlB;go_enter Tryz.func86,Tryz.ntmps86
 go_wp2_with fail
 rw [<-HC.out];refine (mM w.heap.size (.slice none 0 0) [] (BitVec.ofNat 32 m) w (OW.nil _ _ _) dZ (ah _)).mono ?_;rw [HC.out];rintro e w1 ⟨v1,rfl,hown1,hb1⟩;rw [cC] at hown1;have Sm:=af hown1;clear hown1;have hsg:¬(IntKind.u32.signed=true):=dZ;go_wp2_with fail
 rw [HN.out];refine (mM w.heap.size v1 _ (~~~ (BitVec.ofNat 32 m)) w1 Sm.out (by rw [qn];decide) hb1.size).mono ?_;rintro e w2 ⟨v2,rfl,hown2,hb2⟩;have hhd:oL (BitVec.ofNat 32 m)++oL (~~~ (BitVec.ofNat 32 m))=eU rec:=by unfold eU;rw [HL.out]
 rw [hhd] at hown2;clear hhd;obtain ⟨a2,c2,rfl,hbs2⟩:=tY hown2 8 (lQ _);have Vz:Below w.heap.size w w2:=hb1.trans hb2;have hz2:=Vz.size;have H2:=af (oP w2 ao n c B (HB.out.below Vz) az a2 8 c2 (eU rec) hbs2 dZ 31 (0,0) w2.heap.size rfl);have Ws:=af hbs2;clear hown2 hbs2 hb1 hb2 Sm;go_wp2_with fail
 refine (yQ w2.heap.size 0 2 2 [B,eU rec] _ rfl (by simp only [List.flatten_cons,List.flatten_nil,aE,fp,lQ,HLB.out];omega) dZ H2.out).mono ?_;rintro e w3 ⟨v3,rfl,P6,hb3⟩;have hz3:w.heap.size<=w3.heap.size:=by have:=hb3.size;simp at this;omega
 have hB3:Below w.heap.size w w3:=(Vz.alloc hz2 _).trans (hb3.mono gD);have hS3:=(Ws.out.alloc (.cells #[.slice ao n c,.slice a2 8 c2] 31)).below hb3;rw [show [B,eU rec].flatten=B++eU rec from by simp] at P6;have H3:=af (oP w3 a2 8 c2 (eU rec) hS3 dZ ar m cr rec (HR.out.below hB3) az 31 (0,0) w3.heap.size rfl);have S5:=af (P6.mono (base':=w.heap.size) gD);clear P6 hb3 hS3 H2 Ws Vz hz2;go_wp2_with fail
 refine (zw 2 [eU rec,rec] w3.heap.size 0 2 _ rfl dZ H3.out).mono ?_;rintro e w4 ⟨rfl,rfl⟩;rw [show [eU rec,rec].flatten=eU rec++rec from by simp];go_wp2_with fail
 have hB4:Below w.heap.size w (w3.alloc (.cells #[.slice a2 8 c2,.slice ar m cr] 31)):=hB3.alloc hz3 _;have hl4:(B++eU rec).length<=70368744177664:=by rw [aE,lQ,HLB.out];omega
 refine (mM w.heap.size v3 _ (Crc.wS (eU rec++rec)) _ (S5.out.alloc _) hl4 gD).mono ?_;rintro e w5 ⟨v5,rfl,hown5,PA⟩;have hB5:Below w.heap.size w w5:=hB4.trans PA;have ZN:(B++eU rec++oL (Crc.wS (eU rec++rec))).length+m<=140737488355328:=by
  rw [aE,qn];omega
 have HR5:=af (HR.out.below hB5);have RJ:=af hown5;have HF:Hid ((B++eU rec++oL (Crc.wS (eU rec++rec)))++rec=B++cM rec):=af (by unfold cM;simp only [bS]);generalize B++eU rec++oL (Crc.wS (eU rec++rec))=B5 at HF RJ ZN;clear H3 S5 hB3 hB4 hl4 hown5 PA hz3;have hz5:=hB5.size;go_wp2_with (at_builtin;refine dm rfl _ _ 31 rfl w.heap.size 5 Tryz.underlying31 j7 _ _ rfl RJ.out _ _ _ _ rfl HR5.out ZN hz5 ?_;intro v6 w6 hown6 hgr6 SE;clear hgr6)
 go_ret2
 exact ⟨_,rfl,by rw [<-HF.out];exact hown6,hB5.trans SE⟩
theorem Dv (ao:Option Addr) (n c:Nat) (ar:Option Addr) (m cr:Nat) (w:World) (hm:20000<m) (hm9:m<=140737488351232) :
  Calls Tryz.prog 86 #[.slice ao n c,.slice ar m cr] w λe w'=>e = .returned (.tuple #[.slice none 0 0,.int .i64 2])/\w=w':=by
 go_enter Tryz.func86,Tryz.ntmps86
 go_wp2_with fail
 go_ret2
 exact ⟨rfl,rfl⟩
attribute [local go_sem ↓] Go.wp_at_zero Go.wp_at_succ
def eS (l:List UInt8):Nat×Nat :=
 if l.length<12 then (0,1)
 else if kS l 4 ≠ ~~~ (kS l 0)\/20000<(kS l 0).toNat then (0,2)
 else if l.length<12+(kS l 0).toNat then (0,1)
 else if Crc.wS (l.take 8++(l.drop 12).take (kS l 0).toNat)≠kS l 8 then (0,2)
 else (12+(kS l 0).toNat,0)
theorem LY (a b:BitVec 32):((a.toNat:Int) != (b.toNat:Int))=decide (a≠b):=by
 by_cases h:a=b
 ·subst h;simp
 ·have:¬(a.toNat:Int)=(b.toNat:Int):=λe=>h (BitVec.eq_of_toNat_eq az);rw [aO (show a≠b from h),bne_iff_ne];exact this
theorem B7 {B:Nat} {w w':World} (h:Below B w w') (o:Obj) {w2:World} (hh:w2.heap=(w'.alloc o).heap) (ho:w2.os=w'.os) (ht:w2.tape=w'.tape) (hp:w2.output=w'.output) (hB:B<=w'.heap.size:=by omega):Below B w w2:=by
 have h2:=h.alloc hB o;exact ⟨ho.trans h.os,ht.trans h.tape,hp.trans h.output,by rw [hh];exact h2.size,λk hk=>by rw [hh];exact h2.block k hk⟩
theorem xa {B:Nat} {w w':World} (h:Below B w w') (n:Nat):Below B w (w'.drewN n):=⟨h.os,h.tape,h.output,h.size,h.block⟩
def NR (r:Bool) (k:Nat) (e:Ending):Prop:=e = .returned (if r then .tuple #[.int .i64 0,.int .i64 2] else .tuple #[.int .i64 (12+(k:Int)),.int .i64 0])
theorem DR (b off n c k:Nat) (l:List UInt8) (nx x8 y:BitVec 32) (w:World) (hn:n<=70368744177664) (Si:n<=c) (Y9:12<=n) (hk:k<=20000) (VV:12+k<=n) (hc:c=12)
  (HB:Hid (Pg w (some ⟨b,off,none⟩) n c l)) (HX:Hid (bits BinOp.xor IntKind.u32 IntKind.u32.max (k:Int)=(nx.toNat:Int)))
  (A0:Hid (∀w',Pg w' (some ⟨b,off,none⟩) n c l->Calls Tryz.prog 101 #[.slice (some ⟨b,off,none⟩) n c,.int .i64 0] w' λe w''=>∃d,e = .returned (.int .u32 (k:Int))/\w''=w'.drewN d))
  (A4:Hid (∀w',Pg w' (some ⟨b,off,none⟩) n c l->Calls Tryz.prog 101 #[.slice (some ⟨b,off,none⟩) n c,.int .i64 4] w' λe w''=>∃d,e = .returned (.int .u32 (nx.toNat:Int))/\w''=w'.drewN d))
  (A8:Hid (∀w',Pg w' (some ⟨b,off,none⟩) n c l->Calls Tryz.prog 101 #[.slice (some ⟨b,off,none⟩) n c,.int .i64 8] w' λe w''=>∃d,e = .returned (.int .u32 (x8.toNat:Int))/\w''=w'.drewN d))
  (A2H:Hid (∀w',w'.heap=(w.alloc (.cells #[.slice (some ⟨b,off,none⟩) 8 c,.slice (some ⟨b,off,none⟩) 0 0] 31)).heap ->
   Calls Tryz.prog 102 #[.slice (some ⟨w.heap.size,0,none⟩) 2 2] w' λe w''=>e = .returned (.int .u32 (y.toNat:Int))/\w'=w'')) (r:Bool) (Vk:((y.toNat:Int) != (x8.toNat:Int))=r) :
  Calls Tryz.prog 84 #[.slice (some ⟨b,off,none⟩) n c] w λe w'=>NR r k e/\Below w.heap.size w w':=by
 have hsg:¬(IntKind.u32.signed=true):=dZ;have g1:((nx.toNat:Int) != (nx.toNat:Int))=false:=bL;have g2:(12:Int)<=(n:Int):=az;have g3:(k:Int)<=20000:=az;have g4:12+(k:Int)<=(n:Int):=az;subst hc;have q1:12+(k:Int)<=12:=az;have q2:(12:Int)<=max (12+(k:Int)) 0:=az;exact Nf
theorem Bh (b off n c k:Nat) (l:List UInt8) (nx x8 y:BitVec 32) (w:World) (hn:n<=70368744177664) (Si:n<=c) (Y9:12<=n) (hk:k<=20000) (VV:12+k<=n) (Ua:¬c=12)
  (HB:Hid (Pg w (some ⟨b,off,none⟩) n c l)) (HX:Hid (bits BinOp.xor IntKind.u32 IntKind.u32.max (k:Int)=(nx.toNat:Int)))
  (A0:Hid (∀w',Pg w' (some ⟨b,off,none⟩) n c l->Calls Tryz.prog 101 #[.slice (some ⟨b,off,none⟩) n c,.int .i64 0] w' λe w''=>∃d,e = .returned (.int .u32 (k:Int))/\w''=w'.drewN d))
  (A4:Hid (∀w',Pg w' (some ⟨b,off,none⟩) n c l->Calls Tryz.prog 101 #[.slice (some ⟨b,off,none⟩) n c,.int .i64 4] w' λe w''=>∃d,e = .returned (.int .u32 (nx.toNat:Int))/\w''=w'.drewN d))
  (A8:Hid (∀w',Pg w' (some ⟨b,off,none⟩) n c l->Calls Tryz.prog 101 #[.slice (some ⟨b,off,none⟩) n c,.int .i64 8] w' λe w''=>∃d,e = .returned (.int .u32 (x8.toNat:Int))/\w''=w'.drewN d))
  (A2H:Hid (∀w',w'.heap=(w.alloc (.cells #[.slice (some ⟨b,off,none⟩) 8 c,.slice (some ⟨b,off+12,none⟩) k (c - 12)] 31)).heap ->
   Calls Tryz.prog 102 #[.slice (some ⟨w.heap.size,0,none⟩) 2 2] w' λe w''=>e = .returned (.int .u32 (y.toNat:Int))/\w'=w'')) (r:Bool) (Vk:((y.toNat:Int) != (x8.toNat:Int))=r) :
  Calls Tryz.prog 84 #[.slice (some ⟨b,off,none⟩) n c] w λe w'=>NR r k e/\Below w.heap.size w w':=by
 have hsg:¬(IntKind.u32.signed=true):=dZ;have g1:((nx.toNat:Int) != (nx.toNat:Int))=false:=bL;have g2:(12:Int)<=(n:Int):=az;have g3:(k:Int)<=20000:=az;have g4:12+(k:Int)<=(n:Int):=az;exact Nf
theorem oe (ao:Option Addr) (n c:Nat) (l:List UInt8) (w:World) (h:Pg w ao n c l) (hn:n<=70368744177664) (Si:n<=c) :
  Calls Tryz.prog 84 #[.slice ao n c] w λe w'=>e = .returned (.tuple #[.int .i64 ((eS l).1:Int),.int .i64 ((eS l).2:Int)])/\Below w.heap.size w w':=by
 have hlen:=h.len;by_cases h1:n<12
 ·have hs:eS l=(0,1):=by unfold eS;rw [ay az]
  rw [hs];go_enter Tryz.func84,Tryz.ntmps84
  go_wp2_with fail
  go_ret2
  exact ⟨rfl,aG _ _⟩
 obtain ⟨b,off,rfl⟩:∃b off,ao=some ⟨b,off,none⟩:=by
  rcases h.at_ with h0 | ⟨b,off,h0,_⟩
  ·omega
  ·exact ⟨b,off,h0⟩
 have HB:=af h;clear h;have HL:=af hlen;clear hlen;have hx:=qT (kS l 0);have hne:=LY (kS l 4) (~~~ (kS l 0));have Sh:eS l=if kS l 4 ≠ ~~~ (kS l 0)\/20000<(kS l 0).toNat then (0,2)
   else if n<12+(kS l 0).toNat then (0,1)
   else if Crc.wS (l.take 8++(l.drop 12).take (kS l 0).toNat)≠kS l 8 then (0,2)
   else (12+(kS l 0).toNat,0):=by
  unfold eS;rw [HL.out,am az]
 have ha0:=λw' (hw:Pg w' (some ⟨b,off,none⟩) n c l)=>yX _ n c l 0 w' hw hn az;have ha4:=λw' (hw:Pg w' (some ⟨b,off,none⟩) n c l)=>yX _ n c l 4 w' hw hn az;have ha8:=λw' (hw:Pg w' (some ⟨b,off,none⟩) n c l)=>yX _ n c l 8 w' hw hn az;generalize kS l 0=x0 at *;generalize kS l 4=x4 at *;generalize kS l 8=x8 at *;have HX:=af hx;clear hx;have ZY:=af hne;clear hne;have A0:=af ha0;clear ha0;have A4:=af ha4;clear ha4;have A8:=af ha8;clear ha8;have hsg:¬(IntKind.u32.signed=true):=dZ;by_cases e4:x4 = ~~~ x0
 ·have hne:=ZY.out;rw [bp (show ¬(x4 ≠ ~~~ x0) from λh=>h e4)] at hne;have g4:((x4.toNat:Int) != bits BinOp.xor IntKind.u32 IntKind.u32.max (x0.toNat:Int))=false:=by rw [HX.out];exact hne
  clear hne ZY;by_cases g5:20000<x0.toNat
  ·rw [ay (.inr g5)] at Sh;rw [Sh];clear Sh e4;have g6:decide ((20000:Int)<(x0.toNat:Int))=true:=gD;exact KI
  rw [am (by simp only [not_or];exact ⟨λh=>h e4,g5⟩)] at Sh;by_cases g7:n<12+x0.toNat
  ·rw [ay g7] at Sh;rw [Sh];clear Sh e4;have g6:decide ((20000:Int)<(x0.toNat:Int))=false:=gD;generalize x0.toNat=k at *;exact KI
  rw [am g7] at Sh;subst e4;clear g4;generalize ~~~ x0=nx at HX A4;generalize x0.toNat=k at *;have A2:∀(a2:Option Addr) (n2 c2:Nat),Pg w a2 n2 c2 ((l.drop 12).take k)->n2<=140737488351232->∀w',w'.heap=(w.alloc (.cells #[.slice (some ⟨b,off,none⟩) 8 c,.slice a2 n2 c2] 31)).heap ->
    Calls Tryz.prog 102 #[.slice (some ⟨w.heap.size,0,none⟩) 2 2] w' λe w''=>e = .returned (.int .u32 ((Crc.wS (l.take 8++(l.drop 12).take k)).toNat:Int))/\w'=w'':=by
   intro a2 n2 c2 h2 Qb w' hw';have h3:=oP w (some ⟨b,off,none⟩) 8 c (l.take 8) (ot HB.out 8 az) dZ a2 n2 c2 _ h2 Qb 31 (0,0) w.heap.size rfl;have h4:=zw 2 [l.take 8,(l.drop 12).take k] w.heap.size 0 2 w' rfl dZ (λi hi=>by
    obtain ⟨a,n,c,q1,q2,q3⟩:=h3 i hi;exact ⟨a,n,c,(World.cell?_of_block (by rw [hw'])).trans q1,q2.WV hw',q3⟩)
   rw [show [l.take 8,(l.drop 12).take k].flatten=l.take 8++(l.drop 12).take k from by simp] at h4;exact h4
  have Vk:=LY (Crc.wS (l.take 8++(l.drop 12).take k)) x8;generalize Crc.wS (l.take 8++(l.drop 12).take k)=y at A2 Vk Sh;have Ro:∀e:Ending,NR (decide (y≠x8)) k e->e = .returned (.tuple #[.int .i64 ((eS l).1:Int),.int .i64 ((eS l).2:Int)]):=by
   intro e he;rw [Sh];unfold NR at he;by_cases hy:y=x8
   ·rw [bp (λh=>h hy)] at he;rw [am (λh=>h hy),he];simp
   ·rw [aO hy] at he;rw [ay hy,he];simp
  by_cases Ua:c=12
  ·have hz:Pg w (some ⟨b,off,none⟩) 0 0 ((l.drop 12).take k):=by
    obtain rfl:k=0:=az;rw [List.take_zero];exact ri 0
   exact (DR b off n c k l nx x8 y w hn Si az az az Ua HB HX A0 A4 A8 (af (A2 _ _ _ hz az)) _ Vk).mono λe w' ⟨h1,h2⟩=>⟨Ro e h1,h2⟩
  ·have hz:Pg w (some ⟨b,off+12,none⟩) k (c - 12) ((l.drop 12).take k):=ot (lj HB.out 12 (c - 12) az) k az;exact (Bh b off n c k l nx x8 y w hn Si az az az Ua HB HX A0 A4 A8 (af (A2 _ _ _ hz az)) _ Vk).mono λe w' ⟨h1,h2⟩=>⟨Ro e h1,h2⟩
 ·have hne:=ZY.out;rw [aO (show x4 ≠ ~~~ x0 from e4)] at hne;have g4:((x4.toNat:Int) != bits BinOp.xor IntKind.u32 IntKind.u32.max (x0.toNat:Int))=true:=by rw [HX.out];exact hne
  rw [ay (.inl e4)] at Sh;rw [Sh];clear Sh e4 hne ZY;exact KI
theorem EY:(Tryz.prog.info? 31).map (λi=>(i.zero,i.size,i.bytes))=some (some (.slice none 0 0),1,24):=dW
def iP (B:List UInt8):Nat->Nat->List (List UInt8)->List (List UInt8)×Nat×Nat
 | 0,k,ls=>(ls,k,0)
 | t+1,k,ls =>
  if B.length<=k then (ls,k,0)
  else if (eS (B.drop k)).2=0 then iP B t (k+(eS (B.drop k)).1) (ls++[((B.drop k).take (eS (B.drop k)).1).drop 12])
  else (ls,k,(eS (B.drop k)).2)
theorem mS (l:List UInt8) (h:(eS l).2=0):12<=(eS l).1/\(eS l).1<=l.length/\(eS l).1<=20012:=by
 unfold eS at h ⊢;by_cases h1:l.length<12
 ·rw [ay h1] at h;cases h
 ·rw [am h1] at h ⊢;by_cases h2:kS l 4 ≠ ~~~ (kS l 0)\/20000<(kS l 0).toNat
  ·rw [ay h2] at h;cases h
  ·rw [am h2] at h ⊢;by_cases h3:l.length<12+(kS l 0).toNat
   ·rw [ay h3] at h;cases h
   ·rw [am h3] at h ⊢;by_cases h4:Crc.wS (l.take 8++(l.drop 12).take (kS l 0).toNat)≠kS l 8
    ·rw [ay h4] at h;cases h
    ·rw [am h4];simp only;omega
theorem jR (B:List UInt8) (t k:Nat) (ls:List (List UInt8)) (h:B.length<=k):iP B t k ls=(ls,k,0):=by
 cases t with
 | zero=>rfl
 | succ t=>show (if _ then _ else _)=_;rw [ay h]
theorem mB (B:List UInt8) (t s k:Nat) (ls:List (List UInt8)) (ht:B.length<=k+t) (hs:B.length<=k+s):iP B t k ls=iP B s k ls:=by
 induction t generalizing s k ls with
 | zero=>rw [jR B 0 k ls az,jR B s k ls az]
 | succ t ih =>
  cases s with
  | zero=>rw [jR B 0 k ls az,jR B _ k ls az]
  | succ s =>
   show (if _ then _ else if _ then _ else _)=(if _ then _ else if _ then _ else _)
   by_cases h1:B.length<=k
   ·rw [ay h1,ay h1]
   ·rw [am h1,am h1];by_cases h2:(eS (B.drop k)).2=0
    ·rw [ay h2,ay h2];have:=(mS _ h2).1;exact ih s _ _ az az
    ·rw [am h2,am h2]
def di (B:List UInt8):List (List UInt8)×Nat×Nat:=iP B B.length 0 []
theorem xM (B:List UInt8) (k:Nat) (ls:List (List UInt8)) (h:k<B.length) (h0:(eS (B.drop k)).2=0) :
  iP B (B.length - k) k ls=iP B (B.length - (k+(eS (B.drop k)).1)) (k+(eS (B.drop k)).1) (ls++[((B.drop k).take (eS (B.drop k)).1).drop 12]):=by
 obtain ⟨t,ht⟩:∃t,B.length - k=t+1:=⟨B.length - k - 1,by omega⟩
 rw [ht];show (if _ then _ else if _ then _ else _)=_;rw [am az,ay h0];have:=(mS _ h0).1;exact mB B _ _ _ _ az az
theorem xL (B:List UInt8) (k:Nat) (ls:List (List UInt8)) (h:k<B.length) (h0:¬(eS (B.drop k)).2=0):iP B (B.length - k) k ls=(ls,k,(eS (B.drop k)).2):=by
 obtain ⟨t,ht⟩:∃t,B.length - k=t+1:=⟨B.length - k - 1,by omega⟩
 rw [ht];show (if _ then _ else if _ then _ else _)=_;rw [am az,am h0]
def LD (v:Value) (used how:Int) (e:Ending):Prop:=e = .returned (.tuple #[v,.int .i64 used,.int .i64 how])
end Go.Proofs.YtnhefallmioefaaGreat.F
namespace Go.Proofs.YtnhefallmioefaaGreat
open Go.RowKit Go.ChangeMaps Go.WideMaps Go.Maps
def gf:ByteArray:=⟨#[108,111,103]⟩
def JX:ByteArray:=⟨#[98,97,115,101]⟩
def oI (s:ByteArray):Prop:=(1<=s.size/\s.size<=20)/\∀(i:Nat) (h:i<s.size),33<=(s[i].toNat:Int)/\(s[i].toNat:Int)<=126
theorem lm:oI gf:=⟨by decide,λi hi=>by
 match i,hi with
 | 0,_=>exact ⟨show (33:Int)<=((108:UInt8).toNat:Int) by decide,show ((108:UInt8).toNat:Int)<=126 by decide⟩
 | 1,_=>exact ⟨show (33:Int)<=((111:UInt8).toNat:Int) by decide,show ((111:UInt8).toNat:Int)<=126 by decide⟩
 | 2,_=>exact ⟨show (33:Int)<=((103:UInt8).toNat:Int) by decide,show ((103:UInt8).toNat:Int)<=126 by decide⟩⟩
theorem BF:oI JX:=⟨by decide,λi hi=>by
 match i,hi with
 | 0,_=>exact ⟨show (33:Int)<=((98:UInt8).toNat:Int) by decide,show ((98:UInt8).toNat:Int)<=126 by decide⟩
 | 1,_=>exact ⟨show (33:Int)<=((97:UInt8).toNat:Int) by decide,show ((97:UInt8).toNat:Int)<=126 by decide⟩
 | 2,_=>exact ⟨show (33:Int)<=((115:UInt8).toNat:Int) by decide,show ((115:UInt8).toNat:Int)<=126 by decide⟩
 | 3,_=>exact ⟨show (33:Int)<=((101:UInt8).toNat:Int) by decide,show ((101:UInt8).toNat:Int)<=126 by decide⟩⟩
theorem E7 (s:ByteArray) (w:World) (h:oI s):Calls Tryz.prog 111 #[.string s] w λe w'=>e = .returned (.bool true)/\w=w':=by
 obtain ⟨⟨h1,h2⟩,h3⟩:=h;have H3:=af h3;have h1i:(1:Int)<=(s.size:Int):=az;have h2i:(s.size:Int)<=20:=az;clear h3;go_enter Tryz.func111,Tryz.ntmps111
 go_wp2_with fail
 go_loop [6] (λi=>∃k:Nat,k<=s.size/\i = .int .i64 (k:Int)) (λi=>s.size - (intOf i).toNat)
 case atStart=>exact ⟨0,by omega,rfl⟩
 case round =>
  obtain ⟨k,hk,rfl⟩:=hrel;by_cases hlt:k<s.size
  ·obtain ⟨g1,g2⟩:=H3.out k hlt;have g3:decide ((s[k].toNat:Int)<33)=false:=bp az;have g4:decide (126<(s[k].toNat:Int))=false:=bp az;clear g1 g2;go_wp2_with fail
   exact ⟨⟨k+1,by omega,by go_num⟩,by simp [intOf];omega⟩
  ·obtain rfl:k=s.size:=by omega
   exact oK
theorem mX:Keyed Tryz.prog 9:=string_keyed Tryz.underlying9
theorem j0 (s:ByteArray) (hs:s.size<=20):∃kl,keyOf Tryz.prog 9 (.string s)=some kl:=by
 unfold keyOf;have:s.size<=maxLen:=kE;simp [Tryz.underlying9,mapKey,this]
theorem F9 (w:World):(zeroValue 119).run Tryz.prog w = .ok (.pointer none) w:=dW
theorem zE {w:World} {mb c:Nat} (h:w.heap[mb]? = some (.map #[] c)) (s:ByteArray) (hs:s.size<=20) :
  (Instr.lookup 67 (.map (some mb)) (.string s) false).run Tryz.prog w = .ok (.pointer none) w:=by
 obtain ⟨kl,hkey⟩:=j0 s hs;rcases mX.find w hkey [] bL with ⟨h1,_⟩ | ⟨j,e,_,h2,_⟩
 ·exact Mc
 ·simp at h2
theorem vT {w:World} {mb c b:Nat} {s:ByteArray} {p:Value} (h:w.heap[mb]? = some (.map #[⟨.string s,p,b⟩] c)) (hs:s.size<=20) :
  (Instr.lookup 67 (.map (some mb)) (.string s) false).run Tryz.prog w = .ok p w:=by
 obtain ⟨kl,hkey⟩:=j0 s hs;rcases mX.find w hkey [⟨.string s,p,b⟩] (λe he=>by rw [aj.1 he];exact ⟨kl,hkey⟩) with ⟨_,h2⟩ | ⟨j,e,h1,h2,h3⟩
 ·exact absurd rfl (h2 ⟨.string s,p,b⟩ bL)
 ·have hj:j=0/\e=⟨.string s,p,b⟩:=by
   match j,h2 with
   | 0,h2=>simp at h2;exact ⟨rfl,h2.symm⟩
  obtain ⟨rfl,rfl⟩:=hj;simp [Instr.lookup,run_underlying Tryz.underlying67,MapKept.run_getObj_map h,mX.check w _ hkey,h1,Result.andThen]
theorem yl {w:World} {mb c b:Nat} {s t:ByteArray} {p:Value} (h:w.heap[mb]? = some (.map #[⟨.string s,p,b⟩] c)) (hs:s.size<=20) (ht:t.size<=20) (hst:s≠t) :
  (Instr.lookup 67 (.map (some mb)) (.string t) false).run Tryz.prog w = .ok (.pointer none) w:=by
 obtain ⟨kl,hkey⟩:=j0 t ht;obtain ⟨kl2,hkey2⟩:=j0 s hs;rcases mX.find w hkey [⟨.string s,p,b⟩] (λe he=>by rw [aj.1 he];exact ⟨kl2,hkey2⟩) with ⟨h1,_⟩ | ⟨j,e,h1,h2,h3⟩
 ·exact Mc
 ·match j,h2 with
  | 0,h2 =>
   simp at h2;rw [<-h2] at h3;simp at h3;exact absurd h3 hst
theorem GA {w:World} {mb c:Nat} (h:w.heap[mb]? = some (.map #[] c)) (s:ByteArray) (p:Value) (hs:s.size<=20) :
  (Instr.mapUpdate 67 (.map (some mb)) (.string s) p).run Tryz.prog w = .ok () (setBlock w mb (.map #[⟨.string s,p,c⟩] (c+1))):=by
 obtain ⟨kl,hkey⟩:=j0 s hs;have h1:(Instr.findKey 9 (.string s) (#[]:Array MapEntry).toList).run Tryz.prog w = .ok none w:=by
  rcases mX.find w hkey [] bL with ⟨h1,_⟩ | ⟨j,e,_,h2,_⟩
  ·exact h1
  ·simp at h2
 simp [Instr.mapUpdate,run_underlying Tryz.underlying67,MapKept.run_getObj_map h,mX.check w _ hkey,h1,MapKept.run_setObj_map _ h,Result.andThen,setBlock]
set_option maxRecDepth 20000
structure Dk where
 room:Int
 off:Bool
 lives:Int
 file:Option (List UInt8×Nat)
def Dk.total (s:Dk):Nat:=match s.file with | none=>0 | some (l,_)=>l.length
def Sa (w:World) (D:List Nat) (mb:Nat):Option (List UInt8×Nat)->Prop
 | none=>∃c,w.heap[mb]? = some (.map #[] c)
 | some (l,safe)=>∃c fb b0 v,w.heap[mb]? = some (.map #[⟨.string gf,.pointer (some ⟨fb,0,none⟩),b0⟩] c)/\b0<c/\fb∈D/\w.heap[fb]? = some (.cells #[v,.int .i64 (safe:Int)] 121 (0,0))/\OW w 0 5 v l/\∀k,v.ownBlock=some k->k∈D
structure O6 (w:World) (D:List Nat) (d:Nat) (s:Dk):Prop where
 ex:∃mb,w.heap[d]? = some (.cells #[.int .i64 s.room,.bool s.off,.int .i64 s.lives,.map (some mb)] 69 (0,0))/\mb∈D/\Sa w D mb s.file
 mem:d∈D
 lt:∀b∈D,b<w.heap.size
structure OY (D D':List Nat) (w w':World):Prop where
 only:Only D w w'
 gr:∀b∈D',b∈D\/w.heap.size<=b
 sub:∀b∈D,b∈D'
theorem OY.refl (D:List Nat) (w:World):OY D D w w:=⟨Only.refl _ _,λb h=>.inl h,λb h=>h⟩
theorem OY.trans {D D' D'':List Nat} {w w' w'':World} (h:OY D D' w w') (k:OY D' D'' w' w''):OY D D'' w w'' :=
 ⟨⟨k.only.os.trans h.only.os,k.only.tape.trans h.only.tape,k.only.output.trans h.only.output,aF h.only.size k.only.size,λi hi hs=>by
  refine (k.only.block i (aK hi h.only.size) (λhm=>?_)).trans (h.only.block i hi hs);rcases h.gr i hm with h1 | h1
  ·exact hs h1
  ·omega⟩,λb hb=>by
  rcases k.gr b hb with h1 | h1
  ·exact h.gr b h1
  ·exact .inr (aF h.only.size h1),λb hb=>k.sub b (h.sub b hb)⟩
theorem OY.Qg {D:List Nat} {w w':World} (h:Only D w w'):OY D D w w':=⟨h,λb h=>.inl h,λb h=>h⟩
theorem OY.QN {D:List Nat} {w w':World} (h:Below w.heap.size w w'):OY D D w w':=OY.Qg (Only.OL h D)
theorem bA {w w':World} {B j:Nat} {o:Obj} (hb:Below B w w') (hj:j<B) (h:w.heap[j]? = some o):w'.heap[j]? = some o:=(hb.block j hj).trans h
theorem j6 {w w':World} {S:List Nat} {ao:Option Addr} {n c:Nat} {l:List UInt8} (h:Pg w ao n c l) (ho:Only S w w') (hS:∀b off (i:Nat),ao=some ⟨b,off,none⟩/\i<n->b∉S):Pg w' ao n c l:=by
 obtain ⟨h1,h2,h3⟩:=h;refine ⟨h1,h2,?_⟩;rcases h3 with h3 | ⟨b,off,h4,h5⟩
 ·exact .inl h3
 ·refine .inr ⟨b,off,h4,λi hi=>?_⟩;have hc:=h5 i hi;have hlt:b<w.heap.size:=by
   unfold World.cell? at hc;cases hq:w.heap[b]? with
   | none=>rw [hq] at hc;simp at hc
   | some o=>exact bg hq
  rw [World.cell?_of_block (ho.block b hlt (hS b off i ⟨h4,hi⟩))];exact hc
theorem yu {w:World} {b off i n c:Nat} {ao:Option Addr} {l:List UInt8} {es:Array MapEntry} {q:Nat} (h:Pg w ao n c l) (hb:ao=some ⟨b,off,none⟩/\i<n) (hm:w.heap[b]? = some (.map es q)):False:=by
 obtain ⟨rfl,hi⟩:=hb;rcases h.at_ with h3 | ⟨b',off',h4,h5⟩
 ·omega
 ·cases h4;have hc:=h5 i hi;unfold World.cell? at hc;simp [hm] at hc
theorem bR {w w':World} {base:Nat} {e:TypeId} {k:Nat} {v:Value} {n:Nat} {xs:List Value} {S:List Nat} (h:w.ownsRow base e k v n xs) (ho:Only S w w') (hs:∀b,v.ownBlock=some b->b∉S):w'.ownsRow base e k v n xs:=by
 refine ⟨h.1,?_⟩;rcases h.2 with h2 | ⟨g,cap,cur,rfl,hg,hh,r⟩
 ·exact .inl h2
 ·exact .inr ⟨g,cap,cur,rfl,hg,ho.keeps hh (hs g rfl),r⟩
theorem Sa.keep {w w':World} {D S:List Nat} {mb:Nat} {f:Option (List UInt8×Nat)} (h:Sa w D mb f) (ho:Only S w w') (hm:mb∈D) (hS:∀b∈D,b∉S):Sa w' D mb f:=by
 cases f with
 | none =>
  obtain ⟨c,h1⟩:=h;exact ⟨c,ho.keeps h1 (hS _ hm)⟩
 | some p =>
  obtain ⟨c,fb,b0,v,h1,h2,h3,h4,h5,h6⟩:=h;exact ⟨c,fb,b0,v,ho.keeps h1 (hS _ hm),h2,h3,ho.keeps h4 (hS _ h3),bR h5 ho (λb hb=>hS _ (h6 b hb)),h6⟩
theorem O6.keep {w w':World} {D S:List Nat} {d:Nat} {s:Dk} (h:O6 w D d s) (ho:Only S w w') (hS:∀b∈D,b∉S):O6 w' D d s:=by
 obtain ⟨⟨mb,h1,h2,h3⟩,h4,h5⟩:=h;exact ⟨⟨mb,ho.keeps h1 (hS _ h4),h2,h3.keep ho h2 hS⟩,h4,λb hb=>aK (h5 b hb) ho.size⟩
theorem O6.below {w w':World} {D:List Nat} {d:Nat} {s:Dk} (h:O6 w D d s) (hb:Below w.heap.size w w'):O6 w' D d s:=h.keep (Only.OL hb []) (λb _=>by simp)
section
variable {w:World} {D:List Nat} {d:Nat} {s:Dk}
theorem pd (h:O6 w D d s):Calls Tryz.prog 49 #[.pointer (some ⟨d,0,none⟩)] w λe w'=>e = .returned (.bool (!s.off))/\w=w':=by
 obtain ⟨⟨mb,h1,_⟩,_⟩:=h;have hc:w.cell? ⟨d,1,none⟩=some (.bool s.off):=rU;go_enter Tryz.func49,Tryz.ntmps49
 exact oK
theorem iq (h:O6 w D d s):Calls Tryz.prog 35 #[.pointer (some ⟨d,0,none⟩)] w λe w'=>e = .returned (.int .i64 s.lives)/\w=w':=by
 obtain ⟨⟨mb,h1,_⟩,_⟩:=h;have hc:w.cell? ⟨d,2,none⟩=some (.int .i64 s.lives):=rU;go_enter Tryz.func35,Tryz.ntmps35
 exact oK
theorem yh (h:O6 w D d s) (ho:s.off=false) (H:Nat) (t:ByteArray) (hH:w.cell? ⟨H,0,none⟩=some (.string t)) (ht:oI t):Calls Tryz.prog 103 #[.pointer (some ⟨d,0,none⟩),.slice (some ⟨H,0,none⟩) 1 1] w λe w'=>e = .returned (.int .i64 0)/\w=w':=by
 obtain ⟨⟨mb,h1,_⟩,_⟩:=h;have hc:w.cell? ⟨d,1,none⟩=some (.bool false):=by rw [ap h1,ho];rfl
 have HG:=af (E7 t w ht);go_enter Tryz.func103,Tryz.ntmps103
 go_wp2_with fail
 go_loopw [6,13] (λ_ i wr=>wr=w/\∃k:Nat,k<=1/\i = .int .i64 (k:Int)) (λ_ i _=>1 - (intOf i).toNat)
 case atStart=>exact ⟨rfl,0,by omega,rfl⟩
 case round =>
  obtain ⟨rfl,k,hk,rfl⟩:=hrel;by_cases h0:k=0
  ·subst h0;go_wp2_with fail
   refine HG.out.mono ?_;rintro e w1 ⟨rfl,rfl⟩;go_wp2_with fail
   go_roundw
   case rel=>exact ⟨trivial,1,by omega,rfl⟩
   case measure=>simp [intOf]
  ·exact oK
theorem BV {mb:Nat} (h:O6 w D d s) (ho:s.off=false) (t:ByteArray) (ht:oI t) (h1:w.cell? ⟨d,3,none⟩=some (.map (some mb))) (hl:∀w',Below w.heap.size w w'->(Instr.lookup 67 (.map (some mb)) (.string t) false).run Tryz.prog w' = .ok (.pointer none) w') :
 Calls Tryz.prog 85 #[.pointer (some ⟨d,0,none⟩),.string t] w λe w'=>e = .returned (.tuple #[.pointer none,.int .i64 4])/\Below w.heap.size w w':=MW
theorem BU {mb fb:Nat} (h:O6 w D d s) (ho:s.off=false) (t:ByteArray) (ht:oI t) (h1:w.cell? ⟨d,3,none⟩=some (.map (some mb))) (hl:∀w',Below w.heap.size w w'->(Instr.lookup 67 (.map (some mb)) (.string t) false).run Tryz.prog w' = .ok (.pointer (some ⟨fb,0,none⟩)) w') :
 Calls Tryz.prog 85 #[.pointer (some ⟨d,0,none⟩),.string t] w λe w'=>e = .returned (.tuple #[.pointer (some ⟨fb,0,none⟩),.int .i64 0])/\Below w.heap.size w w':=MW
end
theorem pK (w:World) (r:Nat) (o:Obj) (h:r<w.heap.size):(setBlock w r o).heap[r]? = some o:=by
 unfold setBlock;simp [h]
theorem ma (w:World) (r:Nat) (o:Obj):Only [r] w (setBlock w r o):=by
 refine ⟨rfl,rfl,rfl,by simp [setBlock],λk _ hk=>?_⟩;unfold setBlock;rw [Array.getElem?_setIfInBounds_ne (by simp at hk;omega)]
def ol (w:World) (r:Nat):Nat:=match w.heap[r]? with | some (.mapIter _ _ seen _)=>if seen.size=0 then 1 else 0 | _=>0
theorem vU {w w':World} {r:Nat} (h:w'.heap[r]? = w.heap[r]?):ol w' r=ol w r:=by unfold ol;rw [h]
structure Iter1 (w w1 w2:World) (mb c:Nat) (e:MapEntry):Prop where
 range:(Instr.range 67 (.map (some mb))).run Tryz.prog w = .ok (.pointer (some ⟨w.heap.size,0,none⟩)) w1
 next:∀ty,(Instr.next (.pointer (some ⟨w.heap.size,0,none⟩)) false ty).run Tryz.prog w1 = .ok (.tuple #[.bool true,e.key,e.val]) w2
 entry:(Instr.entry (.pointer (some ⟨w.heap.size,0,none⟩))).run Tryz.prog w2 = .ok (.tuple #[e.key,e.val]) w2
 done:∀ty w3,w3.heap[w.heap.size]? = w2.heap[w.heap.size]? -> w3.heap[mb]? = w2.heap[mb]? -> (Instr.next (.pointer (some ⟨w.heap.size,0,none⟩)) false ty).run Tryz.prog w3 = .ok (.tuple #[.bool false]) w3
 b1:Below w.heap.size w w1
 b2:Below w.heap.size w w2
 sz:w2.heap.size=w.heap.size+1
 l1:ol w1 w.heap.size=1
 l2:ol w2 w.heap.size=0
theorem JT {w:World} {mb c:Nat} {e:MapEntry} (h:w.heap[mb]? = some (.map #[e] c)) (he:e.born<c):∃w1 w2,Iter1 w w1 w2 mb c e:=by
 have hlt:=bg h;have hn:=aV w (.mapIter (some mb) c #[] c);have hb1:(w.alloc (.mapIter (some mb) c #[] c)).heap[mb]? = some (.map #[e] c):=bD h _;have hsz:(w.alloc (.mapIter (some mb) c #[] c)).heap.size=w.heap.size+1:=bL;have ho:=ma (w.alloc (.mapIter (some mb) c #[] c)) w.heap.size (.mapIter (some mb) c #[e.born] c);have hb2:=ho.keeps hb1 gD;have hr2:=pK (w.alloc (.mapIter (some mb) c #[] c)) w.heap.size (.mapIter (some mb) c #[e.born] c) (by rw [hsz];omega);have Sx:Below w.heap.size w (w.alloc (.mapIter (some mb) c #[] c)):=(aG _ _).alloc (ah _) _;refine ⟨_,_,run_range_map w 67 9 119 mb #[e] c Tryz.underlying67 h,λty=>DP hn hb1 he,BW hr2 hb2,λty w3 hb hm=>?_,Sx,Sx.trans (ho.below (by rw [hsz];omega) bL),by simp [setBlock],by unfold ol;rw [hn];rfl,by unfold ol;rw [hr2];rfl⟩;have hr3:w3.heap[w.heap.size]? = some (.mapIter (some mb) c #[e.born] c):=hb.trans hr2;exact DQ hr3 (hm.trans hb2) he
theorem DB {w:World} {base:Nat} {e:TypeId} {v:Value} {l:List UInt8} (h:OW w base e v l):l.length<=9223372036854775807:=by
 rcases h.2 with ⟨_,h0⟩ | ⟨g,cap,cur,_,_,_,hn,hm,_⟩
 ·omega
 ·unfold maxLen at hm;omega
section
variable {w:World} {D:List Nat} {d:Nat} {s:Dk}
theorem sy (h:O6 w D d s):Calls Tryz.prog 116 #[.pointer (some ⟨d,0,none⟩)] w λe w'=>e = .returned (.int .i64 (s.total:Int))/\Below w.heap.size w w':=by
 obtain ⟨⟨mb,h1,_,hf⟩,_⟩:=h;have hc:w.cell? ⟨d,3,none⟩=some (.map (some mb)):=rU;cases Qc:s.file with
 | none =>
  have ht:s.total=0:=by unfold Dk.total;rw [Qc]
  rw [Qc] at hf;obtain ⟨c,hm⟩:=hf;have hr:=run_range_map (P:=Tryz.prog) w 67 9 119 mb #[] c Tryz.underlying67 hm;have hn:∀ty,(Instr.next (.pointer (some ⟨w.heap.size,0,none⟩)) false ty).run Tryz.prog (w.alloc (.mapIter (some mb) c #[] c)) = .ok (.tuple #[.bool false]) (w.alloc (.mapIter (some mb) c #[] c)):=λty=>zB (aV w _) (bD hm _);have HB:Hid (Below w.heap.size w (w.alloc (.mapIter (some mb) c #[] c))):=af ((aG _ _).alloc (ah _) _);rw [ht];generalize (w.alloc (.mapIter (some mb) c #[] c))=w1 at *;go_enter Tryz.func116,Tryz.ntmps116
  go_wp2_with fail
  go_loopw [3,5] (λv _ wr=>wr=w1/\v = .int .i64 0) (λ_ _ _=>0)
  case atStart=>exact ⟨rfl,rfl⟩
  case round =>
   obtain ⟨rfl,rfl⟩:=hrel;exact DW
 | some p =>
  obtain ⟨l,safe⟩:=p;have ht:s.total=l.length:=by unfold Dk.total;rw [Qc]
  rw [Qc] at hf;obtain ⟨c,fb,b0,v,hm,hb0,_,h4,h5,_⟩:=hf;obtain ⟨w1,w2,hI⟩:=JT hm hb0;have hlen:=DB h5;obtain ⟨ao,cp,rfl,_⟩:=h5.S9;have hr:=hI.range;have hn:=hI.next;have he:=hI.entry;have hd:∀ty,(Instr.next (.pointer (some ⟨w.heap.size,0,none⟩)) false ty).run Tryz.prog w2 = .ok (.tuple #[.bool false]) w2:=λty=>hI.done ty w2 rfl rfl;have hc0:w2.cell? ⟨fb,0,none⟩=some (.slice ao l.length cp):=by rw [ap (bA hI.b2 (bg h4) h4)];rfl
  have HB:=af hI.b2;rw [ht];have HL:=af (And.intro hI.l1 hI.l2);go_enter Tryz.func116,Tryz.ntmps116
  go_wp2_with fail
  go_loopw [3,5] (λv _ wr=>(wr=w1/\v = .int .i64 0)\/(wr=w2/\v = .int .i64 (l.length:Int))) (λ_ _ wr=>ol wr w.heap.size)
  case atStart=>exact .inl ⟨rfl,rfl⟩
  case round =>
   rcases hrel with ⟨rfl,rfl⟩ | ⟨rfl,rfl⟩
   ·go_wp2_with fail
    go_roundw
    case rel=>exact .inr ⟨trivial,by go_num⟩
    case measure=>rw [HL.out.1,HL.out.2];omega
   ·exact DW
end
end Go.Proofs.YtnhefallmioefaaGreat
