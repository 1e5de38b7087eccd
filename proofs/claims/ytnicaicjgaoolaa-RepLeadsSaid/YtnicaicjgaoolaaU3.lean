/-
  What the proof of the law leans on: contracts of the program's functions, one behind another. No condition.
-/
import Derived.Test.YtnicaicjgaoolaaU0
import Derived.Deep.AppendLies
import Derived.Laws.OwnMore
import Derived.OrdersHeld
import Derived.WalkKit
import Derived.Deep.RegionHeld
import Derived.Deep.DeepCutAuto
import Derived.Deep.CutBlock
import Derived.Deep.RegionHeld3
import Derived.Deep.RegionWith
import Derived.Deep.RegionLaw
import Derived.BigRegion
import Derived.Test.YtnicaicjgaoolaaU1
import Derived.Test.YtnicaicjgaoolaaU2
set_option linter.unusedVariables false
set_option linter.unusedSimpArgs false
namespace Go.Proofs.Ytnicaicjgaoolaa
open Go.RowKit
def Dg (w:World) (ao:Option Addr) (m:Nat) (news:List Value):Prop:=(ao=none/\m=0)\/∃ad,ao=some ad/\∀j u,news[j]? = some u->w.cell? (ad.add j)=some u
theorem jm {w w':World} {v:Value} (h:w.grownBy w' v.ownBlock):Only v.ownBlock.toList w w' :=
 ⟨h.os,h.tape,h.output,h.size,λk hk hn=>h.block k hk (λe=>hn (by rw [<-e];simp))⟩
theorem dw {w:World} {base n:Nat} {e:TypeId} {size:Nat} {v:Value} {xs:List Value} (h:w.ownsRow base e size v n xs):∃ao c,v = .slice ao n c/\n<=c/\c<=9223372036854775807:=by
 rcases h.2 with ⟨rfl,h0⟩ | ⟨g,cap,cur,rfl,_,_,hn,hm,_⟩
 ·exact ⟨none,0,by rw [h0],by omega,by decide⟩
 ·unfold maxLen at hm;exact ⟨_,cap,rfl,hn,by omega⟩
section
variable {P:Program} {w:World}
theorem mE (t ty e:TypeId) (i:TypeInfo) (z:Value) (size bytes:Nat) (ht:P.underlying t=some (.slice e)) (hi:P.info? e=some i) (hz:i.zero=some z)
  (hsize:i.size=size) (hby:i.bytes=bytes) (hzs:z.cells.size=size) (hsz:0<size)
  (v:Value) (n:Nat) (xs:List Value) (hown:w.ownsRow 0 e size v n xs)
  (ao:Option Addr) (m c:Nat) (hnil:ao=none->c=0) (news:List Value) (hl:news.length=m*size) (hsrc:Dg w ao m news) (h1:∀u∈news,u.oneCell'=true)
  (h63:n+m<=maxLen) (hbytes:(n+m)*bytes<=140737488355328) :
  ∃v' w',(Builtin.append_ #[t,t] ty #[v,.slice ao m c]).run P w = .ok v' w'/\w'.ownsRow 0 e size v' (n+m) (xs++news)/\Only v.ownBlock.toList w w' /\
   (∀k,v'.ownBlock=some k->v.ownBlock=some k\/w.heap.size<=k):=by
 rcases hsrc with ⟨rfl,rfl⟩ | ⟨ad,rfl,hnews⟩
 ·obtain rfl:c=0:=hnil rfl;obtain rfl:news=[]:=bC.1 (by simpa using hl);exact ⟨v,w,run_append_owned_none (P:=P) (w:=w) 0 t ty e i size ht hi v n xs hown,by simpa using hown,Only.refl _ _,λk hk=>.inl hk⟩
 ·obtain ⟨v',w',hr,h2,h3,_,h5⟩:=run_append_own_at (P:=P) w 0 t ty e i z size bytes ht hi hz hsize hby hzs hsz v n xs hown ad m c news hl hnews h1 h63 hbytes (aA _);refine ⟨v',w',hr,h2,jm h3,λk hk=>?_⟩;rcases h5 with h5 | h5
  ·exact .inl (by rw [<-h5];exact hk)
  ·right;rw [h5] at hk;cases hk;exact ah _
theorem d7 {ops:Array Oper} {rest:List Oper} {o:Oper} {a:Act} {Q:Exit->Act->World->Prop} (hgd:o.guard=none) (s x:Operand) (t:TypeId)
  (ho:o.op = .call { callee:=.builtin .append,args:=#[s,x],argTypes:=#[t,t]})
  (e:TypeId) (i:TypeInfo) (z:Value) (size bytes:Nat) (ht:P.underlying t=some (.slice e)) (hi:P.info? e=some i) (hz:i.zero=some z)
  (hsize:i.size=size) (hby:i.bytes=bytes) (hzs:z.cells.size=size) (hsz:0<size)
  (v:Value) (n:Nat) (xs:List Value) (hs:a.eval s=v) (hown:w.ownsRow 0 e size v n xs)
  (ao:Option Addr) (m c:Nat) (hx:a.eval x = .slice ao m c) (hnil:ao=none->c=0) (news:List Value) (hl:news.length=m*size) (hsrc:Dg w ao m news) (h1:∀u∈news,u.oneCell'=true)
  (h63:n+m<=maxLen) (hbytes:(n+m)*bytes<=140737488355328)
  (h:∀v' w',w'.ownsRow 0 e size v' (n+m) (xs++news)->Only v.ownBlock.toList w w'->(∀k,v'.ownBlock=some k->v.ownBlock=some k\/w.heap.size<=k)->wpList P ops Q rest (a.put o.dst v') w'):wpList P ops Q (o::rest) a w:=by
 obtain ⟨v',w',hr,h2,h3,h4⟩:=mE (w:=w) t o.type e i z size bytes ht hi hz hsize hby hzs hsz v n xs hown ao m c hnil news hl hsrc h1 h63 hbytes;refine wpList_plain hgd λK hK=>?_;unfold Oper.wp;simp [execOp,ho,resolve,invoke,builtin,hs,hx,hr,Result.andThen];exact hK _ _ (h v' w' h2 h3 h4)
theorem IsB.src {ao:Option Addr} {m c:Nat} {l:List UInt8} (h:IsB w ao m c l):Dg w ao m (l.map bv):=by
 obtain ⟨h1,h2,h3⟩:=h;cases ao with
 | none=>exact .inl ⟨rfl,(h2 rfl).1⟩
 | some ad =>
  refine .inr ⟨ad,rfl,λj u hj=>?_⟩;rcases h3 with h3 | ⟨b,off,h4,h5⟩
  ·subst h3;obtain rfl:l=[]:=bC.1 h1;simp at hj
  ·obtain rfl:ad=⟨b,off,none⟩:=by simpa using h4
   have hjl:j<l.length:=by
    rcases DJ j l.length with hlt | hge
    ·exact hlt
    ·simp [eF hge] at hj
   have:=h5 j (by omega);rw [Addr.add_lit,this];simp [hjl] at hj;simp [<-hj,hjl,bv]
theorem iy {ops:Array Oper} {rest:List Oper} {o:Oper} {a:Act} {Q:Exit->Act->World->Prop} (hgd:o.guard=none) (s x:Operand) (t:TypeId)
  (ho:o.op = .call { callee:=.builtin .append,args:=#[s,x],argTypes:=#[t,t]})
  (e:TypeId) (ht:P.underlying t=some (.slice e)) (hi:(P.info? e).map (λi=>(i.zero,i.size,i.bytes))=some (some (.int .u8 0),1,1))
  (v:Value) (l:List UInt8) (hs:a.eval s=v) (hown:OwnB w 0 e v l)
  (ao:Option Addr) (m c:Nat) (l2:List UInt8) (hx:a.eval x = .slice ao m c) (hsrc:IsB w ao m c l2) (hbytes:l.length+m<=140737488355328)
  (h:∀v' w',OwnB w' 0 e v' (l++l2)->Only v.ownBlock.toList w w'->(∀k,v'.ownBlock=some k->v.ownBlock=some k\/w.heap.size<=k)->wpList P ops Q rest (a.put o.dst v') w'):wpList P ops Q (o::rest) a w:=by
 obtain ⟨i0,hi0,hz0,hz1,hz2⟩:=info_parts hi;refine d7 hgd s x t ho e i0 (.int .u8 0) 1 1 ht hi0 hz0 hz1 hz2 rfl (by decide) v _ _ hs hown ao m c hx (λe=>(hsrc.nil e).2) (l2.map bv) (by rw [aQ,hsrc.len,Nat.mul_one]) hsrc.src ?_ (by unfold maxLen;omega) (by omega) ?_
 ·intro u hu;obtain ⟨y,_,rfl⟩:=gR.1 hu;rfl
 ·intro v' w' g1 g2 g3;refine h v' w' ?_ g2 g3;unfold OwnB;rw [ay,hsrc.len,bW];exact g1
end
section
variable {P:Program} {ops:Array Oper} {Q:Exit->Act->World->Prop} {md:Region.Mode} {S:World->Prop}
def CallsIf (P:Program) (ops:Array Oper) (S:World->Prop) (o:Oper) (v:Value) (a:Act):Prop :=
 Region.wanted o (yielded ops a.tmps)=true/\∀w,S w->∃f args,(execOp a.eval o).run P w = .ok (.enter f args) w/\Calls P f args w (λe w'=>e = .returned v/\w=w')
theorem CallsIf.wpOp {i:Nat} {o:Oper} {v:Value} {a:Act} (hi:ops[i]? = some o) (hy:CallsIf P ops S o v a)
  {K:Act->World->Prop} {w:World} (hS:S w) (h:K (a.put o.dst v) w):wpOp P ops Q i K a w:=by
 unfold Go.wpOp;simp only [hi];obtain ⟨hw,hv⟩:=hy;obtain ⟨f,args,h1,h2⟩:=hv w hS;simp only [hw,if_true,Oper.wp,h1,Oper.upon];refine .inl (h2.mono ?_);rintro e w' ⟨rfl,rfl⟩;exact h
theorem CallsIf.of_same {o:Oper} {v:Value} {a a':Act} (hy:CallsIf P ops S o v a) (he:execOp a'.eval o=execOp a.eval o)
  (hw:Region.wanted o (yielded ops a'.tmps)=Region.wanted o (yielded ops a.tmps)):CallsIf P ops S o v a':=by
 unfold CallsIf at *;rw [he,hw];exact hy
theorem u8 {j:Nat} {oi oj:Oper} {v:Value} (hj:ops[j]? = some oj) (hap:oi.apart ops oj=true)
  (hsi:∀cs b,oi.op ≠ .select cs b) (hsj:∀cs b,oj.op ≠ .select cs b)
  (hQ:∀c a w,Q (.panic c) (a.put oi.dst v) w->Q (.panic c) a w) {K:Act->World->Prop} {a:Act} {w:World}
  (hy:CallsIf P ops S oi v a) (h:wpOp P ops Q j K (a.put oi.dst v) w) :
  wpOp P ops Q j (λa' w'=>CallsIf P ops S oi v a'/\K (a'.put oi.dst v) w') a w:=by
 obtain ⟨h1,h2,h3⟩:=Oper.apart_spec hap;have keep:∀(a:Act),CallsIf P ops S oi v a->∀u,CallsIf P ops S oi v (a.put oj.dst u):=λa hy u =>
  hy.of_same (execOp_put oi hsi a oj.dst u h3) (wanted_put oi a oj.dst u h3)
 have keepD:∀d,CallsIf P ops S oi v { a with defers:=d::a.defers }:=λd=>hy.of_same rfl rfl;unfold wpOp at *;simp only [hj] at *;rw [wanted_put oj a oi.dst v h1] at h;split
 ·rename_i hw;simp only [hw,if_true] at h;rcases h with h | ⟨hasks,hlets⟩
  case inr=>exact .inr ⟨by unfold Oper.asks at *;rw [execOp_put oj hsj a oi.dst v h1] at hasks;exact hasks,hlets⟩
  refine .inl ?_;unfold Oper.wp at *;rw [execOp_put oj hsj a oi.dst v h1] at h;generalize (execOp a.eval oj).run P w=r at *;cases r with
  | ok n w' =>
   cases n<;>simp only [Oper.upon] at h ⊢
   case value u=>exact ⟨keep a hy u,by rw [<-Act.put_comm a v u h2];exact h⟩
   case skip=>exact ⟨keep a hy _,by rw [<-Act.put_comm a v undef h2];exact h⟩
   case defer d =>
    refine ⟨keep _ (keepD d) _,?_⟩;rw [<-Act.put_comm _ v undef h2,<-Act.put_defers];exact h
   case enter f args =>
    refine Calls.mono h λe w'' he=>?_;cases e with
    | returned u=>exact ⟨keep a hy u,by rw [<-Act.put_comm a v u h2];exact he⟩
    | panicked c=>exact hQ _ _ _ he
    | outgrown=>exact he
   case row row args=>exact Rows.mono h λu w'' he=>⟨keep a hy u,by rw [<-Act.put_comm a v u h2];exact he⟩
  | halt x w' =>
   cases x<;>simp only [Oper.upon] at h ⊢
   case panic u=>exact hQ _ _ _ h
 ·rename_i hw;simp only [hw] at h;exact ⟨keep a hy _,by rw [<-Act.put_comm a v undef h2];exact h⟩
theorem oh {i:Nat} {oi:Oper} {v:Value} (hi:ops[i]? = some oi) (hsel:∀(j:Nat) (o:Oper) cs b,ops[j]? = some o->o.op ≠ .select cs b)
  (hQ:∀c a w,Q (.panic c) (a.put oi.dst v) w->Q (.panic c) a w) :
  ∀(fuel:Nat) (listed:Array Bool) (a:Act) (w:World),
   (∀j oj,ops[j]? = some oj->j≠i->listed.getD j true=false->(∀e∈oj.after,Region.binds md e=true->e.on≠i)->oi.apart ops oj=true) ->
   i∈Region.ready md ops listed->CallsIf P ops S oi v a->S w ->
   wpAnyH P md ops Q S fuel (listed.setIfInBounds i true) (a.put oi.dst v) w->wpAnyH P md ops Q S (fuel+1) listed a w:=by
 intro fuel;induction fuel with
 | zero =>
  intro listed a w _ hr hy hS H;refine ⟨λh=>(by rw [h] at hr;cases hr),λj hj=>?_⟩;by_cases hji:j=i
  ·subst hji;exact hy.wpOp hi hS ⟨hS,H⟩
  ·have:=ready_mono hj hji;rw [H.1] at this;cases this
 | succ fuel ih =>
  intro listed a w hfree hr hy hS H;refine ⟨λh=>(by rw [h] at hr;cases hr),λj hj=>?_⟩;by_cases hji:j=i
  ·subst hji;exact hy.wpOp hi hS ⟨hS,H⟩
  ·have h1:=H.2 j (ready_mono hj hji);obtain ⟨hjun,oj,hoj,hall⟩:=mem_ready.1 hj;have hnot:∀e∈oj.after,Region.binds md e=true->e.on≠i:=λe he hb heq=>by
    have h1:=hall e he hb;have h0:=(mem_ready.1 hr).1;rw [heq] at h1;rcases DJ i listed.size with h' | h'
    ·simp [h'] at h0 h1;rw [h0] at h1;cases h1
    ·simp [Array.getElem?_eq_none h'] at h1
   have h2:=u8 hoj (hfree j oj hoj hji hjun hnot) (λcs b=>hsel i oi cs b hi) (λcs b=>hsel j oj cs b hoj) hQ hy h1;have hfree':∀k ok,ops[k]? = some ok->k≠i->(listed.setIfInBounds j true).getD k true=false ->
     (∀e∈ok.after,Region.binds md e=true->e.on≠i)->oi.apart ops ok=true:=λk ok hk hki hun hno=>by
    refine hfree k ok hk hki ?_ hno;by_cases hjk:j=k
    ·subst hjk;exact hjun
    ·rw [getD_set_ne true hjk] at hun;exact hun
   refine wpOp_mono (λa' w' h3=>⟨h3.2.1,ih (listed.setIfInBounds j true) a' w' hfree' (ready_mono hr (ud hji)) h3.1 h3.2.1 ?_⟩) h2;rw [Array.setIfInBounds_comm _ _ hji];exact h3.2.2
theorem pB {i:Nat} {oi:Oper} {v:Value} {fuel:Nat} {listed:Array Bool} {a:Act} {w:World} (hi:ops[i]? = some oi)
  (hs:Region.noSelect ops=true) (hf:Region.free md ops listed i=true) (hr:(Region.ready md ops listed).contains i=true)
  (hQ:∀c a w,Q (.panic c) (a.put oi.dst v) w->Q (.panic c) a w) (hwt:Region.wanted oi (yielded ops a.tmps)=true) (f:FuncId) (args:Array Value) (hrun:∀w,S w->(execOp a.eval oi).run P w = .ok (.enter f args) w) (hc:∀w,S w->Calls P f args w (λe w'=>e = .returned v/\w=w')) (hS:S w)
  (h:wpAnyH P md ops Q S fuel (listed.setIfInBounds i true) (a.put oi.dst v) w):wpAnyH P md ops Q S (fuel+1) listed a w :=
 oh hi (Region.noSelect_spec hs) hQ fuel listed a w (Region.free_spec hi hf) (by simpa using hr) ⟨hwt,λw hw=>⟨f,args,hrun w hw,hc w hw⟩⟩ hS h
theorem tT {P:Program} {ρ:Operand->Value} {o:Oper} {t:TypeId} {ps:Array (Nat×Operand)} {v:Value} {w:World} (ho:o.op = .build t ps) (parts:Array (Nat×Value)) (hp:(ps.toList.map λp=>(p.1,ρ p.2))=parts.toList) (hr:(Instr.build t parts).run P w = .ok v w):(execOp ρ o).run P w = .ok (.value v) w:=by
 have hp2:ps.map (λp=>(p.1,ρ p.2))=parts:=Array.ext' (by rw [Array.toList_map];exact hp);subst hp2;simp [execOp,ho,hr,Result.andThen]
end
theorem bu {p q:Prop} (h:q) (e:p=q:=by ((try simp only [Act.put,em,ka,qr])<;>exact rfl)):p:=by rw [e];exact h
inductive Nth:List Oper->Nat->Oper->Prop
 | z {o:Oper} {l:List Oper}:Nth (o::l) 0 o
 | s {a o:Oper} {l:List Oper} {n:Nat}:Nth l n o->Nth (a::l) (n+1) o
theorem Nth.get {l:List Oper} {n:Nat} {o:Oper} (h:Nth l n o):l.toArray[n]? = some o:=by
 rw [eE];induction h with
 | z=>rfl
 | s h ih=>rw [List.getElem?_cons_succ];exact ih
section
variable {P:Program} {l:List Oper} {Q:Exit->Act->World->Prop} {md:Region.Mode} {S:World->Prop} {fuel:Nat} {listed:Array Bool} {a a':Act} {w:World}
theorem az (i:Nat) {oi:Oper} {v:Value}
  (h:wpAnyH P md l.toArray Q S fuel (listed.setIfInBounds i true) a' w)
  (hi:Nth l i oi:=by (repeat apply Nth.s)<;>exact Nth.z)
  (hw:Region.wanted oi (yielded l.toArray a.tmps)=true:=by rfl)
  (hy:∀w,S w->(execOp a.eval oi).run P w = .ok (.value v) w:=by (intro w hSw;(try dsimp only at hSw);go_simp<;>with_reducible rfl))
  (ha:a.put oi.dst v=a':=by ((try simp only [Act.put,em,ka,qr])<;>exact rfl))
  (hs:Region.noSelect l.toArray=true:=by kernel_rfl) (hf:Region.free md l.toArray listed i=true:=by kernel_rfl) (hr:(Region.ready md l.toArray listed).contains i=true:=by kernel_rfl)
  (hQ:∀c a w,Q (.panic c) (a.put oi.dst v) w->Q (.panic c) a w:=by exact λ_ _ _ h=>h) (hS:S w:=by exact am):wpAnyH P md l.toArray Q S (fuel+1) listed a w :=
 wpAnyH_take hi.get hs hf hr hQ (Or.inl ⟨hw,hy⟩) hS (by rw [ha];exact h)
theorem DC (i:Nat) {oi:Oper} {v:Value} (hi:Nth l i oi) (hy:∀w,S w->(execOp a.eval oi).run P w = .ok (.value v) w)
  (h:wpAnyH P md l.toArray Q S fuel (listed.setIfInBounds i true) a' w)
  (hw:Region.wanted oi (yielded l.toArray a.tmps)=true:=by rfl)
  (ha:a.put oi.dst v=a':=by ((try simp only [Act.put,em,ka,qr])<;>exact rfl))
  (hs:Region.noSelect l.toArray=true:=by kernel_rfl) (hf:Region.free md l.toArray listed i=true:=by kernel_rfl) (hr:(Region.ready md l.toArray listed).contains i=true:=by kernel_rfl)
  (hQ:∀c a w,Q (.panic c) (a.put oi.dst v) w->Q (.panic c) a w:=by exact λ_ _ _ h=>h) (hS:S w:=by exact am):wpAnyH P md l.toArray Q S (fuel+1) listed a w :=
 wpAnyH_take hi.get hs hf hr hQ (Or.inl ⟨hw,hy⟩) hS (by rw [ha];exact h)
theorem cv (i:Nat) {oi:Oper}
  (h:wpAnyH P md l.toArray Q S fuel (listed.setIfInBounds i true) a' w)
  (hi:Nth l i oi:=by (repeat apply Nth.s)<;>exact Nth.z)
  (hw:Region.wanted oi (yielded l.toArray a.tmps)=false:=by rfl)
  (ha:a.put oi.dst undef=a':=by ((try simp only [Act.put,em,ka,qr])<;>exact rfl))
  (hs:Region.noSelect l.toArray=true:=by kernel_rfl) (hf:Region.free md l.toArray listed i=true:=by kernel_rfl) (hr:(Region.ready md l.toArray listed).contains i=true:=by kernel_rfl)
  (hQ:∀c a w,Q (.panic c) (a.put oi.dst undef) w->Q (.panic c) a w:=by exact λ_ _ _ h=>h) (hS:S w:=by exact am):wpAnyH P md l.toArray Q S (fuel+1) listed a w :=
 wpAnyH_take (v:=undef) hi.get hs hf hr hQ (Or.inr ⟨hw,rfl⟩) hS (by rw [ha];exact h)
theorem cf (i:Nat) {o:Oper}
  (g0:∀K':Act->World->Prop,Shut (∀a w,S w->(S w->wpAnyH P md l.toArray Q S fuel (listed.setIfInBounds i true) a w)->K' a w)->if Region.wanted o (yielded l.toArray a.tmps)=true then Oper.wp P o a w K' Q else K' (a.put o.dst undef) w)
  (h0:Nth l i o:=by (repeat apply Nth.s)<;>exact Nth.z)
  (hr:Region.ready md l.toArray listed=[i]:=by kernel_rfl):wpAnyH P md l.toArray Q S (fuel+1) listed a w :=
 wpAnyH_ready hr (by simp) (AllReadyH.cons h0.get g0 AllReadyH.nil)
theorem gJ (i j:Nat) {o p:Oper}
  (g0:∀K':Act->World->Prop,Shut (∀a w,S w->(S w->wpAnyH P md l.toArray Q S fuel (listed.setIfInBounds i true) a w)->K' a w)->if Region.wanted o (yielded l.toArray a.tmps)=true then Oper.wp P o a w K' Q else K' (a.put o.dst undef) w)
  (g1:∀K':Act->World->Prop,Shut (∀a w,S w->(S w->wpAnyH P md l.toArray Q S fuel (listed.setIfInBounds j true) a w)->K' a w)->if Region.wanted p (yielded l.toArray a.tmps)=true then Oper.wp P p a w K' Q else K' (a.put p.dst undef) w)
  (h0:Nth l i o:=by (repeat apply Nth.s)<;>exact Nth.z)
  (h1:Nth l j p:=by (repeat apply Nth.s)<;>exact Nth.z)
  (hr:Region.ready md l.toArray listed=[i,j]:=by kernel_rfl):wpAnyH P md l.toArray Q S (fuel+1) listed a w :=
 wpAnyH_ready hr (by simp) (AllReadyH.cons h0.get g0 (AllReadyH.cons h1.get g1 AllReadyH.nil))
theorem vH (i j k:Nat) {o p q:Oper}
  (g0:∀K':Act->World->Prop,Shut (∀a w,S w->(S w->wpAnyH P md l.toArray Q S fuel (listed.setIfInBounds i true) a w)->K' a w)->if Region.wanted o (yielded l.toArray a.tmps)=true then Oper.wp P o a w K' Q else K' (a.put o.dst undef) w)
  (g1:∀K':Act->World->Prop,Shut (∀a w,S w->(S w->wpAnyH P md l.toArray Q S fuel (listed.setIfInBounds j true) a w)->K' a w)->if Region.wanted p (yielded l.toArray a.tmps)=true then Oper.wp P p a w K' Q else K' (a.put p.dst undef) w)
  (g2:∀K':Act->World->Prop,Shut (∀a w,S w->(S w->wpAnyH P md l.toArray Q S fuel (listed.setIfInBounds k true) a w)->K' a w)->if Region.wanted q (yielded l.toArray a.tmps)=true then Oper.wp P q a w K' Q else K' (a.put q.dst undef) w)
  (h0:Nth l i o:=by (repeat apply Nth.s)<;>exact Nth.z)
  (h1:Nth l j p:=by (repeat apply Nth.s)<;>exact Nth.z)
  (h2:Nth l k q:=by (repeat apply Nth.s)<;>exact Nth.z)
  (hr:Region.ready md l.toArray listed=[i,j,k]:=by kernel_rfl):wpAnyH P md l.toArray Q S (fuel+1) listed a w :=
 wpAnyH_ready hr (by simp) (AllReadyH.cons h0.get g0 (AllReadyH.cons h1.get g1 (AllReadyH.cons h2.get g2 AllReadyH.nil)))
theorem Ds (i j k m:Nat) {o p q r:Oper}
  (g0:∀K':Act->World->Prop,Shut (∀a w,S w->(S w->wpAnyH P md l.toArray Q S fuel (listed.setIfInBounds i true) a w)->K' a w)->if Region.wanted o (yielded l.toArray a.tmps)=true then Oper.wp P o a w K' Q else K' (a.put o.dst undef) w)
  (g1:∀K':Act->World->Prop,Shut (∀a w,S w->(S w->wpAnyH P md l.toArray Q S fuel (listed.setIfInBounds j true) a w)->K' a w)->if Region.wanted p (yielded l.toArray a.tmps)=true then Oper.wp P p a w K' Q else K' (a.put p.dst undef) w)
  (g2:∀K':Act->World->Prop,Shut (∀a w,S w->(S w->wpAnyH P md l.toArray Q S fuel (listed.setIfInBounds k true) a w)->K' a w)->if Region.wanted q (yielded l.toArray a.tmps)=true then Oper.wp P q a w K' Q else K' (a.put q.dst undef) w)
  (g3:∀K':Act->World->Prop,Shut (∀a w,S w->(S w->wpAnyH P md l.toArray Q S fuel (listed.setIfInBounds m true) a w)->K' a w)->if Region.wanted r (yielded l.toArray a.tmps)=true then Oper.wp P r a w K' Q else K' (a.put r.dst undef) w)
  (h0:Nth l i o:=by (repeat apply Nth.s)<;>exact Nth.z)
  (h1:Nth l j p:=by (repeat apply Nth.s)<;>exact Nth.z)
  (h2:Nth l k q:=by (repeat apply Nth.s)<;>exact Nth.z)
  (h3:Nth l m r:=by (repeat apply Nth.s)<;>exact Nth.z)
  (hr:Region.ready md l.toArray listed=[i,j,k,m]:=by kernel_rfl):wpAnyH P md l.toArray Q S (fuel+1) listed a w :=
 wpAnyH_ready hr (by simp) (AllReadyH.cons h0.get g0 (AllReadyH.cons h1.get g1 (AllReadyH.cons h2.get g2 (AllReadyH.cons h3.get g3 AllReadyH.nil))))
theorem fc (h:Q .normal a w) (hr:Region.ready md l.toArray listed=[]:=by kernel_rfl):wpAnyH P md l.toArray Q S fuel listed a w:=wpAnyH_done hr h fuel
end
open Go.ChangeMaps Go.WideMaps Go.Maps
set_option maxRecDepth 20000
theorem cB (w:World):Below w.heap.size w w.drew:=⟨rfl,rfl,rfl,ah _,λ_ _=>rfl⟩
def Ay (f:Option (List UInt8×Nat)) (l:List UInt8):Option (List UInt8×Nat):=match f with | none=>some (l,0) | some (m,k)=>some (m++l,k)
def appD (s:Dk) (l:List UInt8):Dk:={ s with file:=Ay s.file l }
section
variable {w:World} {D:List Nat} {d:Nat} {s:Dk}
set_option maxHeartbeats 1000000 in
theorem sp (h:IsDk w D d s) (ho:s.off=false) (t:ByteArray) (ht:lG t) (ao:Option Addr) (n c:Nat) (hr:s.room - (s.total:Int)<(n:Int)) (h0:0<=s.room) (h1:s.room<=1048576) (h2:(s.total:Int)<=s.room) :
  Calls Try.prog 80 #[.pointer (some ⟨d,0,none⟩),.string t,.slice ao n c] w λe w'=>e = .returned (.int .i64 9)/\Below w.heap.size w w':=by
 have hb:Below w.heap.size w (w.alloc (.cells #[.string t] 9)):=(aB _ _).alloc (ah _) _;have hW:=h.below hb;have HM:=ab (pV hW ho w.heap.size t (by rw [af (aJ _ _)];rfl) ht);have HB:=ab hb;have HTO:Hid (∀w',Below (w.alloc (.cells #[.string t] 9)).heap.size (w.alloc (.cells #[.string t] 9)) w'->Calls Try.prog 89 #[.pointer (some ⟨d,0,none⟩)] w' λe w''=>e = .returned (.int .i64 (s.total:Int))/\Below w'.heap.size w' w''):=ab λw' hb=>oE (hW.below hb);obtain ⟨⟨mb,k1,_⟩,_⟩:=hW;have hr0:∀w',Below (w.alloc (.cells #[.string t] 9)).heap.size (w.alloc (.cells #[.string t] 9)) w'->w'.cell? ⟨d,0,none⟩=some (.int .i64 s.room):=λw' hb=>by rw [af (bQ hb (aU k1) k1)];rfl
 clear h hb k1;generalize s.total=T at *;generalize s.room=R at *;have q1:IntKind.i64.wrap (R - (T:Int))=R - (T:Int):=IntWalk.i64_in _ (by omega);go_enter Try.func80,Try.ntmps80
 go_wp2_with fail
 refine HM.out.mono ?_;rintro e w1 ⟨rfl,rfl⟩;go_upto_region 4 with (fail)
 generalize w.alloc (.cells #[.string t] 9)=W at *;refine wp_region_held_drew (S:=λw'=>Below W.heap.size W w') (by kernel_rfl) (cB W) (λam=>?_);refine az 0 ?_;refine az 1 ?_;refine az 2 ?_;refine az 3 ?_;refine az 4 ?_;refine az 5 ?_;refine az 6 ?_;refine cf 7 λK hK=>?_;go_simp
 refine (HTO.out _ (by exact cB _)).mono ?_;rintro e w5 ⟨rfl,hb5⟩;have HB5:=ab hb5;go_wp2_with fail
 refine hK.out _ _ (am.trans (hb5.mono am.size)) (λam=>?_);clear hK K;refine bu ?_;clear hb5;refine cf 8 λK hK=>?_;go_simp
 refine hK.out _ _ am (λam=>?_);clear hK K;refine bu ?_;refine cf 9 λK hK=>?_;go_simp
 refine hK.out _ _ am (λam=>?_);clear hK K;refine bu ?_;refine fc ?_;go_wp2_with fail
 go_ret
 exact ⟨rfl,HB.out.trans (((cB W).trans (HB5.out.mono (ah _))).mono HB.out.size)⟩
theorem fV {w:World} {a b:Nat} {x y:Obj} (h1:w.heap[a]? = some x) (h2:w.heap[b]? = some y) (hne:x≠y):a≠b:=by
 intro e;rw [e,h2] at h1;exact hne (Option.some.inj h1).symm
theorem jg {w:World} {b:Nat} {v:Value} {l:List UInt8} {o:Obj} (ho:OwnB w 0 5 v l) (h:w.heap[b]? = some o) (hne:∀cur,o ≠ .cells cur 5 (0,0)):b∉v.ownBlock.toList:=by
 intro hm;have hk:v.ownBlock=some b:=by simpa using hm
 rcases ho.2 with ⟨rfl,_⟩ | ⟨g,cap,cur,rfl,_,hg,_⟩
 ·simp [Value.ownBlock] at hk
 ·simp [Value.ownBlock] at hk;subst hk;rw [hg] at h;exact hne cur (Option.some.inj h).symm
theorem oU {w w':World} {S:List Nat} {v:Value} {l:List UInt8} (ho:OwnB w 0 5 v l) (h:Only S w w') (hS:∀k,v.ownBlock=some k->k∉S):OwnB w' 0 5 v l:=bg ho h hS
theorem mN {w:World} {v:Value} {l:List UInt8} (ho:OwnB w 0 5 v l):∀k,v.ownBlock=some k->k<w.heap.size:=λk hk=>(ho.lt k hk).2
theorem se {w8:World} {D':List Nat} {d mb fb cc b0:Nat} {room lives:Int} {off:Bool} {x v8:Value} {safe:Nat} {l8:List UInt8}
  (k1:w8.heap[d]? = some (.cells #[.int .i64 room,.bool off,.int .i64 lives,.map (some mb)] 79 (0,0))) (m8:w8.heap[mb]? = some (.map #[⟨.string fo,.pointer (some ⟨fb,0,none⟩),b0⟩] cc)) (hb0:b0<cc)
  (f8:w8.heap[fb]? = some (.cells #[x,.int .i64 (safe:Int)] 86 (0,0))) (o8:OwnB w8 0 5 v8 l8) (hd:d∈D') (hm:mb∈D') (hf:fb∈D') (ho:∀k,v8.ownBlock=some k->k∈D') (hlt:∀b∈D',b<w8.heap.size) :
  IsDk (w8.setCell ⟨fb,0,none⟩ v8) D' d ⟨room,off,lives,some (l8,safe)⟩:=by
 have ow:Only [fb] w8 (w8.setCell ⟨fb,0,none⟩ v8):=(Only.refl _ _).setCell (by simp) _;have n1:d≠fb:=fV k1 f8 (by simp);have n2:mb≠fb:=fV m8 f8 (by simp);have n3:fb∉v8.ownBlock.toList:=jg o8 f8 (by simp);refine ⟨⟨mb,ow.keeps k1 (by simpa using n1),hm,cc,fb,b0,v8,ow.keeps m8 (by simpa using n2),hb0,hf,aZ f8 0 v8,oU o8 ow (λk hk hm=>?_),ho⟩,hd,λb hb=>aH (hlt b hb) ow.size⟩;rw [aj.1 hm] at hk;exact n3 (by rw [hk];simp)
theorem lq:fo.size<=20:=by decide
set_option maxHeartbeats 2000000 in
theorem wZ (h:IsDk w D d s) (ho:s.off=false) (ao:Option Addr) (n c:Nat) (l:List UInt8) (hi:IsB w ao n c l) (hr:(n:Int)<=s.room - (s.total:Int)) (h1:s.room<=1048576) :
  Calls Try.prog 80 #[.pointer (some ⟨d,0,none⟩),.string fo,.slice ao n c] w λe w'=>∃D',e = .returned (.int .i64 0)/\IsDk w' D' d (appD s l)/\Moves D D' w w':=by
 have hb:Below w.heap.size w (w.alloc (.cells #[.string fo] 9)):=(aB _ _).alloc (ah _) _;have hW:=h.below hb;have HM:=ab (pV hW ho w.heap.size fo (by rw [af (aJ _ _)];rfl) jN);have HB:=ab hb;have HI:=ab (hi.below hb);have HTO:Hid (∀w',Below (w.alloc (.cells #[.string fo] 9)).heap.size (w.alloc (.cells #[.string fo] 9)) w'->Calls Try.prog 89 #[.pointer (some ⟨d,0,none⟩)] w' λe w''=>e = .returned (.int .i64 (s.total:Int))/\Below w'.heap.size w' w''):=ab λw' hb=>oE (hW.below hb);have HW:=ab hW;obtain ⟨⟨mb,k1,k2,k3⟩,k4,k5⟩:=hW;have hr0:∀w',Below (w.alloc (.cells #[.string fo] 9)).heap.size (w.alloc (.cells #[.string fo] 9)) w'->w'.cell? ⟨d,0,none⟩=some (.int .i64 s.room):=λw' hb=>by rw [af (bQ hb (aU k1) k1)];rfl
 have HK:=ab (And.intro k1 (And.intro k2 (And.intro k3 (And.intro k4 k5))));have h2:(0:Int)<=(s.total:Int):=by omega
 clear h hb k1 k2 k3 k4 k5 hi;generalize hTT:s.total=T at *;generalize hRR:s.room=R at *;have q1:IntKind.i64.wrap (R - (T:Int))=R - (T:Int):=IntWalk.i64_in _ (by omega);have HTT:=ab hTT;have HRR:=ab hRR;clear hTT hRR;go_enter Try.func80,Try.ntmps80
 go_wp2_with fail
 refine HM.out.mono ?_;rintro e w1 ⟨rfl,rfl⟩;go_upto_region 4 with (fail)
 generalize w.alloc (.cells #[.string fo] 9)=W at *;refine wp_region_held_drew (S:=λw'=>Below W.heap.size W w') (by kernel_rfl) (cB W) (λam=>?_);refine az 0 ?_;refine az 1 ?_;refine az 2 ?_;refine az 3 ?_;refine az 4 ?_;refine az 5 ?_;refine az 6 ?_;refine cf 7 λK hK=>?_;go_simp
 refine (HTO.out _ (by exact cB _)).mono ?_;rintro e w5 ⟨rfl,hb5⟩;have HB5:=ab hb5;go_wp2_with fail
 refine hK.out _ _ (am.trans (hb5.mono am.size)) (λam=>?_);clear hK K;refine bu ?_;clear hb5;refine cf 8 λK hK=>?_;go_simp
 refine hK.out _ _ am (λam=>?_);clear hK K;refine bu ?_;refine cf 9 λK hK=>?_;go_simp
 refine hK.out _ _ am (λam=>?_);clear hK K;refine bu ?_;refine fc ?_;have hb6:Below W.heap.size W w5:=(cB W).trans HB5.out;have HI5:=ab (HI.out.below hb6);have HB6:=ab (HB.out.trans (hb6.mono HB.out.size));obtain ⟨k1,k2,k3,k4,k5⟩:=HK.out;have K1:=ab (bQ hb6 (aU k1) k1);have K3:=ab (k3.keep (Only.ofBelow hb6 []) k2 (λb _=>by simp));have K5:Hid (∀b∈D,b<w5.heap.size):=ab (λb hb=>aH (k5 b hb) hb6.size);have hc3:w5.cell? ⟨d,3,none⟩=some (.map (some mb)):=by rw [af K1.out];rfl
 have hWsz:=hb6.size;clear k1 k3 k5 hb6 hr0 am HW HK HM HTO;cases hfile:s.file with
 | none =>
  rw [hfile] at K3;obtain ⟨cc,hm⟩:=K3.out;have hl:=uF hm fo lq;have hm6:=bp hm (.cells #[.slice none 0 0,.int .i64 0] 86);have hput:=AW hm6 fo (.pointer (some ⟨w5.heap.size,0,none⟩)) lq;have o7:=kh (w5.alloc (.cells #[.slice none 0 0,.int .i64 0] 86)) mb (.map #[⟨.string fo,.pointer (some ⟨w5.heap.size,0,none⟩),cc⟩] (cc+1));have hmlt:=aU hm;have m7:=mw (w5.alloc (.cells #[.slice none 0 0,.int .i64 0] 86)) mb (.map #[⟨.string fo,.pointer (some ⟨w5.heap.size,0,none⟩),cc⟩] (cc+1)) (aU hm6);have f7:=o7.keeps (aJ w5 (.cells #[.slice none 0 0,.int .i64 0] 86)) (by simp;omega);have dne:d≠mb:=fV K1.out hm (by simp);have k7:=o7.keeps (bp K1.out (.cells #[.slice none 0 0,.int .i64 0] 86)) (by simpa using dne);have hc6:(w5.alloc (.cells #[.slice none 0 0,.int .i64 0] 86)).cell? ⟨d,3,none⟩=some (.map (some mb)):=by rw [af (bp K1.out _)];rfl
  have oA:Only [mb] w5 (setBlock (w5.alloc (.cells #[.slice none 0 0,.int .i64 0] 86)) mb (.map #[⟨.string fo,.pointer (some ⟨w5.heap.size,0,none⟩),cc⟩] (cc+1))):=((Only.refl [mb] w5).alloc _).trans o7;have hI7:IsB (setBlock (w5.alloc (.cells #[.slice none 0 0,.int .i64 0] 86)) mb (.map #[⟨.string fo,.pointer (some ⟨w5.heap.size,0,none⟩),cc⟩] (cc+1))) ao n c l:=gk HI5.out oA (by intro b off i hb;simp;intro e;subst e;exact tJ HI5.out hb hm);have hsz7:(setBlock (w5.alloc (.cells #[.slice none 0 0,.int .i64 0] 86)) mb (.map #[⟨.string fo,.pointer (some ⟨w5.heap.size,0,none⟩),cc⟩] (cc+1))).heap.size=w5.heap.size+1:=by simp [setBlock]
  have hfc:=af f7 0;have HM7:=ab m7;have HF7:=ab f7;have HK7:=ab k7;have HOA:=ab oA;have HI7:=ab hI7;have HSZ7:=ab hsz7;have hfc0:(setBlock (w5.alloc (.cells #[.slice none 0 0,.int .i64 0] 86)) mb (.map #[⟨.string fo,.pointer (some ⟨w5.heap.size,0,none⟩),cc⟩] (cc+1))).cell? ⟨w5.heap.size,0,none⟩=some (.slice none 0 0):=by rw [af f7];rfl
  have hlen0:([]:List UInt8).length+n<=140737488355328:=by simp;omega
  have hmD:=k2;clear hm hm6 o7 m7 f7 dne k7 oA hI7 hsz7 hfc K3;go_wp2_with (at_builtin;refine iy rfl (.tmp 46) (.tmp 47) 29 rfl 5 Try.underlying29 F.iQ (.slice none 0 0) [] rfl (OwnB.nil _ _ _) ao n c l rfl HI7.out hlen0 ?_;intro v8 w8 ho8 on8 fr8;rw [bR] at ho8;have HO8:=ab ho8;have HON8:=ab on8;have HF8:=ab (on8.keeps HF7.out (by simp [Value.ownBlock]));have HFR8:=ab fr8;have hc8:w8.cell? ⟨w5.heap.size,0,none⟩=some (.slice none 0 0):=(af HF8.out 0).trans rfl;have hz8:=aO HF8.out 0;obtain ⟨a8,c8,e8,_,_⟩:=dw ho8;subst e8;clear ho8 on8 fr8)
  go_ret
  have hap:appD s l=⟨R,s.off,s.lives,some (l,0)⟩:=by unfold appD Ay;rw [hfile,HRR.out]
  have on8:=HON8.out;have hK8:=on8.keeps HK7.out (by simp [Value.ownBlock]);have hM8:=on8.keeps HM7.out (by simp [Value.ownBlock]);have hs8:=on8.size;have hs7:=HSZ7.out;have fr8:=HFR8.out;have hlt8:=mN HO8.out;rw [hap];refine ⟨D++w5.heap.size::(Value.slice a8 l.length c8).ownBlock.toList,rfl,se hK8 hM8 (Nat.lt_succ_self _) HF8.out HO8.out (by simp [k4]) (by simp [k2]) (by simp) (λk hk=>by simp [hk]) (λb hb=>?_),(Moves.of_below HB6.out).trans ⟨?_,λb hb=>?_,λb hb=>by simp [hb]⟩⟩
  ·simp only [av,bG,dP] at hb;rcases hb with hb | rfl | hb
   ·have:=K5.out b hb;omega
   ·omega
   ·exact hlt8 b hb
  ·have o9:Only [w5.heap.size] w8 (w8.setCell ⟨w5.heap.size,0,none⟩ (.slice a8 l.length c8)):=(Only.refl _ _).setCell (by simp) _;have oall:=((HOA.out.mono (T:=[mb,w5.heap.size]) (by simp)).trans (on8.mono (by simp [Value.ownBlock]))).trans (o9.mono (T:=[mb,w5.heap.size]) (by simp));exact oall.cut (λk hk hlt=>by
    simp at hk;rcases hk with rfl | rfl
    ·exact k2
    ·omega)
  ·simp only [av,bG,dP] at hb;rcases hb with hb | rfl | hb
   ·exact .inl hb
   ·exact .inr (ah _)
   ·rcases fr8 b hb with h8 | h8
    ·simp [Value.ownBlock] at h8
    ·right;omega
 | some p =>
  obtain ⟨m,kk⟩:=p;rw [hfile] at K3;obtain ⟨cc,fb,b0,v,hm,hb0,hfD,hf,ho5,hov⟩:=K3.out;have hT:T=m.length:=by rw [<-HTT.out];unfold Dk.total;rw [hfile]
  obtain ⟨a0,c0,rfl,_,_⟩:=dw ho5;have hl:=ru hm lq;have hfc:w5.cell? ⟨fb,0,none⟩=some (.slice a0 m.length c0):=by rw [af hf];rfl
  have hlen0:m.length+n<=140737488355328:=by omega
  have HM5:=ab hm;have HF5:=ab hf;have HO5:=ab ho5;have HOV:=ab hov;have N1:Hid (fb∉(Value.slice a0 m.length c0).ownBlock.toList):=ab (jg ho5 hf (by simp));clear hm hf ho5 hov K3;go_wp2_with (at_builtin;refine iy rfl (.tmp 46) (.tmp 47) 29 rfl 5 Try.underlying29 F.iQ (.slice a0 m.length c0) m rfl HO5.out ao n c l rfl HI5.out hlen0 ?_;intro v8 w8 ho8 on8 fr8;have HO8:=ab ho8;have HON8:=ab on8;have HF8:=ab (on8.keeps HF5.out N1.out);have HFR8:=ab fr8;have hc8:w8.cell? ⟨fb,0,none⟩=some (.slice a0 m.length c0):=(af HF8.out 0).trans rfl;have hz8:=aO HF8.out 0;obtain ⟨a8,c8,e8,_,_⟩:=dw ho8;subst e8;clear ho8 on8 fr8)
  go_ret
  have hap:appD s l=⟨R,s.off,s.lives,some (m++l,kk)⟩:=by unfold appD Ay;rw [hfile,HRR.out]
  have HO9:OwnB w8 0 5 (.slice a8 (m.length+l.length) c8) (m++l):=by rw [<-ay];exact HO8.out
  rw [ay] at HFR8;have on8:=HON8.out;have hK8:=on8.keeps K1.out (jg HO5.out K1.out (by simp));have hM8:=on8.keeps HM5.out (jg HO5.out HM5.out (by simp));have hs8:=on8.size;have fr8:=HFR8.out;have hlt8:=mN HO9;rw [hap];refine ⟨D++(Value.slice a8 (m.length+l.length) c8).ownBlock.toList,rfl,se hK8 hM8 hb0 HF8.out HO9 (by simp [k4]) (by simp [k2]) (by simp [hfD]) (λk hk=>by simp [hk]) (λb hb=>?_),(Moves.of_below HB6.out).trans ⟨?_,λb hb=>?_,λb hb=>by simp [hb]⟩⟩
  ·simp only [av,dP] at hb;rcases hb with hb | hb
   ·have:=K5.out b hb;omega
   ·exact hlt8 b hb
  ·have o9:Only [fb] w8 (w8.setCell ⟨fb,0,none⟩ (.slice a8 (m.length+l.length) c8)):=(Only.refl _ _).setCell (by simp) _;exact (on8.mono (λk hk=>HOV.out k (by simpa using hk))).trans (o9.mono (by simpa using hfD))
  ·simp only [av,dP] at hb;rcases hb with hb | hb
   ·exact .inl hb
   ·rcases fr8 b hb with h8 | h8
    ·exact .inl (HOV.out b h8)
    ·exact .inr h8
end
section
variable {w:World} {D:List Nat} {d:Nat} {s:Dk}
theorem uQ (h:IsDk w D d s) (ho:s.off=false) (t:ByteArray) (ht:lG t) (hno:s.file=none\/t≠fo) :
  Calls Try.prog 74 #[.pointer (some ⟨d,0,none⟩),.string t] w λe w'=>e = .returned (.tuple #[.pointer none,.int .i64 4])/\Below w.heap.size w w':=by
 obtain ⟨⟨mb,k1,k2,k3⟩,k4,k5⟩:=h;refine wH ⟨⟨mb,k1,k2,k3⟩,k4,k5⟩ ho t ht (mb:=mb) (by rw [af k1];rfl) λw' hb=>?_;cases hf:s.file with
 | none =>
  rw [hf] at k3;obtain ⟨c,hm⟩:=k3;exact uF (bQ hb (aU hm) hm) t ht.1.2
 | some p =>
  obtain ⟨l,k⟩:=p;rw [hf] at k3;obtain ⟨c,fb,b0,v,hm,_⟩:=k3;refine tD (bQ hb (aU hm) hm) lq ht.1.2 (λe=>?_);rcases hno with h1 | h1
  ·rw [hf] at h1;cases h1
  ·exact h1 e.symm
structure Parts (w:World) (D:List Nat) (d:Nat) (s:Dk) (l:List UInt8) (k mb cc fb b0:Nat) (v:Value):Prop where
 hd:w.heap[d]? = some (.cells #[.int .i64 s.room,.bool s.off,.int .i64 s.lives,.map (some mb)] 79 (0,0))
 hm:w.heap[mb]? = some (.map #[⟨.string fo,.pointer (some ⟨fb,0,none⟩),b0⟩] cc)
 hb:b0<cc
 hf:w.heap[fb]? = some (.cells #[v,.int .i64 (k:Int)] 86 (0,0))
 ho:OwnB w 0 5 v l
 dD:d∈D
 mD:mb∈D
 fD:fb∈D
 vD:∀j,v.ownBlock=some j->j∈D
 lt:∀b∈D,b<w.heap.size
theorem IsDk.parts (h:IsDk w D d s) {l:List UInt8} {k:Nat} (hf:s.file=some (l,k)):∃mb cc fb b0 v,Parts w D d s l k mb cc fb b0 v:=by
 obtain ⟨⟨mb,k1,k2,k3⟩,k4,k5⟩:=h;rw [hf] at k3;obtain ⟨c,fb,b0,v,h1,h2,h3,h4,h5,h6⟩:=k3;exact ⟨mb,c,fb,b0,v,k1,h1,h2,h4,h5,k4,k2,h3,h6,k5⟩
theorem Parts.dk {l:List UInt8} {k mb cc fb b0:Nat} {v:Value} (h:Parts w D d s l k mb cc fb b0 v) (hf:s.file=some (l,k)):IsDk w D d s :=
 ⟨⟨mb,h.hd,h.mD,by rw [hf];exact ⟨cc,fb,b0,v,h.hm,h.hb,h.fD,h.hf,h.ho,h.vD⟩⟩,h.dD,h.lt⟩
theorem Parts.below {w':World} {l:List UInt8} {k mb cc fb b0:Nat} {v:Value} (h:Parts w D d s l k mb cc fb b0 v) (hb:Below w.heap.size w w'):Parts w' D d s l k mb cc fb b0 v :=
 ⟨bQ hb (aU h.hd) h.hd,bQ hb (aU h.hm) h.hm,h.hb,bQ hb (aU h.hf) h.hf,bg h.ho (Only.ofBelow hb []) (λb _=>by simp),h.dD,h.mD,h.fD,h.vD,λb hb2=>aH (h.lt b hb2) hb.size⟩
theorem Parts.set {l l':List UInt8} {k k' mb cc fb b0:Nat} {v v':Value} {w':World} {D':List Nat} {s':Dk} (h:Parts w D d s l k mb cc fb b0 v) (ho:Only [fb] w w') (hf:w'.heap[fb]? = some (.cells #[v',.int .i64 (k':Int)] 86 (0,0)))
  (hv:OwnB w 0 5 v' l') (hsub:∀b∈D,b∈D') (hvD:∀j,v'.ownBlock=some j->j∈D') (hlt:∀b∈D',b<w.heap.size) (hs':s'.room=s.room/\s'.off=s.off/\s'.lives=s.lives):Parts w' D' d s' l' k' mb cc fb b0 v':=by
 have n1:d≠fb:=fV h.hd h.hf (by simp);have n2:mb≠fb:=fV h.hm h.hf (by simp);have n3:fb∉v'.ownBlock.toList:=jg hv h.hf (by simp);obtain ⟨e1,e2,e3⟩:=hs';refine ⟨by rw [e1,e2,e3];exact ho.keeps h.hd (by simpa using n1),ho.keeps h.hm (by simpa using n2),h.hb,hf,oU hv ho (λj hj hm=>?_),hsub _ h.dD,hsub _ h.mD,hsub _ h.fD,hvD,λb hb=>aH (hlt b hb) ho.size⟩;rw [aj.1 hm] at hj;exact n3 (by rw [hj];simp)
theorem nN {l:List UInt8} {k mb cc fb b0:Nat} {v:Value} (h:Parts w D d s l k mb cc fb b0 v) (hf:s.file=some (l,k)) (ho:s.off=false) :
  Calls Try.prog 74 #[.pointer (some ⟨d,0,none⟩),.string fo] w λe w'=>e = .returned (.tuple #[.pointer (some ⟨fb,0,none⟩),.int .i64 0])/\Below w.heap.size w w' :=
 wG (h.dk hf) ho fo jN (mb:=mb) (by rw [af h.hd];rfl) λw' hb=>ru (bQ hb (aU h.hm) h.hm) lq
theorem uw (h:IsDk w D d s) (ho:s.off=false) (t:ByteArray) (ht:lG t) (hno:s.file=none\/t≠fo):Calls Try.prog 70 #[.pointer (some ⟨d,0,none⟩),.string t] w λe w'=>e = .returned (.tuple #[.slice none 0 0,.int .i64 4])/\Below w.heap.size w w':=by
 have HF:=ab (uQ h ho t ht hno);clear h;go_enter Try.func70,Try.ntmps70
 go_wp2_with fail
 refine HF.out.mono ?_;rintro e w1 ⟨rfl,hb⟩;have HB:=ab hb;clear hb;go_wp2_with fail
 go_ret2
 exact ⟨rfl,HB.out⟩
theorem yO (h:IsDk w D d s) (ho:s.off=false) {l:List UInt8} {k:Nat} (hf:s.file=some (l,k)) (hl:l.length<=1048576) :
  Calls Try.prog 70 #[.pointer (some ⟨d,0,none⟩),.string fo] w λe w'=>∃v,e = .returned (.tuple #[v,.int .i64 0])/\OwnB w' w.heap.size 5 v l/\Below w.heap.size w w':=by
 obtain ⟨mb,cc,fb,b0,v,hp⟩:=h.parts hf;have HF:=ab (nN hp hf ho);have HP:=ab hp;clear h hp;go_enter Try.func70,Try.ntmps70
 go_wp2_with fail
 refine HF.out.mono ?_;rintro e w1 ⟨rfl,hb⟩;have HB:=ab hb;have HP1:=ab (HP.out.below hb);obtain ⟨ao,c,rfl,hi⟩:=HP1.out.ho.isB;have hc:w1.cell? ⟨fb,0,none⟩=some (.slice ao l.length c):=by rw [af HP1.out.hf];rfl
 have HI:=ab hi;clear hb hi;go_wp2_with fail
 refine (F.dJ ao l.length c l w1 HI.out (by omega)).mono ?_;rintro e w2 ⟨v2,rfl,ho2,hb2⟩;have HO2:=ab (ho2.mono HB.out.size);have HB2:=ab (HB.out.trans (hb2.mono HB.out.size));clear ho2 hb2;go_wp2_with fail
 go_ret2
 exact ⟨v2,rfl,HO2.out,HB2.out⟩
theorem AP (h:IsDk w D d s) (ho:s.off=false) (hno:s.file=none):Calls Try.prog 79 #[.pointer (some ⟨d,0,none⟩),.string fo] w λe w'=>e = .returned (.int .i64 4)/\Below w.heap.size w w':=by
 have HF:=ab (uQ h ho fo jN (.inl hno));clear h;go_enter Try.func79,Try.ntmps79
 go_wp2_with fail
 refine HF.out.mono ?_;rintro e w1 ⟨rfl,hb⟩;have HB:=ab hb;clear hb;go_wp2_with fail
 go_ret
 exact ⟨rfl,HB.out⟩
theorem ys (h:IsDk w D d s) (ho:s.off=false) {l:List UInt8} {k:Nat} (hf:s.file=some (l,k)) :
  Calls Try.prog 79 #[.pointer (some ⟨d,0,none⟩),.string fo] w λe w'=>e = .returned (.int .i64 0)/\IsDk w' D d { s with file:=some (l,l.length)}/\Only D w w':=by
 obtain ⟨mb,cc,fb,b0,v,hp⟩:=h.parts hf;have HF:=ab (nN hp hf ho);have HP:=ab hp;clear h hp;go_enter Try.func79,Try.ntmps79
 go_wp2_with fail
 refine HF.out.mono ?_;rintro e w1 ⟨rfl,hb⟩;have HB:=ab hb;have HP1:=ab (HP.out.below hb);obtain ⟨ao,c,rfl,hi⟩:=HP1.out.ho.isB;have hc:w1.cell? ⟨fb,0,none⟩=some (.slice ao l.length c):=by rw [af HP1.out.hf];rfl
 have hc1:w1.cell? ⟨fb,1,none⟩=some (.int .i64 (k:Int)):=by rw [af HP1.out.hf];rfl
 have hz1:=aO HP1.out.hf 1;clear hb hi;go_wp2_with fail
 go_ret
 have o9:Only [fb] w1 (w1.setCell ⟨fb,1,none⟩ (.int .i64 (l.length:Int))):=(Only.refl _ _).setCell (by simp) _;have hp9:=HP1.out.set (s':={ s with file:=some (l,l.length)}) o9 (aZ HP1.out.hf 1 _) HP1.out.ho (λb hb=>hb) HP1.out.vD HP1.out.lt ⟨rfl,rfl,rfl⟩;exact ⟨rfl,hp9.dk rfl,(Only.ofBelow HB.out D).trans (o9.mono (by simpa using HP1.out.fD))⟩
theorem IsFile.only_d {w':World} {mb:Nat} {f:Option (List UInt8×Nat)} {cs:Array Value} (h:IsFile w D mb f) (ho:Only [d] w w') (hd:w.heap[d]? = some (.cells cs 79 (0,0))):IsFile w' D mb f:=by
 cases f with
 | none =>
  obtain ⟨c,h1⟩:=h;exact ⟨c,ho.keeps h1 (by simpa using fV h1 hd (by simp))⟩
 | some p =>
  obtain ⟨l,safe⟩:=p;obtain ⟨c,fb,b0,v,h1,h2,h3,h4,h5,h6⟩:=h;refine ⟨c,fb,b0,v,ho.keeps h1 (by simpa using fV h1 hd (by simp)),h2,h3,ho.keeps h4 (by simpa using fV h4 hd (by simp)),bg h5 ho (λb hb hm=>?_),h6⟩;exact jg h5 hd (by simp) (by rw [aj.1 hm] at hb;rw [hb];simp)
theorem Cp (h:IsDk w D d s) (hl:s.lives<=1000000000) (hl0:0<=s.lives):Calls Try.prog 24 #[.pointer (some ⟨d,0,none⟩)] w λe w'=>e = .returned (.tuple #[])/\IsDk w' D d { s with off:=false,lives:=s.lives+1 }/\Only D w w':=by
 obtain ⟨⟨mb,k1,k2,k3⟩,k4,k5⟩:=h;have hc1:w.cell? ⟨d,1,none⟩=some (.bool s.off):=by rw [af k1];rfl
 have hc2:w.cell? ⟨d,2,none⟩=some (.int .i64 s.lives):=by rw [af k1];rfl
 have hz1:=aO k1 1;have hz2:=aO k1 2;have K:=ab (And.intro k1 (And.intro k2 (And.intro k3 (And.intro k4 k5))));have q1:IntKind.i64.wrap (s.lives+1)=s.lives+1:=IntWalk.i64_in _ (by omega);clear k1 k2 k3 k4 k5;go_enter Try.func24,Try.ntmps24
 go_wp2_with fail
 go_end0
 obtain ⟨k1,k2,k3,k4,k5⟩:=K.out;have o9:Only [d] w ((w.setCell ⟨d,2,none⟩ (.int .i64 (s.lives+1))).setCell ⟨d,1,none⟩ (.bool false)):=((Only.refl _ _).setCell (by simp) _).setCell (by simp) _;have hh:=aZ (aZ k1 2 (.int .i64 (s.lives+1))) 1 (.bool false);refine ⟨rfl,⟨⟨mb,hh,k2,?_⟩,k4,λb hb=>aH (k5 b hb) o9.size⟩,o9.mono (by simpa using k4)⟩;exact k3.only_d o9 k1
end
end Go.Proofs.Ytnicaicjgaoolaa
