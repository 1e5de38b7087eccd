/-
  What the proof of the law leans on: contracts of the program's functions, one behind another. No condition.
-/
import Derived.Test.YtnhefallmioefaaGreatV0
import Derived.Deep.AppendLies
import Derived.Laws.OwnMore
import Derived.OrdersHeld
import Derived.WalkKit
import Derived.Deep.RegionHeld
import Derived.Deep.DeepCutAuto
import Derived.Deep.CutBlock
import Derived.Deep.RegionHeld3
import Derived.Deep.RegionWith
import Derived.Deep.RegionLaw
import Derived.BigRegion
import Derived.Test.YtnhefallmioefaaGreatV2
import Derived.Test.YtnhefallmioefaaGreatV1
set_option linter.unusedVariables false
set_option linter.unusedSimpArgs false
namespace Go.Proofs.YtnhefallmioefaaGreat
open Go.RowKit Go.ChangeMaps Go.WideMaps Go.Maps
set_option maxRecDepth 20000
theorem l9 (w:World) (r:Nat) (o:Obj) (h:r<w.heap.size):(setBlock w r o).heap[r]? = some o:=by
 unfold setBlock;simp [h]
theorem jY (w:World) (r:Nat) (o:Obj):Only [r] w (setBlock w r o):=by
 refine ⟨rfl,rfl,rfl,by simp [setBlock],λk _ hk=>?_⟩;unfold setBlock;simp only;rw [Array.getElem?_setIfInBounds_ne (by simp at hk;omega)]
def kY (w:World) (r:Nat):Nat:=match w.heap[r]? with | some (.mapIter _ _ seen _)=>if seen.size=0 then 1 else 0 | _=>0
theorem rB {w w':World} {r:Nat} (h:w'.heap[r]? = w.heap[r]?):kY w' r=kY w r:=by unfold kY;rw [h]
structure Iter1 (w w1 w2:World) (mb c:Nat) (e:MapEntry):Prop where
 range:(Instr.range 67 (.map (some mb))).run Tryz.prog w = .ok (.pointer (some ⟨w.heap.size,0,none⟩)) w1
 next:∀ty,(Instr.next (.pointer (some ⟨w.heap.size,0,none⟩)) false ty).run Tryz.prog w1 = .ok (.tuple #[.bool true,e.key,e.val]) w2
 entry:(Instr.entry (.pointer (some ⟨w.heap.size,0,none⟩))).run Tryz.prog w2 = .ok (.tuple #[e.key,e.val]) w2
 done:∀ty w3,w3.heap[w.heap.size]? = w2.heap[w.heap.size]? -> w3.heap[mb]? = w2.heap[mb]? -> (Instr.next (.pointer (some ⟨w.heap.size,0,none⟩)) false ty).run Tryz.prog w3 = .ok (.tuple #[.bool false]) w3
 b1:Below w.heap.size w w1
 b2:Below w.heap.size w w2
 sz:w2.heap.size=w.heap.size+1
 l1:kY w1 w.heap.size=1
 l2:kY w2 w.heap.size=0
theorem B1 {w:World} {mb c:Nat} {e:MapEntry} (h:w.heap[mb]? = some (.map #[e] c)) (he:e.born<c):∃w1 w2,Iter1 w w1 w2 mb c e:=by
 have hlt:=aQ h;have hn:=aK w (.mapIter (some mb) c #[] c);have hb1:(w.alloc (.mapIter (some mb) c #[] c)).heap[mb]? = some (.map #[e] c):=bb h _;have hsz:(w.alloc (.mapIter (some mb) c #[] c)).heap.size=w.heap.size+1:=by simp
 have ho:=jY (w.alloc (.mapIter (some mb) c #[] c)) w.heap.size (.mapIter (some mb) c #[e.born] c);have hb2:=ho.keeps hb1 (by simp;omega);have hr2:=l9 (w.alloc (.mapIter (some mb) c #[] c)) w.heap.size (.mapIter (some mb) c #[e.born] c) (by rw [hsz];omega);have hB1:Below w.heap.size w (w.alloc (.mapIter (some mb) c #[] c)):=(az _ _).alloc (ah _) _;refine ⟨_,_,run_range_map w 67 9 119 mb #[e] c Tryz.underlying67 h,λty=>yR hn hb1 he,wV hr2 hb2,λty w3 hb hm=>?_,hB1,hB1.trans (ho.below (by rw [hsz];omega) (by simp)),by simp [setBlock],by unfold kY;rw [hn];rfl,by unfold kY;rw [hr2];rfl⟩;have hr3:w3.heap[w.heap.size]? = some (.mapIter (some mb) c #[e.born] c):=hb.trans hr2;exact yS hr3 (hm.trans hb2) he
theorem yF {w:World} {base:Nat} {e:TypeId} {v:Value} {l:List UInt8} (h:OwnB w base e v l):l.length<=9223372036854775807:=by
 rcases h.2 with ⟨_,h0⟩ | ⟨g,cap,cur,_,_,_,hn,hm,_⟩
 ·have:l.length=0:=by simpa using h0
  omega
 ·unfold maxLen at hm;omega
section
variable {w:World} {D:List Nat} {d:Nat} {s:Dk}
set_option maxHeartbeats 400000 in
theorem oO (h:IsDk w D d s):Calls Tryz.prog 116 #[.pointer (some ⟨d,0,none⟩)] w λe w'=>e = .returned (.int .i64 (s.total:Int))/\Below w.heap.size w w':=by
 obtain ⟨⟨mb,h1,_,hf⟩,_⟩:=h;have hc:w.cell? ⟨d,3,none⟩=some (.map (some mb)):=by rw [af h1];rfl
 cases hfile:s.file with
 | none =>
  have ht:s.total=0:=by unfold Dk.total;rw [hfile]
  rw [hfile] at hf;obtain ⟨c,hm⟩:=hf;have hr:=run_range_map (P:=Tryz.prog) w 67 9 119 mb #[] c Tryz.underlying67 hm;have hn:∀ty,(Instr.next (.pointer (some ⟨w.heap.size,0,none⟩)) false ty).run Tryz.prog (w.alloc (.mapIter (some mb) c #[] c)) = .ok (.tuple #[.bool false]) (w.alloc (.mapIter (some mb) c #[] c)):=λty=>uE (aK w _) (bb hm _);have HB:Hid (Below w.heap.size w (w.alloc (.mapIter (some mb) c #[] c))):=ab ((az _ _).alloc (ah _) _);rw [ht];clear h1 hm ht hfile;generalize (w.alloc (.mapIter (some mb) c #[] c))=w1 at *;go_enter Tryz.func116,Tryz.ntmps116
  go_wp2_with fail
  go_loopw [3,5] (λv _ wr=>wr=w1/\v = .int .i64 0) (λ_ _ _=>0)
  case atStart=>exact ⟨rfl,rfl⟩
  case round =>
   obtain ⟨rfl,rfl⟩:=hrel;go_wp2_with fail
   go_ret
   exact ⟨rfl,HB.out⟩
 | some p =>
  obtain ⟨l,safe⟩:=p;have ht:s.total=l.length:=by unfold Dk.total;rw [hfile]
  rw [hfile] at hf;obtain ⟨c,fb,b0,v,hm,hb0,_,h4,h5,_⟩:=hf;obtain ⟨w1,w2,hI⟩:=B1 hm hb0;have hlen:=yF h5;obtain ⟨ao,cp,rfl,_⟩:=h5.isB;have hr:=hI.range;have hn:=hI.next;have he:=hI.entry;have hd:∀ty,(Instr.next (.pointer (some ⟨w.heap.size,0,none⟩)) false ty).run Tryz.prog w2 = .ok (.tuple #[.bool false]) w2:=λty=>hI.done ty w2 rfl rfl;have hc0:w2.cell? ⟨fb,0,none⟩=some (.slice ao l.length cp):=by rw [af (bd hI.b2 (aQ h4) h4)];rfl
  have HB:=ab hI.b2;rw [ht];have HL:=ab (And.intro hI.l1 hI.l2);clear h1 hm ht hfile h4 h5 hI;simp only at hn he;go_enter Tryz.func116,Tryz.ntmps116
  go_wp2_with fail
  go_loopw [3,5] (λv _ wr=>(wr=w1/\v = .int .i64 0)\/(wr=w2/\v = .int .i64 (l.length:Int))) (λ_ _ wr=>kY wr w.heap.size)
  case atStart=>exact .inl ⟨rfl,rfl⟩
  case round =>
   rcases hrel with ⟨rfl,rfl⟩ | ⟨rfl,rfl⟩
   ·clear hd;go_wp2_with fail
    go_roundw
    case rel=>exact .inr ⟨trivial,by go_num⟩
    case measure=>rw [HL.out.1,HL.out.2];omega
   ·clear hn;go_wp2_with fail
    go_ret
    exact ⟨rfl,HB.out⟩
end
def Dj (w:World) (ao:Option Addr) (m:Nat) (news:List Value):Prop:=(ao=none/\m=0)\/∃ad,ao=some ad/\∀j u,news[j]? = some u->w.cell? (ad.add j)=some u
theorem je {w w':World} {v:Value} (h:w.grownBy w' v.ownBlock):Only v.ownBlock.toList w w' :=
 ⟨h.os,h.tape,h.output,h.size,λk hk hn=>h.block k hk (λe=>hn (by rw [<-e];simp))⟩
theorem du {w:World} {base n:Nat} {e:TypeId} {size:Nat} {v:Value} {xs:List Value} (h:w.ownsRow base e size v n xs):∃ao c,v = .slice ao n c/\n<=c/\c<=9223372036854775807:=by
 rcases h.2 with ⟨rfl,h0⟩ | ⟨g,cap,cur,rfl,_,_,hn,hm,_⟩
 ·exact ⟨none,0,by rw [h0],by omega,by decide⟩
 ·unfold maxLen at hm;exact ⟨_,cap,rfl,hn,by omega⟩
section
variable {P:Program} {w:World}
theorem mz (t ty e:TypeId) (i:TypeInfo) (z:Value) (size bytes:Nat) (ht:P.underlying t=some (.slice e)) (hi:P.info? e=some i) (hz:i.zero=some z)
  (hsize:i.size=size) (hby:i.bytes=bytes) (hzs:z.cells.size=size) (hsz:0<size)
  (v:Value) (n:Nat) (xs:List Value) (hown:w.ownsRow 0 e size v n xs)
  (ao:Option Addr) (m c:Nat) (hnil:ao=none->c=0) (news:List Value) (hl:news.length=m*size) (hsrc:Dj w ao m news) (h1:∀u∈news,u.oneCell'=true)
  (h63:n+m<=maxLen) (hbytes:(n+m)*bytes<=140737488355328) :
  ∃v' w',(Builtin.append_ #[t,t] ty #[v,.slice ao m c]).run P w = .ok v' w'/\w'.ownsRow 0 e size v' (n+m) (xs++news)/\Only v.ownBlock.toList w w' /\
   (∀k,v'.ownBlock=some k->v.ownBlock=some k\/w.heap.size<=k):=by
 rcases hsrc with ⟨rfl,rfl⟩ | ⟨ad,rfl,hnews⟩
 ·obtain rfl:c=0:=hnil rfl;obtain rfl:news=[]:=br.1 (by simpa using hl);exact ⟨v,w,run_append_owned_none (P:=P) (w:=w) 0 t ty e i size ht hi v n xs hown,by simpa using hown,Only.refl _ _,λk hk=>.inl hk⟩
 ·obtain ⟨v',w',hr,h2,h3,_,h5⟩:=run_append_own_at (P:=P) w 0 t ty e i z size bytes ht hi hz hsize hby hzs hsz v n xs hown ad m c news hl hnews h1 h63 hbytes (aH _);refine ⟨v',w',hr,h2,je h3,λk hk=>?_⟩;rcases h5 with h5 | h5
  ·exact .inl (by rw [<-h5];exact hk)
  ·right;rw [h5] at hk;cases hk;exact ah _
theorem eD {ops:Array Oper} {rest:List Oper} {o:Oper} {a:Act} {Q:Exit->Act->World->Prop} (hgd:o.guard=none) (s x:Operand) (t:TypeId)
  (ho:o.op = .call { callee:=.builtin .append,args:=#[s,x],argTypes:=#[t,t]})
  (e:TypeId) (i:TypeInfo) (z:Value) (size bytes:Nat) (ht:P.underlying t=some (.slice e)) (hi:P.info? e=some i) (hz:i.zero=some z)
  (hsize:i.size=size) (hby:i.bytes=bytes) (hzs:z.cells.size=size) (hsz:0<size)
  (v:Value) (n:Nat) (xs:List Value) (hs:a.eval s=v) (hown:w.ownsRow 0 e size v n xs)
  (ao:Option Addr) (m c:Nat) (hx:a.eval x = .slice ao m c) (hnil:ao=none->c=0) (news:List Value) (hl:news.length=m*size) (hsrc:Dj w ao m news) (h1:∀u∈news,u.oneCell'=true)
  (h63:n+m<=maxLen) (hbytes:(n+m)*bytes<=140737488355328)
  (h:∀v' w',w'.ownsRow 0 e size v' (n+m) (xs++news)->Only v.ownBlock.toList w w'->(∀k,v'.ownBlock=some k->v.ownBlock=some k\/w.heap.size<=k)->wpList P ops Q rest (a.put o.dst v') w'):wpList P ops Q (o::rest) a w:=by
 obtain ⟨v',w',hr,h2,h3,h4⟩:=mz (w:=w) t o.type e i z size bytes ht hi hz hsize hby hzs hsz v n xs hown ao m c hnil news hl hsrc h1 h63 hbytes;refine wpList_plain hgd λK hK=>?_;unfold Oper.wp;simp [execOp,ho,resolve,invoke,builtin,hs,hx,hr,Result.andThen];exact hK _ _ (h v' w' h2 h3 h4)
theorem IsB.src {ao:Option Addr} {m c:Nat} {l:List UInt8} (h:IsB w ao m c l):Dj w ao m (l.map bv):=by
 obtain ⟨h1,h2,h3⟩:=h;cases ao with
 | none=>exact .inl ⟨rfl,(h2 rfl).1⟩
 | some ad =>
  refine .inr ⟨ad,rfl,λj u hj=>?_⟩;rcases h3 with h3 | ⟨b,off,h4,h5⟩
  ·subst h3;obtain rfl:l=[]:=br.1 h1;simp at hj
  ·obtain rfl:ad=⟨b,off,none⟩:=by simpa using h4
   have hjl:j<l.length:=by
    rcases DN j l.length with hlt | hge
    ·exact hlt
    ·simp [dR hge] at hj
   have:=h5 j (by omega);rw [Addr.add_lit,this];simp [hjl] at hj;simp [<-hj,hjl,bv]
theorem ip {ops:Array Oper} {rest:List Oper} {o:Oper} {a:Act} {Q:Exit->Act->World->Prop} (hgd:o.guard=none) (s x:Operand) (t:TypeId)
  (ho:o.op = .call { callee:=.builtin .append,args:=#[s,x],argTypes:=#[t,t]})
  (e:TypeId) (ht:P.underlying t=some (.slice e)) (hi:(P.info? e).map (λi=>(i.zero,i.size,i.bytes))=some (some (.int .u8 0),1,1))
  (v:Value) (l:List UInt8) (hs:a.eval s=v) (hown:OwnB w 0 e v l)
  (ao:Option Addr) (m c:Nat) (l2:List UInt8) (hx:a.eval x = .slice ao m c) (hsrc:IsB w ao m c l2) (hbytes:l.length+m<=140737488355328)
  (h:∀v' w',OwnB w' 0 e v' (l++l2)->Only v.ownBlock.toList w w'->(∀k,v'.ownBlock=some k->v.ownBlock=some k\/w.heap.size<=k)->wpList P ops Q rest (a.put o.dst v') w'):wpList P ops Q (o::rest) a w:=by
 obtain ⟨i0,hi0,hz0,hz1,hz2⟩:=info_parts hi;refine eD hgd s x t ho e i0 (.int .u8 0) 1 1 ht hi0 hz0 hz1 hz2 rfl (by decide) v _ _ hs hown ao m c hx (λe=>(hsrc.nil e).2) (l2.map bv) (by rw [aP,hsrc.len,Nat.mul_one]) hsrc.src ?_ (by unfold maxLen;omega) (by omega) ?_
 ·intro u hu;obtain ⟨y,_,rfl⟩:=cF.1 hu;rfl
 ·intro v' w' g1 g2 g3;refine h v' w' ?_ g2 g3;unfold OwnB;rw [ay,hsrc.len,bS];exact g1
end
section
variable {P:Program} {ops:Array Oper} {Q:Exit->Act->World->Prop} {md:Region.Mode} {S:World->Prop}
def CallsIf (P:Program) (ops:Array Oper) (S:World->Prop) (o:Oper) (v:Value) (a:Act):Prop :=
 Region.wanted o (yielded ops a.tmps)=true/\∀w,S w->∃f args,(execOp a.eval o).run P w = .ok (.enter f args) w/\Calls P f args w (λe w'=>e = .returned v/\w=w')
theorem CallsIf.wpOp {i:Nat} {o:Oper} {v:Value} {a:Act} (hi:ops[i]? = some o) (hy:CallsIf P ops S o v a)
  {K:Act->World->Prop} {w:World} (hS:S w) (h:K (a.put o.dst v) w):wpOp P ops Q i K a w:=by
 unfold Go.wpOp;simp only [hi];obtain ⟨hw,hv⟩:=hy;obtain ⟨f,args,h1,h2⟩:=hv w hS;simp only [hw,if_true,Oper.wp,h1,Oper.upon];refine .inl (h2.mono ?_);rintro e w' ⟨rfl,rfl⟩;exact h
theorem CallsIf.of_same {o:Oper} {v:Value} {a a':Act} (hy:CallsIf P ops S o v a) (he:execOp a'.eval o=execOp a.eval o)
  (hw:Region.wanted o (yielded ops a'.tmps)=Region.wanted o (yielded ops a.tmps)):CallsIf P ops S o v a':=by
 unfold CallsIf at *;rw [he,hw];exact hy
theorem vb {j:Nat} {oi oj:Oper} {v:Value} (hj:ops[j]? = some oj) (hap:oi.apart ops oj=true)
  (hsi:∀cs b,oi.op ≠ .select cs b) (hsj:∀cs b,oj.op ≠ .select cs b)
  (hQ:∀c a w,Q (.panic c) (a.put oi.dst v) w->Q (.panic c) a w) {K:Act->World->Prop} {a:Act} {w:World}
  (hy:CallsIf P ops S oi v a) (h:wpOp P ops Q j K (a.put oi.dst v) w) :
  wpOp P ops Q j (λa' w'=>CallsIf P ops S oi v a'/\K (a'.put oi.dst v) w') a w:=by
 obtain ⟨h1,h2,h3⟩:=Oper.apart_spec hap;have keep:∀(a:Act),CallsIf P ops S oi v a->∀u,CallsIf P ops S oi v (a.put oj.dst u):=λa hy u =>
  hy.of_same (execOp_put oi hsi a oj.dst u h3) (wanted_put oi a oj.dst u h3)
 have keepD:∀d,CallsIf P ops S oi v { a with defers:=d::a.defers }:=λd=>hy.of_same rfl rfl;unfold wpOp at *;simp only [hj] at *;rw [wanted_put oj a oi.dst v h1] at h;split
 ·rename_i hw;simp only [hw,if_true] at h;rcases h with h | ⟨hasks,hlets⟩
  case inr=>exact .inr ⟨by unfold Oper.asks at *;rw [execOp_put oj hsj a oi.dst v h1] at hasks;exact hasks,hlets⟩
  refine .inl ?_;unfold Oper.wp at *;rw [execOp_put oj hsj a oi.dst v h1] at h;generalize (execOp a.eval oj).run P w=r at *;cases r with
  | ok n w' =>
   cases n<;>simp only [Oper.upon] at h ⊢
   case value u=>exact ⟨keep a hy u,by rw [<-Act.put_comm a v u h2];exact h⟩
   case skip=>exact ⟨keep a hy _,by rw [<-Act.put_comm a v undef h2];exact h⟩
   case defer d =>
    refine ⟨keep _ (keepD d) _,?_⟩;rw [<-Act.put_comm _ v undef h2,<-Act.put_defers];exact h
   case enter f args =>
    refine Calls.mono h λe w'' he=>?_;cases e with
    | returned u=>exact ⟨keep a hy u,by rw [<-Act.put_comm a v u h2];exact he⟩
    | panicked c=>exact hQ _ _ _ he
    | outgrown=>exact he
   case row row args=>exact Rows.mono h λu w'' he=>⟨keep a hy u,by rw [<-Act.put_comm a v u h2];exact he⟩
  | halt x w' =>
   cases x<;>simp only [Oper.upon] at h ⊢
   case panic u=>exact hQ _ _ _ h
 ·rename_i hw;simp only [hw] at h;exact ⟨keep a hy _,by rw [<-Act.put_comm a v undef h2];exact h⟩
theorem ot {i:Nat} {oi:Oper} {v:Value} (hi:ops[i]? = some oi) (hsel:∀(j:Nat) (o:Oper) cs b,ops[j]? = some o->o.op ≠ .select cs b)
  (hQ:∀c a w,Q (.panic c) (a.put oi.dst v) w->Q (.panic c) a w) :
  ∀(fuel:Nat) (listed:Array Bool) (a:Act) (w:World),
   (∀j oj,ops[j]? = some oj->j≠i->listed.getD j true=false->(∀e∈oj.after,Region.binds md e=true->e.on≠i)->oi.apart ops oj=true) ->
   i∈Region.ready md ops listed->CallsIf P ops S oi v a->S w ->
   wpAnyH P md ops Q S fuel (listed.setIfInBounds i true) (a.put oi.dst v) w->wpAnyH P md ops Q S (fuel+1) listed a w:=by
 intro fuel;induction fuel with
 | zero =>
  intro listed a w _ hr hy hS H;refine ⟨λh=>(by rw [h] at hr;cases hr),λj hj=>?_⟩;by_cases hji:j=i
  ·subst hji;exact hy.wpOp hi hS ⟨hS,H⟩
  ·have:=ready_mono hj hji;rw [H.1] at this;cases this
 | succ fuel ih =>
  intro listed a w hfree hr hy hS H;refine ⟨λh=>(by rw [h] at hr;cases hr),λj hj=>?_⟩;by_cases hji:j=i
  ·subst hji;exact hy.wpOp hi hS ⟨hS,H⟩
  ·have h1:=H.2 j (ready_mono hj hji);obtain ⟨hjun,oj,hoj,hall⟩:=mem_ready.1 hj;have hnot:∀e∈oj.after,Region.binds md e=true->e.on≠i:=λe he hb heq=>by
    have h1:=hall e he hb;have h0:=(mem_ready.1 hr).1;rw [heq] at h1;rcases DN i listed.size with h' | h'
    ·simp [h'] at h0 h1;rw [h0] at h1;cases h1
    ·simp [Array.getElem?_eq_none h'] at h1
   have h2:=vb hoj (hfree j oj hoj hji hjun hnot) (λcs b=>hsel i oi cs b hi) (λcs b=>hsel j oj cs b hoj) hQ hy h1;have hfree':∀k ok,ops[k]? = some ok->k≠i->(listed.setIfInBounds j true).getD k true=false ->
     (∀e∈ok.after,Region.binds md e=true->e.on≠i)->oi.apart ops ok=true:=λk ok hk hki hun hno=>by
    refine hfree k ok hk hki ?_ hno;by_cases hjk:j=k
    ·subst hjk;exact hjun
    ·rw [getD_set_ne true hjk] at hun;exact hun
   refine wpOp_mono (λa' w' h3=>⟨h3.2.1,ih (listed.setIfInBounds j true) a' w' hfree' (ready_mono hr (Ne.symm hji)) h3.1 h3.2.1 ?_⟩) h2;rw [Array.setIfInBounds_comm _ _ hji];exact h3.2.2
theorem fP {i:Nat} {oi:Oper} {v:Value} {fuel:Nat} {listed:Array Bool} {a:Act} {w:World} (hi:ops[i]? = some oi)
  (hs:Region.noSelect ops=true) (hf:Region.free md ops listed i=true) (hr:(Region.ready md ops listed).contains i=true)
  (hQ:∀c a w,Q (.panic c) (a.put oi.dst v) w->Q (.panic c) a w) (hwt:Region.wanted oi (yielded ops a.tmps)=true) (f:FuncId) (args:Array Value) (hrun:∀w,S w->(execOp a.eval oi).run P w = .ok (.enter f args) w) (hc:∀w,S w->Calls P f args w (λe w'=>e = .returned v/\w=w')) (hS:S w)
  (h:wpAnyH P md ops Q S fuel (listed.setIfInBounds i true) (a.put oi.dst v) w):wpAnyH P md ops Q S (fuel+1) listed a w :=
 ot hi (Region.noSelect_spec hs) hQ fuel listed a w (Region.free_spec hi hf) (by simpa using hr) ⟨hwt,λw hw=>⟨f,args,hrun w hw,hc w hw⟩⟩ hS h
theorem tY {P:Program} {ρ:Operand->Value} {o:Oper} {t:TypeId} {ps:Array (Nat×Operand)} {v:Value} {w:World} (ho:o.op = .build t ps) (parts:Array (Nat×Value)) (hp:(ps.toList.map λp=>(p.1,ρ p.2))=parts.toList) (hr:(Instr.build t parts).run P w = .ok v w):(execOp ρ o).run P w = .ok (.value v) w:=by
 have hp2:ps.map (λp=>(p.1,ρ p.2))=parts:=Array.ext' (by rw [Array.toList_map];exact hp);subst hp2;simp [execOp,ho,hr,Result.andThen]
end
theorem bH {p q:Prop} (h:q) (e:p=q:=by ((try simp only [Act.put,d9,qA,qB])<;>exact rfl)):p:=by rw [e];exact h
inductive Nth:List Oper->Nat->Oper->Prop
 | z {o:Oper} {l:List Oper}:Nth (o::l) 0 o
 | s {a o:Oper} {l:List Oper} {n:Nat}:Nth l n o->Nth (a::l) (n+1) o
theorem Nth.get {l:List Oper} {n:Nat} {o:Oper} (h:Nth l n o):l.toArray[n]? = some o:=by
 rw [gZ];induction h with
 | z=>rfl
 | s h ih=>rw [List.getElem?_cons_succ];exact ih
section
variable {P:Program} {l:List Oper} {Q:Exit->Act->World->Prop} {md:Region.Mode} {S:World->Prop} {fuel:Nat} {listed:Array Bool} {a a':Act} {w:World}
theorem aB (i:Nat) {oi:Oper} {v:Value}
  (h:wpAnyH P md l.toArray Q S fuel (listed.setIfInBounds i true) a' w)
  (hi:Nth l i oi:=by (repeat apply Nth.s)<;>exact Nth.z)
  (hw:Region.wanted oi (yielded l.toArray a.tmps)=true:=by rfl)
  (hy:∀w,S w->(execOp a.eval oi).run P w = .ok (.value v) w:=by (intro w hSw;(try dsimp only at hSw);go_simp<;>with_reducible rfl))
  (ha:a.put oi.dst v=a':=by ((try simp only [Act.put,d9,qA,qB])<;>exact rfl))
  (hs:Region.noSelect l.toArray=true:=by kernel_rfl) (hf:Region.free md l.toArray listed i=true:=by kernel_rfl) (hr:(Region.ready md l.toArray listed).contains i=true:=by kernel_rfl)
  (hQ:∀c a w,Q (.panic c) (a.put oi.dst v) w->Q (.panic c) a w:=by exact λ_ _ _ h=>h) (hS:S w:=by exact am):wpAnyH P md l.toArray Q S (fuel+1) listed a w :=
 wpAnyH_take hi.get hs hf hr hQ (Or.inl ⟨hw,hy⟩) hS (by rw [ha];exact h)
theorem DC (i:Nat) {oi:Oper} {v:Value} (hi:Nth l i oi) (hy:∀w,S w->(execOp a.eval oi).run P w = .ok (.value v) w)
  (h:wpAnyH P md l.toArray Q S fuel (listed.setIfInBounds i true) a' w)
  (hw:Region.wanted oi (yielded l.toArray a.tmps)=true:=by rfl)
  (ha:a.put oi.dst v=a':=by ((try simp only [Act.put,d9,qA,qB])<;>exact rfl))
  (hs:Region.noSelect l.toArray=true:=by kernel_rfl) (hf:Region.free md l.toArray listed i=true:=by kernel_rfl) (hr:(Region.ready md l.toArray listed).contains i=true:=by kernel_rfl)
  (hQ:∀c a w,Q (.panic c) (a.put oi.dst v) w->Q (.panic c) a w:=by exact λ_ _ _ h=>h) (hS:S w:=by exact am):wpAnyH P md l.toArray Q S (fuel+1) listed a w :=
 wpAnyH_take hi.get hs hf hr hQ (Or.inl ⟨hw,hy⟩) hS (by rw [ha];exact h)
theorem bP (i:Nat) {oi:Oper}
  (h:wpAnyH P md l.toArray Q S fuel (listed.setIfInBounds i true) a' w)
  (hi:Nth l i oi:=by (repeat apply Nth.s)<;>exact Nth.z)
  (hw:Region.wanted oi (yielded l.toArray a.tmps)=false:=by rfl)
  (ha:a.put oi.dst undef=a':=by ((try simp only [Act.put,d9,qA,qB])<;>exact rfl))
  (hs:Region.noSelect l.toArray=true:=by kernel_rfl) (hf:Region.free md l.toArray listed i=true:=by kernel_rfl) (hr:(Region.ready md l.toArray listed).contains i=true:=by kernel_rfl)
  (hQ:∀c a w,Q (.panic c) (a.put oi.dst undef) w->Q (.panic c) a w:=by exact λ_ _ _ h=>h) (hS:S w:=by exact am):wpAnyH P md l.toArray Q S (fuel+1) listed a w :=
 wpAnyH_take (v:=undef) hi.get hs hf hr hQ (Or.inr ⟨hw,rfl⟩) hS (by rw [ha];exact h)
theorem cC (i:Nat) {o:Oper}
  (g0:∀K':Act->World->Prop,Shut (∀a w,S w->(S w->wpAnyH P md l.toArray Q S fuel (listed.setIfInBounds i true) a w)->K' a w)->if Region.wanted o (yielded l.toArray a.tmps)=true then Oper.wp P o a w K' Q else K' (a.put o.dst undef) w)
  (h0:Nth l i o:=by (repeat apply Nth.s)<;>exact Nth.z)
  (hr:Region.ready md l.toArray listed=[i]:=by kernel_rfl):wpAnyH P md l.toArray Q S (fuel+1) listed a w :=
 wpAnyH_ready hr (by simp) (AllReadyH.cons h0.get g0 AllReadyH.nil)
theorem j5 (i j:Nat) {o p:Oper}
  (g0:∀K':Act->World->Prop,Shut (∀a w,S w->(S w->wpAnyH P md l.toArray Q S fuel (listed.setIfInBounds i true) a w)->K' a w)->if Region.wanted o (yielded l.toArray a.tmps)=true then Oper.wp P o a w K' Q else K' (a.put o.dst undef) w)
  (g1:∀K':Act->World->Prop,Shut (∀a w,S w->(S w->wpAnyH P md l.toArray Q S fuel (listed.setIfInBounds j true) a w)->K' a w)->if Region.wanted p (yielded l.toArray a.tmps)=true then Oper.wp P p a w K' Q else K' (a.put p.dst undef) w)
  (h0:Nth l i o:=by (repeat apply Nth.s)<;>exact Nth.z)
  (h1:Nth l j p:=by (repeat apply Nth.s)<;>exact Nth.z)
  (hr:Region.ready md l.toArray listed=[i,j]:=by kernel_rfl):wpAnyH P md l.toArray Q S (fuel+1) listed a w :=
 wpAnyH_ready hr (by simp) (AllReadyH.cons h0.get g0 (AllReadyH.cons h1.get g1 AllReadyH.nil))
theorem CW (i j k:Nat) {o p q:Oper}
  (g0:∀K':Act->World->Prop,Shut (∀a w,S w->(S w->wpAnyH P md l.toArray Q S fuel (listed.setIfInBounds i true) a w)->K' a w)->if Region.wanted o (yielded l.toArray a.tmps)=true then Oper.wp P o a w K' Q else K' (a.put o.dst undef) w)
  (g1:∀K':Act->World->Prop,Shut (∀a w,S w->(S w->wpAnyH P md l.toArray Q S fuel (listed.setIfInBounds j true) a w)->K' a w)->if Region.wanted p (yielded l.toArray a.tmps)=true then Oper.wp P p a w K' Q else K' (a.put p.dst undef) w)
  (g2:∀K':Act->World->Prop,Shut (∀a w,S w->(S w->wpAnyH P md l.toArray Q S fuel (listed.setIfInBounds k true) a w)->K' a w)->if Region.wanted q (yielded l.toArray a.tmps)=true then Oper.wp P q a w K' Q else K' (a.put q.dst undef) w)
  (h0:Nth l i o:=by (repeat apply Nth.s)<;>exact Nth.z)
  (h1:Nth l j p:=by (repeat apply Nth.s)<;>exact Nth.z)
  (h2:Nth l k q:=by (repeat apply Nth.s)<;>exact Nth.z)
  (hr:Region.ready md l.toArray listed=[i,j,k]:=by kernel_rfl):wpAnyH P md l.toArray Q S (fuel+1) listed a w :=
 wpAnyH_ready hr (by simp) (AllReadyH.cons h0.get g0 (AllReadyH.cons h1.get g1 (AllReadyH.cons h2.get g2 AllReadyH.nil)))
theorem DD (i j k m:Nat) {o p q r:Oper}
  (g0:∀K':Act->World->Prop,Shut (∀a w,S w->(S w->wpAnyH P md l.toArray Q S fuel (listed.setIfInBounds i true) a w)->K' a w)->if Region.wanted o (yielded l.toArray a.tmps)=true then Oper.wp P o a w K' Q else K' (a.put o.dst undef) w)
  (g1:∀K':Act->World->Prop,Shut (∀a w,S w->(S w->wpAnyH P md l.toArray Q S fuel (listed.setIfInBounds j true) a w)->K' a w)->if Region.wanted p (yielded l.toArray a.tmps)=true then Oper.wp P p a w K' Q else K' (a.put p.dst undef) w)
  (g2:∀K':Act->World->Prop,Shut (∀a w,S w->(S w->wpAnyH P md l.toArray Q S fuel (listed.setIfInBounds k true) a w)->K' a w)->if Region.wanted q (yielded l.toArray a.tmps)=true then Oper.wp P q a w K' Q else K' (a.put q.dst undef) w)
  (g3:∀K':Act->World->Prop,Shut (∀a w,S w->(S w->wpAnyH P md l.toArray Q S fuel (listed.setIfInBounds m true) a w)->K' a w)->if Region.wanted r (yielded l.toArray a.tmps)=true then Oper.wp P r a w K' Q else K' (a.put r.dst undef) w)
  (h0:Nth l i o:=by (repeat apply Nth.s)<;>exact Nth.z)
  (h1:Nth l j p:=by (repeat apply Nth.s)<;>exact Nth.z)
  (h2:Nth l k q:=by (repeat apply Nth.s)<;>exact Nth.z)
  (h3:Nth l m r:=by (repeat apply Nth.s)<;>exact Nth.z)
  (hr:Region.ready md l.toArray listed=[i,j,k,m]:=by kernel_rfl):wpAnyH P md l.toArray Q S (fuel+1) listed a w :=
 wpAnyH_ready hr (by simp) (AllReadyH.cons h0.get g0 (AllReadyH.cons h1.get g1 (AllReadyH.cons h2.get g2 (AllReadyH.cons h3.get g3 AllReadyH.nil))))
theorem fI (h:Q .normal a w) (hr:Region.ready md l.toArray listed=[]:=by kernel_rfl):wpAnyH P md l.toArray Q S fuel listed a w:=wpAnyH_done hr h fuel
end
theorem bq (w:World):Below w.heap.size w w.drew:=⟨rfl,rfl,rfl,ah _,λ_ _=>rfl⟩
def Ak (f:Option (List UInt8×Nat)) (l:List UInt8):Option (List UInt8×Nat):=match f with | none=>some (l,0) | some (m,k)=>some (m++l,k)
def jI (s:Dk) (l:List UInt8):Dk:={ s with file:=Ak s.file l }
section
variable {w:World} {D:List Nat} {d:Nat} {s:Dk}
set_option maxHeartbeats 1000000 in
theorem sA (h:IsDk w D d s) (ho:s.off=false) (t:ByteArray) (ht:lq t) (ao:Option Addr) (n c:Nat) (hr:s.room - (s.total:Int)<(n:Int)) (h0:0<=s.room) (h1:s.room<=1048576) (h2:(s.total:Int)<=s.room) :
  Calls Tryz.prog 113 #[.pointer (some ⟨d,0,none⟩),.string t,.slice ao n c] w λe w'=>e = .returned (.int .i64 9)/\Below w.heap.size w w':=by
 have hb:Below w.heap.size w (w.alloc (.cells #[.string t] 9)):=(az _ _).alloc (ah _) _;have hW:=h.below hb;have HM:=ab (qb hW ho w.heap.size t (by rw [af (aK _ _)];rfl) ht);have HB:=ab hb;have HTO:Hid (∀w',Below (w.alloc (.cells #[.string t] 9)).heap.size (w.alloc (.cells #[.string t] 9)) w'->Calls Tryz.prog 116 #[.pointer (some ⟨d,0,none⟩)] w' λe w''=>e = .returned (.int .i64 (s.total:Int))/\Below w'.heap.size w' w''):=ab λw' hb=>oO (hW.below hb);obtain ⟨⟨mb,k1,_⟩,_⟩:=hW;have hr0:∀w',Below (w.alloc (.cells #[.string t] 9)).heap.size (w.alloc (.cells #[.string t] 9)) w'->w'.cell? ⟨d,0,none⟩=some (.int .i64 s.room):=λw' hb=>by rw [af (bd hb (aQ k1) k1)];rfl
 clear h hb k1;generalize s.total=T at *;generalize s.room=R at *;have q1:IntKind.i64.wrap (R - (T:Int))=R - (T:Int):=IntWalk.i64_in _ (by omega);go_enter Tryz.func113,Tryz.ntmps113
 go_wp2_with fail
 refine HM.out.mono ?_;rintro e w1 ⟨rfl,rfl⟩;go_upto_region 4 with (fail)
 generalize w.alloc (.cells #[.string t] 9)=W at *;refine wp_region_held_drew (S:=λw'=>Below W.heap.size W w') (by kernel_rfl) (bq W) (λam=>?_);refine aB 0 ?_;refine aB 1 ?_;refine aB 2 ?_;refine aB 3 ?_;refine aB 4 ?_;refine aB 5 ?_;refine aB 6 ?_;refine cC 7 λK hK=>?_;go_simp
 refine (HTO.out _ (by exact bq _)).mono ?_;rintro e w5 ⟨rfl,hb5⟩;have HB5:=ab hb5;go_wp2_with fail
 refine hK.out _ _ (am.trans (hb5.mono am.size)) (λam=>?_);clear hK K;refine bH ?_;clear hb5;refine cC 8 λK hK=>?_;go_simp
 refine hK.out _ _ am (λam=>?_);clear hK K;refine bH ?_;refine cC 9 λK hK=>?_;go_simp
 refine hK.out _ _ am (λam=>?_);clear hK K;refine bH ?_;refine fI ?_;go_wp2_with fail
 go_ret
 exact ⟨rfl,HB.out.trans (((bq W).trans (HB5.out.mono (ah _))).mono HB.out.size)⟩
theorem fX {w:World} {a b:Nat} {x y:Obj} (h1:w.heap[a]? = some x) (h2:w.heap[b]? = some y) (hne:x≠y):a≠b:=by
 intro e;rw [e,h2] at h1;exact hne (Option.some.inj h1).symm
theorem i8 {w:World} {b:Nat} {v:Value} {l:List UInt8} {o:Obj} (ho:OwnB w 0 5 v l) (h:w.heap[b]? = some o) (hne:∀cur,o ≠ .cells cur 5 (0,0)):b∉v.ownBlock.toList:=by
 intro hm;have hk:v.ownBlock=some b:=by simpa using hm
 rcases ho.2 with ⟨rfl,_⟩ | ⟨g,cap,cur,rfl,_,hg,_⟩
 ·simp [Value.ownBlock] at hk
 ·simp [Value.ownBlock] at hk;subst hk;rw [hg] at h;exact hne cur (Option.some.inj h).symm
theorem o6 {w w':World} {S:List Nat} {v:Value} {l:List UInt8} (ho:OwnB w 0 5 v l) (h:Only S w w') (hS:∀k,v.ownBlock=some k->k∉S):OwnB w' 0 5 v l:=bu ho h hS
theorem mG {w:World} {v:Value} {l:List UInt8} (ho:OwnB w 0 5 v l):∀k,v.ownBlock=some k->k<w.heap.size:=λk hk=>(ho.lt k hk).2
theorem sh {w8:World} {D':List Nat} {d mb fb cc b0:Nat} {room lives:Int} {off:Bool} {x v8:Value} {safe:Nat} {l8:List UInt8}
  (k1:w8.heap[d]? = some (.cells #[.int .i64 room,.bool off,.int .i64 lives,.map (some mb)] 69 (0,0))) (m8:w8.heap[mb]? = some (.map #[⟨.string eX,.pointer (some ⟨fb,0,none⟩),b0⟩] cc)) (hb0:b0<cc)
  (f8:w8.heap[fb]? = some (.cells #[x,.int .i64 (safe:Int)] 121 (0,0))) (o8:OwnB w8 0 5 v8 l8) (hd:d∈D') (hm:mb∈D') (hf:fb∈D') (ho:∀k,v8.ownBlock=some k->k∈D') (hlt:∀b∈D',b<w8.heap.size) :
  IsDk (w8.setCell ⟨fb,0,none⟩ v8) D' d ⟨room,off,lives,some (l8,safe)⟩:=by
 have ow:Only [fb] w8 (w8.setCell ⟨fb,0,none⟩ v8):=(Only.refl _ _).setCell (by simp) _;have n1:d≠fb:=fX k1 f8 (by simp);have n2:mb≠fb:=fX m8 f8 (by simp);have n3:fb∉v8.ownBlock.toList:=i8 o8 f8 (by simp);refine ⟨⟨mb,ow.keeps k1 (by simpa using n1),hm,cc,fb,b0,v8,ow.keeps m8 (by simpa using n2),hb0,hf,aR f8 0 v8,o6 o8 ow (λk hk hm=>?_),ho⟩,hd,λb hb=>aE (hlt b hb) ow.size⟩;rw [aj.1 hm] at hk;exact n3 (by rw [hk];simp)
theorem kX:eX.size<=20:=by decide
set_option maxHeartbeats 2000000 in
theorem xh (h:IsDk w D d s) (ho:s.off=false) (ao:Option Addr) (n c:Nat) (l:List UInt8) (hi:IsB w ao n c l) (hr:(n:Int)<=s.room - (s.total:Int)) (h1:s.room<=1048576) :
  Calls Tryz.prog 113 #[.pointer (some ⟨d,0,none⟩),.string eX,.slice ao n c] w λe w'=>∃D',e = .returned (.int .i64 0)/\IsDk w' D' d (jI s l)/\Moves D D' w w':=by
 have hb:Below w.heap.size w (w.alloc (.cells #[.string eX] 9)):=(az _ _).alloc (ah _) _;have hW:=h.below hb;have HM:=ab (qb hW ho w.heap.size eX (by rw [af (aK _ _)];rfl) jA);have HB:=ab hb;have HI:=ab (hi.below hb);have HTO:Hid (∀w',Below (w.alloc (.cells #[.string eX] 9)).heap.size (w.alloc (.cells #[.string eX] 9)) w'->Calls Tryz.prog 116 #[.pointer (some ⟨d,0,none⟩)] w' λe w''=>e = .returned (.int .i64 (s.total:Int))/\Below w'.heap.size w' w''):=ab λw' hb=>oO (hW.below hb);have HW:=ab hW;obtain ⟨⟨mb,k1,k2,k3⟩,k4,k5⟩:=hW;have hr0:∀w',Below (w.alloc (.cells #[.string eX] 9)).heap.size (w.alloc (.cells #[.string eX] 9)) w'->w'.cell? ⟨d,0,none⟩=some (.int .i64 s.room):=λw' hb=>by rw [af (bd hb (aQ k1) k1)];rfl
 have HK:=ab (And.intro k1 (And.intro k2 (And.intro k3 (And.intro k4 k5))));have h2:(0:Int)<=(s.total:Int):=by omega
 clear h hb k1 k2 k3 k4 k5 hi;generalize hTT:s.total=T at *;generalize hRR:s.room=R at *;have q1:IntKind.i64.wrap (R - (T:Int))=R - (T:Int):=IntWalk.i64_in _ (by omega);have HTT:=ab hTT;have HRR:=ab hRR;clear hTT hRR;go_enter Tryz.func113,Tryz.ntmps113
 go_wp2_with fail
 refine HM.out.mono ?_;rintro e w1 ⟨rfl,rfl⟩;go_upto_region 4 with (fail)
 generalize w.alloc (.cells #[.string eX] 9)=W at *;refine wp_region_held_drew (S:=λw'=>Below W.heap.size W w') (by kernel_rfl) (bq W) (λam=>?_);refine aB 0 ?_;refine aB 1 ?_;refine aB 2 ?_;refine aB 3 ?_;refine aB 4 ?_;refine aB 5 ?_;refine aB 6 ?_;refine cC 7 λK hK=>?_;go_simp
 refine (HTO.out _ (by exact bq _)).mono ?_;rintro e w5 ⟨rfl,hb5⟩;have HB5:=ab hb5;go_wp2_with fail
 refine hK.out _ _ (am.trans (hb5.mono am.size)) (λam=>?_);clear hK K;refine bH ?_;clear hb5;refine cC 8 λK hK=>?_;go_simp
 refine hK.out _ _ am (λam=>?_);clear hK K;refine bH ?_;refine cC 9 λK hK=>?_;go_simp
 refine hK.out _ _ am (λam=>?_);clear hK K;refine bH ?_;refine fI ?_;have hb6:Below W.heap.size W w5:=(bq W).trans HB5.out;have HI5:=ab (HI.out.below hb6);have HB6:=ab (HB.out.trans (hb6.mono HB.out.size));obtain ⟨k1,k2,k3,k4,k5⟩:=HK.out;have K1:=ab (bd hb6 (aQ k1) k1);have K3:=ab (k3.keep (Only.ofBelow hb6 []) k2 (λb _=>by simp));have K5:Hid (∀b∈D,b<w5.heap.size):=ab (λb hb=>aE (k5 b hb) hb6.size);have hc3:w5.cell? ⟨d,3,none⟩=some (.map (some mb)):=by rw [af K1.out];rfl
 have hWsz:=hb6.size;clear k1 k3 k5 hb6 hr0 am HW HK HM HTO;cases hfile:s.file with
 | none =>
  rw [hfile] at K3;obtain ⟨cc,hm⟩:=K3.out;have hl:=uH hm eX kX;have hm6:=bb hm (.cells #[.slice none 0 0,.int .i64 0] 121);have hput:=AV hm6 eX (.pointer (some ⟨w5.heap.size,0,none⟩)) kX;have o7:=jY (w5.alloc (.cells #[.slice none 0 0,.int .i64 0] 121)) mb (.map #[⟨.string eX,.pointer (some ⟨w5.heap.size,0,none⟩),cc⟩] (cc+1));have hmlt:=aQ hm;have m7:=l9 (w5.alloc (.cells #[.slice none 0 0,.int .i64 0] 121)) mb (.map #[⟨.string eX,.pointer (some ⟨w5.heap.size,0,none⟩),cc⟩] (cc+1)) (aQ hm6);have f7:=o7.keeps (aK w5 (.cells #[.slice none 0 0,.int .i64 0] 121)) (by simp;omega);have dne:d≠mb:=fX K1.out hm (by simp);have k7:=o7.keeps (bb K1.out (.cells #[.slice none 0 0,.int .i64 0] 121)) (by simpa using dne);have hc6:(w5.alloc (.cells #[.slice none 0 0,.int .i64 0] 121)).cell? ⟨d,3,none⟩=some (.map (some mb)):=by rw [af (bb K1.out _)];rfl
  have oA:Only [mb] w5 (setBlock (w5.alloc (.cells #[.slice none 0 0,.int .i64 0] 121)) mb (.map #[⟨.string eX,.pointer (some ⟨w5.heap.size,0,none⟩),cc⟩] (cc+1))):=((Only.refl [mb] w5).alloc _).trans o7;have hI7:IsB (setBlock (w5.alloc (.cells #[.slice none 0 0,.int .i64 0] 121)) mb (.map #[⟨.string eX,.pointer (some ⟨w5.heap.size,0,none⟩),cc⟩] (cc+1))) ao n c l:=iH HI5.out oA (by intro b off i hb;simp;intro e;subst e;exact tN HI5.out hb hm);have hsz7:(setBlock (w5.alloc (.cells #[.slice none 0 0,.int .i64 0] 121)) mb (.map #[⟨.string eX,.pointer (some ⟨w5.heap.size,0,none⟩),cc⟩] (cc+1))).heap.size=w5.heap.size+1:=by simp [setBlock]
  have hfc:=af f7 0;have HM7:=ab m7;have HF7:=ab f7;have HK7:=ab k7;have HOA:=ab oA;have HI7:=ab hI7;have HSZ7:=ab hsz7;have hfc0:(setBlock (w5.alloc (.cells #[.slice none 0 0,.int .i64 0] 121)) mb (.map #[⟨.string eX,.pointer (some ⟨w5.heap.size,0,none⟩),cc⟩] (cc+1))).cell? ⟨w5.heap.size,0,none⟩=some (.slice none 0 0):=by rw [af f7];rfl
  have hlen0:([]:List UInt8).length+n<=140737488355328:=by simp;omega
  have hmD:=k2;clear hm hm6 o7 m7 f7 dne k7 oA hI7 hsz7 hfc K3;go_wp2_with (at_builtin;refine ip rfl (.tmp 46) (.tmp 47) 31 rfl 5 Tryz.underlying31 F.iI (.slice none 0 0) [] rfl (OwnB.nil _ _ _) ao n c l rfl HI7.out hlen0 ?_;intro v8 w8 ho8 on8 fr8;rw [cL] at ho8;have HO8:=ab ho8;have HON8:=ab on8;have HF8:=ab (on8.keeps HF7.out (by simp [Value.ownBlock]));have HFR8:=ab fr8;have hc8:w8.cell? ⟨w5.heap.size,0,none⟩=some (.slice none 0 0):=(af HF8.out 0).trans rfl;have hz8:=aM HF8.out 0;obtain ⟨a8,c8,e8,_,_⟩:=du ho8;subst e8;clear ho8 on8 fr8)
  go_ret
  have hap:jI s l=⟨R,s.off,s.lives,some (l,0)⟩:=by unfold jI Ak;rw [hfile,HRR.out]
  have on8:=HON8.out;have hK8:=on8.keeps HK7.out (by simp [Value.ownBlock]);have hM8:=on8.keeps HM7.out (by simp [Value.ownBlock]);have hs8:=on8.size;have hs7:=HSZ7.out;have fr8:=HFR8.out;have hlt8:=mG HO8.out;rw [hap];refine ⟨D++w5.heap.size::(Value.slice a8 l.length c8).ownBlock.toList,rfl,sh hK8 hM8 (Nat.lt_succ_self _) HF8.out HO8.out (by simp [k4]) (by simp [k2]) (by simp) (λk hk=>by simp [hk]) (λb hb=>?_),(Moves.of_below HB6.out).trans ⟨?_,λb hb=>?_,λb hb=>by simp [hb]⟩⟩
  ·simp only [ap,bg,dM] at hb;rcases hb with hb | rfl | hb
   ·have:=K5.out b hb;omega
   ·omega
   ·exact hlt8 b hb
  ·have o9:Only [w5.heap.size] w8 (w8.setCell ⟨w5.heap.size,0,none⟩ (.slice a8 l.length c8)):=(Only.refl _ _).setCell (by simp) _;have oall:=((HOA.out.mono (T:=[mb,w5.heap.size]) (by simp)).trans (on8.mono (by simp [Value.ownBlock]))).trans (o9.mono (T:=[mb,w5.heap.size]) (by simp));exact oall.cut (λk hk hlt=>by
    simp at hk;rcases hk with rfl | rfl
    ·exact k2
    ·omega)
  ·simp only [ap,bg,dM] at hb;rcases hb with hb | rfl | hb
   ·exact .inl hb
   ·exact .inr (ah _)
   ·rcases fr8 b hb with h8 | h8
    ·simp [Value.ownBlock] at h8
    ·right;omega
 | some p =>
  obtain ⟨m,kk⟩:=p;rw [hfile] at K3;obtain ⟨cc,fb,b0,v,hm,hb0,hfD,hf,ho5,hov⟩:=K3.out;have hT:T=m.length:=by rw [<-HTT.out];unfold Dk.total;rw [hfile]
  obtain ⟨a0,c0,rfl,_,_⟩:=du ho5;have hl:=rz hm kX;have hfc:w5.cell? ⟨fb,0,none⟩=some (.slice a0 m.length c0):=by rw [af hf];rfl
  have hlen0:m.length+n<=140737488355328:=by omega
  have HM5:=ab hm;have HF5:=ab hf;have HO5:=ab ho5;have HOV:=ab hov;have N1:Hid (fb∉(Value.slice a0 m.length c0).ownBlock.toList):=ab (i8 ho5 hf (by simp));clear hm hf ho5 hov K3;go_wp2_with (at_builtin;refine ip rfl (.tmp 46) (.tmp 47) 31 rfl 5 Tryz.underlying31 F.iI (.slice a0 m.length c0) m rfl HO5.out ao n c l rfl HI5.out hlen0 ?_;intro v8 w8 ho8 on8 fr8;have HO8:=ab ho8;have HON8:=ab on8;have HF8:=ab (on8.keeps HF5.out N1.out);have HFR8:=ab fr8;have hc8:w8.cell? ⟨fb,0,none⟩=some (.slice a0 m.length c0):=(af HF8.out 0).trans rfl;have hz8:=aM HF8.out 0;obtain ⟨a8,c8,e8,_,_⟩:=du ho8;subst e8;clear ho8 on8 fr8)
  go_ret
  have hap:jI s l=⟨R,s.off,s.lives,some (m++l,kk)⟩:=by unfold jI Ak;rw [hfile,HRR.out]
  have HO9:OwnB w8 0 5 (.slice a8 (m.length+l.length) c8) (m++l):=by rw [<-ay];exact HO8.out
  rw [ay] at HFR8;have on8:=HON8.out;have hK8:=on8.keeps K1.out (i8 HO5.out K1.out (by simp));have hM8:=on8.keeps HM5.out (i8 HO5.out HM5.out (by simp));have hs8:=on8.size;have fr8:=HFR8.out;have hlt8:=mG HO9;rw [hap];refine ⟨D++(Value.slice a8 (m.length+l.length) c8).ownBlock.toList,rfl,sh hK8 hM8 hb0 HF8.out HO9 (by simp [k4]) (by simp [k2]) (by simp [hfD]) (λk hk=>by simp [hk]) (λb hb=>?_),(Moves.of_below HB6.out).trans ⟨?_,λb hb=>?_,λb hb=>by simp [hb]⟩⟩
  ·simp only [ap,dM] at hb;rcases hb with hb | hb
   ·have:=K5.out b hb;omega
   ·exact hlt8 b hb
  ·have o9:Only [fb] w8 (w8.setCell ⟨fb,0,none⟩ (.slice a8 (m.length+l.length) c8)):=(Only.refl _ _).setCell (by simp) _;exact (on8.mono (λk hk=>HOV.out k (by simpa using hk))).trans (o9.mono (by simpa using hfD))
  ·simp only [ap,dM] at hb;rcases hb with hb | hb
   ·exact .inl hb
   ·rcases fr8 b hb with h8 | h8
    ·exact .inl (HOV.out b h8)
    ·exact .inr h8
end
end Go.Proofs.YtnhefallmioefaaGreat
