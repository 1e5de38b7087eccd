/-
  What the proof of the law leans on: contracts of the program's functions, one behind another. No condition.
-/
import Derived.Deep.AppendLies
import Derived.Laws.OwnMore
import Derived.OrdersHeld
import Derived.WalkKit
import Derived.Deep.RegionHeld
import Derived.Deep.DeepCutAuto
import Derived.Deep.CutBlock
import Derived.Deep.RegionHeld3
import Derived.Deep.RegionWith
import Derived.Deep.RegionLaw
import Derived.BigRegion
import Derived.Test.YtnicaicjgaoolaaT2
import Derived.Test.YtnicaicjgaoolaaT1
set_option linter.unusedVariables false
set_option linter.unusedSimpArgs false
namespace Go.Proofs.Ytnicaicjgaoolaa
open Go.RowKit Go.ChangeMaps Go.WideMaps Go.Maps
set_option maxRecDepth 20000
theorem setBlock_at (w:World) (r:Nat) (o:Obj) (h:r<w.heap.size):(setBlock w r o).heap[r]? = some o:=by
 unfold setBlock
 simp [h]
theorem setBlock_only (w:World) (r:Nat) (o:Obj):Only [r] w (setBlock w r o):=by
 refine ⟨rfl,rfl,rfl,by simp [setBlock],fun k _ hk=>?_⟩
 unfold setBlock
 simp only
 rw [Array.getElem?_setIfInBounds_ne (by simp at hk;omega)]
/-- is the entry still to come -/
def leftI (w:World) (r:Nat):Nat:=match w.heap[r]? with | some (.mapIter _ _ seen _)=>if seen.size=0 then 1 else 0 | _=>0
theorem leftI_block {w w':World} {r:Nat} (h:w'.heap[r]? = w.heap[r]?):leftI w' r=leftI w r:=by unfold leftI;rw [h]
/-- the iterator, before and behind the only entry -/
structure Iter1 (w w1 w2:World) (mb c:Nat) (e:MapEntry):Prop where
 range:(Instr.range 77 (.map (some mb))).run Try.prog w = .ok (.pointer (some ⟨w.heap.size,0,none⟩)) w1
 next:∀ty,(Instr.next (.pointer (some ⟨w.heap.size,0,none⟩)) false ty).run Try.prog w1 = .ok (.tuple #[.bool true,e.key,e.val]) w2
 entry:(Instr.entry (.pointer (some ⟨w.heap.size,0,none⟩))).run Try.prog w2 = .ok (.tuple #[e.key,e.val]) w2
 done:∀ty w3,w3.heap[w.heap.size]? = w2.heap[w.heap.size]? → w3.heap[mb]? = w2.heap[mb]? → (Instr.next (.pointer (some ⟨w.heap.size,0,none⟩)) false ty).run Try.prog w3 = .ok (.tuple #[.bool false]) w3
 b1:Below w.heap.size w w1
 b2:Below w.heap.size w w2
 sz:w2.heap.size=w.heap.size+1
 l1:leftI w1 w.heap.size=1
 l2:leftI w2 w.heap.size=0
theorem iter1 {w:World} {mb c:Nat} {e:MapEntry} (h:w.heap[mb]? = some (.map #[e] c)) (he:e.born<c):∃w1 w2,Iter1 w w1 w2 mb c e:=by
 have hlt:=lt_of_heap h
 have hn:=heap_new w (.mapIter (some mb) c #[] c)
 have hb1:(w.alloc (.mapIter (some mb) c #[] c)).heap[mb]? = some (.map #[e] c):=heap_old h _
 have hsz:(w.alloc (.mapIter (some mb) c #[] c)).heap.size=w.heap.size+1:=by simp
 have ho:=setBlock_only (w.alloc (.mapIter (some mb) c #[] c)) w.heap.size (.mapIter (some mb) c #[e.born] c)
 have hb2:=ho.keeps hb1 (by simp;omega)
 have hr2:=setBlock_at (w.alloc (.mapIter (some mb) c #[] c)) w.heap.size (.mapIter (some mb) c #[e.born] c) (by rw [hsz];omega)
 have hB1:Below w.heap.size w (w.alloc (.mapIter (some mb) c #[] c)):=(Below.refl _ _).alloc (Nat.le_refl _) _
 refine ⟨_,_,run_range_map w 77 9 84 mb #[e] c Try.underlying77 h,fun ty=>next_one hn hb1 he,entry_one hr2 hb2,fun ty w3 hb hm=>?_,hB1,hB1.trans (ho.below (by rw [hsz];omega) (by simp)),by simp [setBlock],by unfold leftI;rw [hn];rfl,by unfold leftI;rw [hr2];rfl⟩
 have hr3:w3.heap[w.heap.size]? = some (.mapIter (some mb) c #[e.born] c):=hb.trans hr2
 exact next_end hr3 (hm.trans hb2) he
theorem own_size {w:World} {base:Nat} {e:TypeId} {v:Value} {l:List UInt8} (h:OwnB w base e v l):l.length≤9223372036854775807:=by
 rcases h.2 with ⟨_,h0⟩ | ⟨g,cap,cur,_,_,_,hn,hm,_⟩
 ·have:l.length=0:=by simpa using h0
  omega
 ·unfold maxLen at hm
  omega
section
variable {w:World} {D:List Nat} {d:Nat} {s:Dk}
set_option maxHeartbeats 400000 in
theorem total_any (h:IsDk w D d s):Calls Try.prog 89 #[.pointer (some ⟨d,0,none⟩)] w fun e w'=>e = .returned (.int .i64 (s.total:Int))∧Below w.heap.size w w':=by
 obtain ⟨⟨mb,h1,_,hf⟩,_⟩:=h
 have hc:w.cell? ⟨d,3,none⟩=some (.map (some mb)):=by rw [cell_heap h1];rfl
 cases hfile:s.file with
 | none =>
  have ht:s.total=0:=by unfold Dk.total;rw [hfile]
  rw [hfile] at hf
  obtain ⟨c,hm⟩:=hf
  have hr:=run_range_map (P:=Try.prog) w 77 9 84 mb #[] c Try.underlying77 hm
  have hn:∀ty,(Instr.next (.pointer (some ⟨w.heap.size,0,none⟩)) false ty).run Try.prog (w.alloc (.mapIter (some mb) c #[] c)) = .ok (.tuple #[.bool false]) (w.alloc (.mapIter (some mb) c #[] c)):=fun ty=>next_no (heap_new w _) (heap_old hm _)
  have HB:Hid (Below w.heap.size w (w.alloc (.mapIter (some mb) c #[] c))):=Lib.hid ((Below.refl _ _).alloc (Nat.le_refl _) _)
  rw [ht]
  clear h1 hm ht hfile
  generalize (w.alloc (.mapIter (some mb) c #[] c))=w1 at *
  go_enter Try.func89,Try.ntmps89
  go_wp2_with fail
  go_loopw [3,5] (fun v _ wr=>wr=w1∧v = .int .i64 0) (fun _ _ _=>0)
  case atStart=>exact ⟨rfl,rfl⟩
  case round =>
   obtain ⟨rfl,rfl⟩:=hrel
   go_wp2_with fail
   go_ret
   exact ⟨rfl,HB.out⟩
 | some p =>
  obtain ⟨l,safe⟩:=p
  have ht:s.total=l.length:=by unfold Dk.total;rw [hfile]
  rw [hfile] at hf
  obtain ⟨c,fb,b0,v,hm,hb0,_,h4,h5,_⟩:=hf
  obtain ⟨w1,w2,hI⟩:=iter1 hm hb0
  have hlen:=own_size h5
  obtain ⟨ao,cp,rfl,_⟩:=h5.isB
  have hr:=hI.range
  have hn:=hI.next
  have he:=hI.entry
  have hd:∀ty,(Instr.next (.pointer (some ⟨w.heap.size,0,none⟩)) false ty).run Try.prog w2 = .ok (.tuple #[.bool false]) w2:=fun ty=>hI.done ty w2 rfl rfl
  have hc0:w2.cell? ⟨fb,0,none⟩=some (.slice ao l.length cp):=by rw [cell_heap (heap_below3 hI.b2 (lt_of_heap h4) h4)];rfl
  have HB:=Lib.hid hI.b2
  rw [ht]
  have HL:=Lib.hid (And.intro hI.l1 hI.l2)
  clear h1 hm ht hfile h4 h5 hI
  simp only at hn he
  go_enter Try.func89,Try.ntmps89
  go_wp2_with fail
  go_loopw [3,5] (fun v _ wr=>(wr=w1∧v = .int .i64 0)∨(wr=w2∧v = .int .i64 (l.length:Int))) (fun _ _ wr=>leftI wr w.heap.size)
  case atStart=>exact .inl ⟨rfl,rfl⟩
  case round =>
   rcases hrel with ⟨rfl,rfl⟩ | ⟨rfl,rfl⟩
   ·clear hd
    go_wp2_with fail
    go_roundw
    case rel=>exact .inr ⟨trivial,by go_num⟩
    case measure=>rw [HL.out.1,HL.out.2];omega
   ·clear hn
    go_wp2_with fail
    go_ret
    exact ⟨rfl,HB.out⟩
end
end Go.Proofs.Ytnicaicjgaoolaa
namespace Go.Proofs.Ytnicaicjgaoolaa
open Go.RowKit
/-- what is appended can be read -/
def Src (w:World) (ao:Option Addr) (m:Nat) (news:List Value):Prop:=(ao=none∧m=0)∨∃ad,ao=some ad∧∀j u,news[j]? = some u→w.cell? (ad.add j)=some u
theorem grown_only {w w':World} {v:Value} (h:w.grownBy w' v.ownBlock):Only v.ownBlock.toList w w' :=
 ⟨h.os,h.tape,h.output,h.size,fun k hk hn=>h.block k hk (fun e=>hn (by rw [←e];simp))⟩
theorem rows_form {w:World} {base n:Nat} {e:TypeId} {size:Nat} {v:Value} {xs:List Value} (h:w.ownsRow base e size v n xs):∃ao c,v = .slice ao n c∧n≤c∧c≤9223372036854775807:=by
 rcases h.2 with ⟨rfl,h0⟩ | ⟨g,cap,cur,rfl,_,_,hn,hm,_⟩
 ·exact ⟨none,0,by rw [h0],by omega,by decide⟩
 ·unfold maxLen at hm
  exact ⟨_,cap,rfl,hn,by omega⟩
section
variable {P:Program} {w:World}
theorem run_append_foot (t ty e:TypeId) (i:TypeInfo) (z:Value) (size bytes:Nat) (ht:P.underlying t=some (.slice e)) (hi:P.info? e=some i) (hz:i.zero=some z)
  (hsize:i.size=size) (hby:i.bytes=bytes) (hzs:z.cells.size=size) (hsz:0<size)
  (v:Value) (n:Nat) (xs:List Value) (hown:w.ownsRow 0 e size v n xs)
  (ao:Option Addr) (m c:Nat) (hnil:ao=none→c=0) (news:List Value) (hl:news.length=m*size) (hsrc:Src w ao m news) (h1:∀u∈news,u.oneCell'=true)
  (h63:n+m≤maxLen) (hbytes:(n+m)*bytes≤140737488355328) :
  ∃v' w',(Builtin.append_ #[t,t] ty #[v,.slice ao m c]).run P w = .ok v' w'∧w'.ownsRow 0 e size v' (n+m) (xs++news)∧Only v.ownBlock.toList w w' ∧
   (∀k,v'.ownBlock=some k→v.ownBlock=some k∨w.heap.size≤k):=by
 rcases hsrc with ⟨rfl,rfl⟩ | ⟨ad,rfl,hnews⟩
 ·obtain rfl:c=0:=hnil rfl
  obtain rfl:news=[]:=List.length_eq_zero_iff.1 (by simpa using hl)
  exact ⟨v,w,run_append_owned_none (P:=P) (w:=w) 0 t ty e i size ht hi v n xs hown,by simpa using hown,Only.refl _ _,fun k hk=>.inl hk⟩
 ·obtain ⟨v',w',hr,h2,h3,_,h5⟩:=run_append_own_at (P:=P) w 0 t ty e i z size bytes ht hi hz hsize hby hzs hsz v n xs hown ad m c news hl hnews h1 h63 hbytes (Nat.zero_le _)
  refine ⟨v',w',hr,h2,grown_only h3,fun k hk=>?_⟩
  rcases h5 with h5 | h5
  ·exact .inl (by rw [←h5];exact hk)
  ·right
   rw [h5] at hk
   cases hk
   exact Nat.le_refl _
theorem wpList_append_foot {ops:Array Oper} {rest:List Oper} {o:Oper} {a:Act} {Q:Exit→Act→World→Prop} (hgd:o.guard=none) (s x:Operand) (t:TypeId)
  (ho:o.op = .call { callee:=.builtin .append,args:=#[s,x],argTypes:=#[t,t]})
  (e:TypeId) (i:TypeInfo) (z:Value) (size bytes:Nat) (ht:P.underlying t=some (.slice e)) (hi:P.info? e=some i) (hz:i.zero=some z)
  (hsize:i.size=size) (hby:i.bytes=bytes) (hzs:z.cells.size=size) (hsz:0<size)
  (v:Value) (n:Nat) (xs:List Value) (hs:a.eval s=v) (hown:w.ownsRow 0 e size v n xs)
  (ao:Option Addr) (m c:Nat) (hx:a.eval x = .slice ao m c) (hnil:ao=none→c=0) (news:List Value) (hl:news.length=m*size) (hsrc:Src w ao m news) (h1:∀u∈news,u.oneCell'=true)
  (h63:n+m≤maxLen) (hbytes:(n+m)*bytes≤140737488355328)
  (h:∀v' w',w'.ownsRow 0 e size v' (n+m) (xs++news)→Only v.ownBlock.toList w w'→(∀k,v'.ownBlock=some k→v.ownBlock=some k∨w.heap.size≤k)→wpList P ops Q rest (a.put o.dst v') w'):wpList P ops Q (o::rest) a w:=by
 obtain ⟨v',w',hr,h2,h3,h4⟩:=run_append_foot (w:=w) t o.type e i z size bytes ht hi hz hsize hby hzs hsz v n xs hown ao m c hnil news hl hsrc h1 h63 hbytes
 refine wpList_plain hgd fun K hK=>?_
 unfold Oper.wp
 simp [execOp,ho,resolve,invoke,builtin,hs,hx,hr,Result.andThen]
 exact hK _ _ (h v' w' h2 h3 h4)
theorem IsB.src {ao:Option Addr} {m c:Nat} {l:List UInt8} (h:IsB w ao m c l):Src w ao m (l.map bv):=by
 obtain ⟨h1,h2,h3⟩:=h
 cases ao with
 | none=>exact .inl ⟨rfl,(h2 rfl).1⟩
 | some ad =>
  refine .inr ⟨ad,rfl,fun j u hj=>?_⟩
  rcases h3 with h3 | ⟨b,off,h4,h5⟩
  ·subst h3
   obtain rfl:l=[]:=List.length_eq_zero_iff.1 h1
   simp at hj
  ·obtain rfl:ad=⟨b,off,none⟩:=by simpa using h4
   have hjl:j<l.length:=by
    rcases Nat.lt_or_ge j l.length with hlt | hge
    ·exact hlt
    ·simp [List.getElem?_eq_none hge] at hj
   have:=h5 j (by omega)
   rw [Addr.add_lit,this]
   simp [hjl] at hj
   simp [←hj,hjl,bv]
/-- APPEND of bytes -/
theorem wpList_append_bf {ops:Array Oper} {rest:List Oper} {o:Oper} {a:Act} {Q:Exit→Act→World→Prop} (hgd:o.guard=none) (s x:Operand) (t:TypeId)
  (ho:o.op = .call { callee:=.builtin .append,args:=#[s,x],argTypes:=#[t,t]})
  (e:TypeId) (ht:P.underlying t=some (.slice e)) (hi:(P.info? e).map (fun i=>(i.zero,i.size,i.bytes))=some (some (.int .u8 0),1,1))
  (v:Value) (l:List UInt8) (hs:a.eval s=v) (hown:OwnB w 0 e v l)
  (ao:Option Addr) (m c:Nat) (l2:List UInt8) (hx:a.eval x = .slice ao m c) (hsrc:IsB w ao m c l2) (hbytes:l.length+m≤140737488355328)
  (h:∀v' w',OwnB w' 0 e v' (l++l2)→Only v.ownBlock.toList w w'→(∀k,v'.ownBlock=some k→v.ownBlock=some k∨w.heap.size≤k)→wpList P ops Q rest (a.put o.dst v') w'):wpList P ops Q (o::rest) a w:=by
 obtain ⟨i0,hi0,hz0,hz1,hz2⟩:=info_parts hi
 refine wpList_append_foot hgd s x t ho e i0 (.int .u8 0) 1 1 ht hi0 hz0 hz1 hz2 rfl (by decide) v _ _ hs hown ao m c hx (fun e=>(hsrc.nil e).2) (l2.map bv) (by rw [List.length_map,hsrc.len,Nat.mul_one]) hsrc.src ?_ (by unfold maxLen;omega) (by omega) ?_
 ·intro u hu
  obtain ⟨y,_,rfl⟩:=List.mem_map.1 hu
  rfl
 ·intro v' w' g1 g2 g3
  refine h v' w' ?_ g2 g3
  unfold OwnB
  rw [List.length_append,hsrc.len,List.map_append]
  exact g1
end
end Go.Proofs.Ytnicaicjgaoolaa
namespace Go.Proofs.Ytnicaicjgaoolaa
section
variable {P:Program} {ops:Array Oper} {Q:Exit→Act→World→Prop} {md:Region.Mode} {S:World→Prop}
def CallsIf (P:Program) (ops:Array Oper) (S:World→Prop) (o:Oper) (v:Value) (a:Act):Prop :=
 Region.wanted o (yielded ops a.tmps)=true∧∀w,S w→∃f args,(execOp a.eval o).run P w = .ok (.enter f args) w∧Calls P f args w (fun e w'=>e = .returned v∧w=w')
theorem CallsIf.wpOp {i:Nat} {o:Oper} {v:Value} {a:Act} (hi:ops[i]? = some o) (hy:CallsIf P ops S o v a)
  {K:Act→World→Prop} {w:World} (hS:S w) (h:K (a.put o.dst v) w):wpOp P ops Q i K a w:=by
 unfold Go.wpOp
 simp only [hi]
 obtain ⟨hw,hv⟩:=hy
 obtain ⟨f,args,h1,h2⟩:=hv w hS
 simp only [hw,if_true,Oper.wp,h1,Oper.upon]
 refine .inl (h2.mono ?_)
 rintro e w' ⟨rfl,rfl⟩
 exact h
theorem CallsIf.of_same {o:Oper} {v:Value} {a a':Act} (hy:CallsIf P ops S o v a) (he:execOp a'.eval o=execOp a.eval o)
  (hw:Region.wanted o (yielded ops a'.tmps)=Region.wanted o (yielded ops a.tmps)):CallsIf P ops S o v a':=by
 unfold CallsIf at *
 rw [he,hw]
 exact hy
theorem wpOp_putC {j:Nat} {oi oj:Oper} {v:Value} (hj:ops[j]? = some oj) (hap:oi.apart ops oj=true)
  (hsi:∀cs b,oi.op ≠ .select cs b) (hsj:∀cs b,oj.op ≠ .select cs b)
  (hQ:∀c a w,Q (.panic c) (a.put oi.dst v) w→Q (.panic c) a w) {K:Act→World→Prop} {a:Act} {w:World}
  (hy:CallsIf P ops S oi v a) (h:wpOp P ops Q j K (a.put oi.dst v) w) :
  wpOp P ops Q j (fun a' w'=>CallsIf P ops S oi v a'∧K (a'.put oi.dst v) w') a w:=by
 obtain ⟨h1,h2,h3⟩:=Oper.apart_spec hap
 have keep:∀(a:Act),CallsIf P ops S oi v a→∀u,CallsIf P ops S oi v (a.put oj.dst u):=fun a hy u =>
  hy.of_same (execOp_put oi hsi a oj.dst u h3) (wanted_put oi a oj.dst u h3)
 have keepD:∀d,CallsIf P ops S oi v { a with defers:=d::a.defers }:=fun d=>hy.of_same rfl rfl
 unfold wpOp at *
 simp only [hj] at *
 rw [wanted_put oj a oi.dst v h1] at h
 split
 ·rename_i hw
  simp only [hw,if_true] at h
  rcases h with h | ⟨hasks,hlets⟩
  case inr=>exact .inr ⟨by unfold Oper.asks at *;rw [execOp_put oj hsj a oi.dst v h1] at hasks;exact hasks,hlets⟩
  refine .inl ?_
  unfold Oper.wp at *
  rw [execOp_put oj hsj a oi.dst v h1] at h
  generalize (execOp a.eval oj).run P w=r at *
  cases r with
  | ok n w' =>
   cases n<;>simp only [Oper.upon] at h ⊢
   case value u=>exact ⟨keep a hy u,by rw [←Act.put_comm a v u h2];exact h⟩
   case skip=>exact ⟨keep a hy _,by rw [←Act.put_comm a v undef h2];exact h⟩
   case defer d =>
    refine ⟨keep _ (keepD d) _,?_⟩
    rw [←Act.put_comm _ v undef h2,←Act.put_defers]
    exact h
   case enter f args =>
    refine Calls.mono h fun e w'' he=>?_
    cases e with
    | returned u=>exact ⟨keep a hy u,by rw [←Act.put_comm a v u h2];exact he⟩
    | panicked c=>exact hQ _ _ _ he
    | outgrown=>exact he
   case row row args=>exact Rows.mono h fun u w'' he=>⟨keep a hy u,by rw [←Act.put_comm a v u h2];exact he⟩
  | halt x w' =>
   cases x<;>simp only [Oper.upon] at h ⊢
   case panic u=>exact hQ _ _ _ h
 ·rename_i hw
  simp only [hw] at h
  exact ⟨keep a hy _,by rw [←Act.put_comm a v undef h2];exact h⟩
theorem wpAnyH_firstC {i:Nat} {oi:Oper} {v:Value} (hi:ops[i]? = some oi) (hsel:∀(j:Nat) (o:Oper) cs b,ops[j]? = some o→o.op ≠ .select cs b)
  (hQ:∀c a w,Q (.panic c) (a.put oi.dst v) w→Q (.panic c) a w) :
  ∀(fuel:Nat) (listed:Array Bool) (a:Act) (w:World),
   (∀j oj,ops[j]? = some oj→j≠i→listed.getD j true=false→(∀e∈oj.after,Region.binds md e=true→e.on≠i)→oi.apart ops oj=true) →
   i∈Region.ready md ops listed→CallsIf P ops S oi v a→S w →
   wpAnyH P md ops Q S fuel (listed.setIfInBounds i true) (a.put oi.dst v) w→wpAnyH P md ops Q S (fuel+1) listed a w:=by
 intro fuel
 induction fuel with
 | zero =>
  intro listed a w _ hr hy hS H
  refine ⟨fun h=>(by rw [h] at hr;cases hr),fun j hj=>?_⟩
  by_cases hji:j=i
  ·subst hji;exact hy.wpOp hi hS ⟨hS,H⟩
  ·have:=ready_mono hj hji
   rw [H.1] at this
   cases this
 | succ fuel ih =>
  intro listed a w hfree hr hy hS H
  refine ⟨fun h=>(by rw [h] at hr;cases hr),fun j hj=>?_⟩
  by_cases hji:j=i
  ·subst hji;exact hy.wpOp hi hS ⟨hS,H⟩
  ·have h1:=H.2 j (ready_mono hj hji)
   obtain ⟨hjun,oj,hoj,hall⟩:=mem_ready.1 hj
   have hnot:∀e∈oj.after,Region.binds md e=true→e.on≠i:=fun e he hb heq=>by
    have h1:=hall e he hb
    have h0:=(mem_ready.1 hr).1
    rw [heq] at h1
    rcases Nat.lt_or_ge i listed.size with h' | h'
    ·simp [h'] at h0 h1;rw [h0] at h1;cases h1
    ·simp [Array.getElem?_eq_none h'] at h1
   have h2:=wpOp_putC hoj (hfree j oj hoj hji hjun hnot) (fun cs b=>hsel i oi cs b hi) (fun cs b=>hsel j oj cs b hoj) hQ hy h1
   have hfree':∀k ok,ops[k]? = some ok→k≠i→(listed.setIfInBounds j true).getD k true=false →
     (∀e∈ok.after,Region.binds md e=true→e.on≠i)→oi.apart ops ok=true:=fun k ok hk hki hun hno=>by
    refine hfree k ok hk hki ?_ hno
    by_cases hjk:j=k
    ·subst hjk;exact hjun
    ·rw [getD_set_ne true hjk] at hun;exact hun
   refine wpOp_mono (fun a' w' h3=>⟨h3.2.1,ih (listed.setIfInBounds j true) a' w' hfree' (ready_mono hr (Ne.symm hji)) h3.1 h3.2.1 ?_⟩) h2
   rw [Array.setIfInBounds_comm _ _ hji]
   exact h3.2.2
/-- Take number 'i' first, A CALL: in every world that meets S it gives v and leaves the world as it is. -/
theorem wpAnyH_takeC {i:Nat} {oi:Oper} {v:Value} {fuel:Nat} {listed:Array Bool} {a:Act} {w:World} (hi:ops[i]? = some oi)
  (hs:Region.noSelect ops=true) (hf:Region.free md ops listed i=true) (hr:(Region.ready md ops listed).contains i=true)
  (hQ:∀c a w,Q (.panic c) (a.put oi.dst v) w→Q (.panic c) a w) (hwt:Region.wanted oi (yielded ops a.tmps)=true) (f:FuncId) (args:Array Value) (hrun:∀w,S w→(execOp a.eval oi).run P w = .ok (.enter f args) w) (hc:∀w,S w→Calls P f args w (fun e w'=>e = .returned v∧w=w')) (hS:S w)
  (h:wpAnyH P md ops Q S fuel (listed.setIfInBounds i true) (a.put oi.dst v) w):wpAnyH P md ops Q S (fuel+1) listed a w :=
 wpAnyH_firstC hi (Region.noSelect_spec hs) hQ fuel listed a w (Region.free_spec hi hf) (by simpa using hr) ⟨hwt,fun w hw=>⟨f,args,hrun w hw,hc w hw⟩⟩ hS h
theorem exec_build {P:Program} {ρ:Operand→Value} {o:Oper} {t:TypeId} {ps:Array (Nat×Operand)} {v:Value} {w:World} (ho:o.op = .build t ps) (parts:Array (Nat×Value)) (hp:(ps.toList.map fun p=>(p.1,ρ p.2))=parts.toList) (hr:(Instr.build t parts).run P w = .ok v w):(execOp ρ o).run P w = .ok (.value v) w:=by
 have hp2:ps.map (fun p=>(p.1,ρ p.2))=parts:=Array.ext' (by rw [Array.toList_map];exact hp)
 subst hp2
 simp [execOp,ho,hr,Result.andThen]
end
end Go.Proofs.Ytnicaicjgaoolaa
namespace Go.Proofs.Ytnicaicjgaoolaa
open Go.RowKit
/-- what is left is said simply -/
theorem qsp {p q:Prop} (h:q) (e:p=q:=by ((try simp only [Act.put,List.setIfInBounds_toArray,List.set_cons_zero,List.set_cons_succ])<;>exact rfl)):p:=by rw [e];exact h
section
variable {P:Program} {ops:Array Oper} {Q:Exit→Act→World→Prop} {md:Region.Mode} {S:World→Prop} {fuel:Nat} {listed:Array Bool} {a a':Act} {w:World}
/-- one that reads is taken -/
theorem qtl (i:Nat) (oi:Oper) {v:Value} (hi:ops[i]? = some oi)
  (h:wpAnyH P md ops Q S fuel (listed.setIfInBounds i true) a' w)
  (hw:Region.wanted oi (yielded ops a.tmps)=true:=by rfl)
  (hy:∀w,S w→(execOp a.eval oi).run P w = .ok (.value v) w:=by (intro w hSw;(try dsimp only at hSw);go_simp<;>with_reducible rfl))
  (ha:a.put oi.dst v=a':=by ((try simp only [Act.put,List.setIfInBounds_toArray,List.set_cons_zero,List.set_cons_succ])<;>exact rfl))
  (hs:Region.noSelect ops=true:=by kernel_rfl) (hf:Region.free md ops listed i=true:=by kernel_rfl) (hr:(Region.ready md ops listed).contains i=true:=by kernel_rfl)
  (hQ:∀c a w,Q (.panic c) (a.put oi.dst v) w→Q (.panic c) a w:=by exact fun _ _ _ h=>h) (hS:S w:=by exact hHeld):wpAnyH P md ops Q S (fuel+1) listed a w :=
 wpAnyH_take hi hs hf hr hQ (Or.inl ⟨hw,hy⟩) hS (by rw [ha];exact h)
/-- the same, where it is said what it yields -/
theorem qtv (i:Nat) (oi:Oper) {v:Value} (hi:ops[i]? = some oi) (hy:∀w,S w→(execOp a.eval oi).run P w = .ok (.value v) w)
  (h:wpAnyH P md ops Q S fuel (listed.setIfInBounds i true) a' w)
  (hw:Region.wanted oi (yielded ops a.tmps)=true:=by rfl)
  (ha:a.put oi.dst v=a':=by ((try simp only [Act.put,List.setIfInBounds_toArray,List.set_cons_zero,List.set_cons_succ])<;>exact rfl))
  (hs:Region.noSelect ops=true:=by kernel_rfl) (hf:Region.free md ops listed i=true:=by kernel_rfl) (hr:(Region.ready md ops listed).contains i=true:=by kernel_rfl)
  (hQ:∀c a w,Q (.panic c) (a.put oi.dst v) w→Q (.panic c) a w:=by exact fun _ _ _ h=>h) (hS:S w:=by exact hHeld):wpAnyH P md ops Q S (fuel+1) listed a w :=
 wpAnyH_take hi hs hf hr hQ (Or.inl ⟨hw,hy⟩) hS (by rw [ha];exact h)
/-- one that is not wanted is taken -/
theorem qtu (i:Nat) (oi:Oper) (hi:ops[i]? = some oi)
  (h:wpAnyH P md ops Q S fuel (listed.setIfInBounds i true) a' w)
  (hw:Region.wanted oi (yielded ops a.tmps)=false:=by rfl)
  (ha:a.put oi.dst undef=a':=by ((try simp only [Act.put,List.setIfInBounds_toArray,List.set_cons_zero,List.set_cons_succ])<;>exact rfl))
  (hs:Region.noSelect ops=true:=by kernel_rfl) (hf:Region.free md ops listed i=true:=by kernel_rfl) (hr:(Region.ready md ops listed).contains i=true:=by kernel_rfl)
  (hQ:∀c a w,Q (.panic c) (a.put oi.dst undef) w→Q (.panic c) a w:=by exact fun _ _ _ h=>h) (hS:S w:=by exact hHeld):wpAnyH P md ops Q S (fuel+1) listed a w :=
 wpAnyH_take (v:=undef) hi hs hf hr hQ (Or.inr ⟨hw,rfl⟩) hS (by rw [ha];exact h)
/-- one comes up -/
theorem qr1 (i:Nat) (o:Oper) (ho:ops[i]? = some o)
  (h:∀K':Act→World→Prop,Shut (∀a w,S w→(S w→wpAnyH P md ops Q S fuel (listed.setIfInBounds i true) a w)→K' a w)→if Region.wanted o (yielded ops a.tmps)=true then Oper.wp P o a w K' Q else K' (a.put o.dst undef) w)
  (hr:Region.ready md ops listed=[i]:=by kernel_rfl):wpAnyH P md ops Q S (fuel+1) listed a w :=
 wpAnyH_ready hr (by simp) (AllReadyH.cons ho h AllReadyH.nil)
/-- one of two comes up -/
theorem qr2 (i j:Nat) (o p:Oper) (ho:ops[i]? = some o) (hp:ops[j]? = some p)
  (h:∀K':Act→World→Prop,Shut (∀a w,S w→(S w→wpAnyH P md ops Q S fuel (listed.setIfInBounds i true) a w)→K' a w)→if Region.wanted o (yielded ops a.tmps)=true then Oper.wp P o a w K' Q else K' (a.put o.dst undef) w)
  (k:∀K':Act→World→Prop,Shut (∀a w,S w→(S w→wpAnyH P md ops Q S fuel (listed.setIfInBounds j true) a w)→K' a w)→if Region.wanted p (yielded ops a.tmps)=true then Oper.wp P p a w K' Q else K' (a.put p.dst undef) w)
  (hr:Region.ready md ops listed=[i,j]:=by kernel_rfl):wpAnyH P md ops Q S (fuel+1) listed a w :=
 wpAnyH_ready hr (by simp) (AllReadyH.cons ho h (AllReadyH.cons hp k AllReadyH.nil))
/-- all have come up -/
theorem qdn (h:Q .normal a w) (hr:Region.ready md ops listed=[]:=by kernel_rfl):wpAnyH P md ops Q S fuel listed a w:=wpAnyH_done hr h fuel
end
end Go.Proofs.Ytnicaicjgaoolaa
namespace Go.Proofs.Ytnicaicjgaoolaa
open Go.RowKit Go.ChangeMaps Go.WideMaps Go.Maps
set_option maxRecDepth 20000
section
variable (p:String)
def z00x0:Oper:=⟨some 16,.move (.tmp 2),29,p,#[],none⟩
def z00x1:Oper:=⟨some 17,.call { callee:=Callee.builtin Builtin.len,args:=#[.tmp 16],argTypes:=#[29]},3,p,#[⟨0,.data⟩],none⟩
def z00x2:Oper:=⟨some 18,.move (.tmp 0),54,p,#[],none⟩
def z00x3:Oper:=⟨some 19,.nilCheck (.tmp 18),0,p,#[⟨2,.data⟩],none⟩
def z00x4:Oper:=⟨some 20,.fieldAddr 79 (.tmp 19) 0,0,p,#[⟨3,.data⟩],none⟩
def z00x5:Oper:=⟨some 21,.load 3 (.tmp 20),3,p,#[⟨4,.data⟩],none⟩
def z00x6:Oper:=⟨some 22,.move (.tmp 0),54,p,#[],none⟩
def z00x7:Oper:=⟨some 23,.call { callee:=Callee.value (Operand.func 89),args:=#[.tmp 22],argTypes:=#[54]},3,p,#[⟨6,.data⟩],none⟩
def z00x8:Oper:=⟨some 24,.binOp BinOp.sub 3 (.tmp 21) (.tmp 23) 3,3,p,#[⟨5,.data⟩,⟨7,.data⟩],none⟩
def z00x9:Oper:=⟨some 25,.binOp BinOp.gtr 3 (.tmp 17) (.tmp 24) 3,4,p,#[⟨1,.data⟩,⟨8,.data⟩],none⟩
end
attribute [go_sem,reducible] z00x0 z00x1 z00x2 z00x3 z00x4 z00x5 z00x6 z00x7 z00x8 z00x9
theorem below_drew1 (w:World):Below w.heap.size w w.drew:=⟨rfl,rfl,rfl,Nat.le_refl _,fun _ _=>rfl⟩
def appF (f:Option (List UInt8×Nat)) (l:List UInt8):Option (List UInt8×Nat):=match f with | none=>some (l,0) | some (m,k)=>some (m++l,k)
def appD (s:Dk) (l:List UInt8):Dk:={ s with file:=appF s.file l }
section
variable {w:World} {D:List Nat} {d:Nat} {s:Dk}
set_option maxHeartbeats 1000000 in
theorem append_full (h:IsDk w D d s) (ho:s.off=false) (t:ByteArray) (ht:GoodN t) (ao:Option Addr) (n c:Nat) (hr:s.room - (s.total:Int)<(n:Int)) (h0:0≤s.room) (h1:s.room≤1048576) (h2:(s.total:Int)≤s.room) :
  Calls Try.prog 80 #[.pointer (some ⟨d,0,none⟩),.string t,.slice ao n c] w fun e w'=>e = .returned (.int .i64 9)∧Below w.heap.size w w':=by
 have hb:Below w.heap.size w (w.alloc (.cells #[.string t] 9)):=(Below.refl _ _).alloc (Nat.le_refl _) _
 have hW:=h.below hb
 have HM:=Lib.hid (may_on hW ho w.heap.size t (by rw [cell_heap (heap_new _ _)];rfl) ht)
 have HB:=Lib.hid hb
 have HTO:Hid (∀w',Below (w.alloc (.cells #[.string t] 9)).heap.size (w.alloc (.cells #[.string t] 9)) w'→Calls Try.prog 89 #[.pointer (some ⟨d,0,none⟩)] w' fun e w''=>e = .returned (.int .i64 (s.total:Int))∧Below w'.heap.size w' w''):=Lib.hid fun w' hb=>total_any (hW.below hb)
 obtain ⟨⟨mb,k1,_⟩,_⟩:=hW
 have hr0:∀w',Below (w.alloc (.cells #[.string t] 9)).heap.size (w.alloc (.cells #[.string t] 9)) w'→w'.cell? ⟨d,0,none⟩=some (.int .i64 s.room):=fun w' hb=>by rw [cell_heap (heap_below3 hb (lt_of_heap k1) k1)];rfl
 clear h hb k1
 generalize s.total=T at *
 generalize s.room=R at *
 have q1:IntKind.i64.wrap (R - (T:Int))=R - (T:Int):=IntWalk.i64_in _ (by omega)
 go_enter Try.func80,Try.ntmps80
 go_wp2_with fail
 refine HM.out.mono ?_
 rintro e w1 ⟨rfl,rfl⟩
 go_upto_region 4 with (fail)
 generalize w.alloc (.cells #[.string t] 9)=W at *
 refine wp_region_held_drew (S:=fun w'=>Below W.heap.size W w') (by kernel_rfl) (below_drew1 W) (fun hHeld=>?_)
 refine qtl 0 (z00x0 _) rfl ?_
 refine qtl 1 (z00x1 _) rfl ?_
 refine qtl 2 (z00x2 _) rfl ?_
 refine qtl 3 (z00x3 _) rfl ?_
 refine qtl 4 (z00x4 _) rfl ?_
 refine qtl 5 (z00x5 _) rfl ?_
 refine qtl 6 (z00x6 _) rfl ?_
 refine qr1 7 (z00x7 _) rfl fun K hK=>?_
 unfold z00x7
 go_simp
 refine (HTO.out _ (by exact below_drew1 _)).mono ?_
 rintro e w5 ⟨rfl,hb5⟩
 have HB5:=Lib.hid hb5
 go_wp2_with fail
 refine hK.out _ _ (hHeld.trans (hb5.mono hHeld.size)) (fun hHeld=>?_)
 clear hK K
 refine qsp ?_
 clear hb5
 refine qr1 8 (z00x8 _) rfl fun K hK=>?_
 unfold z00x8
 go_simp
 refine hK.out _ _ hHeld (fun hHeld=>?_)
 clear hK K
 refine qsp ?_
 refine qr1 9 (z00x9 _) rfl fun K hK=>?_
 unfold z00x9
 go_simp
 refine hK.out _ _ hHeld (fun hHeld=>?_)
 clear hK K
 refine qsp ?_
 refine qdn ?_
 go_wp2_with fail
 go_ret
 exact ⟨rfl,HB.out.trans (((below_drew1 W).trans (HB5.out.mono (Nat.le_refl _))).mono HB.out.size)⟩
theorem block_ne {w:World} {a b:Nat} {x y:Obj} (h1:w.heap[a]? = some x) (h2:w.heap[b]? = some y) (hne:x≠y):a≠b:=by
 intro e
 rw [e,h2] at h1
 exact hne (Option.some.inj h1).symm
theorem own_ne {w:World} {b:Nat} {v:Value} {l:List UInt8} {o:Obj} (ho:OwnB w 0 5 v l) (h:w.heap[b]? = some o) (hne:∀cur,o ≠ .cells cur 5 (0,0)):b∉v.ownBlock.toList:=by
 intro hm
 have hk:v.ownBlock=some b:=by simpa using hm
 rcases ho.2 with ⟨rfl,_⟩ | ⟨g,cap,cur,rfl,_,hg,_⟩
 ·simp [Value.ownBlock] at hk
 ·simp [Value.ownBlock] at hk
  subst hk
  rw [hg] at h
  exact hne cur (Option.some.inj h).symm
theorem own_keepB {w w':World} {S:List Nat} {v:Value} {l:List UInt8} (ho:OwnB w 0 5 v l) (h:Only S w w') (hS:∀k,v.ownBlock=some k→k∉S):OwnB w' 0 5 v l:=rows_only0 ho h hS
theorem own_ltB {w:World} {v:Value} {l:List UInt8} (ho:OwnB w 0 5 v l):∀k,v.ownBlock=some k→k<w.heap.size:=fun k hk=>(ho.lt k hk).2
/-- a file whose bytes are laid anew -/
theorem dk_final {w8:World} {D':List Nat} {d mb fb cc b0:Nat} {room lives:Int} {off:Bool} {x v8:Value} {safe:Nat} {l8:List UInt8}
  (k1:w8.heap[d]? = some (.cells #[.int .i64 room,.bool off,.int .i64 lives,.map (some mb)] 79 (0,0))) (m8:w8.heap[mb]? = some (.map #[⟨.string logA,.pointer (some ⟨fb,0,none⟩),b0⟩] cc)) (hb0:b0<cc)
  (f8:w8.heap[fb]? = some (.cells #[x,.int .i64 (safe:Int)] 86 (0,0))) (o8:OwnB w8 0 5 v8 l8) (hd:d∈D') (hm:mb∈D') (hf:fb∈D') (ho:∀k,v8.ownBlock=some k→k∈D') (hlt:∀b∈D',b<w8.heap.size) :
  IsDk (w8.setCell ⟨fb,0,none⟩ v8) D' d ⟨room,off,lives,some (l8,safe)⟩:=by
 have ow:Only [fb] w8 (w8.setCell ⟨fb,0,none⟩ v8):=(Only.refl _ _).setCell (by simp) _
 have n1:d≠fb:=block_ne k1 f8 (by simp)
 have n2:mb≠fb:=block_ne m8 f8 (by simp)
 have n3:fb∉v8.ownBlock.toList:=own_ne o8 f8 (by simp)
 refine ⟨⟨mb,ow.keeps k1 (by simpa using n1),hm,cc,fb,b0,v8,ow.keeps m8 (by simpa using n2),hb0,hf,heap_set f8 0 v8,own_keepB o8 ow (fun k hk hm=>?_),ho⟩,hd,fun b hb=>Nat.lt_of_lt_of_le (hlt b hb) ow.size⟩
 rw [List.mem_singleton.1 hm] at hk
 exact n3 (by rw [hk];simp)
theorem logA_20:logA.size≤20:=by decide
set_option maxHeartbeats 2000000 in
theorem append_ok (h:IsDk w D d s) (ho:s.off=false) (ao:Option Addr) (n c:Nat) (l:List UInt8) (hi:IsB w ao n c l) (hr:(n:Int)≤s.room - (s.total:Int)) (h1:s.room≤1048576) :
  Calls Try.prog 80 #[.pointer (some ⟨d,0,none⟩),.string logA,.slice ao n c] w fun e w'=>∃D',e = .returned (.int .i64 0)∧IsDk w' D' d (appD s l)∧Moves D D' w w':=by
 have hb:Below w.heap.size w (w.alloc (.cells #[.string logA] 9)):=(Below.refl _ _).alloc (Nat.le_refl _) _
 have hW:=h.below hb
 have HM:=Lib.hid (may_on hW ho w.heap.size logA (by rw [cell_heap (heap_new _ _)];rfl) good_log)
 have HB:=Lib.hid hb
 have HI:=Lib.hid (hi.below hb)
 have HTO:Hid (∀w',Below (w.alloc (.cells #[.string logA] 9)).heap.size (w.alloc (.cells #[.string logA] 9)) w'→Calls Try.prog 89 #[.pointer (some ⟨d,0,none⟩)] w' fun e w''=>e = .returned (.int .i64 (s.total:Int))∧Below w'.heap.size w' w''):=Lib.hid fun w' hb=>total_any (hW.below hb)
 have HW:=Lib.hid hW
 obtain ⟨⟨mb,k1,k2,k3⟩,k4,k5⟩:=hW
 have hr0:∀w',Below (w.alloc (.cells #[.string logA] 9)).heap.size (w.alloc (.cells #[.string logA] 9)) w'→w'.cell? ⟨d,0,none⟩=some (.int .i64 s.room):=fun w' hb=>by rw [cell_heap (heap_below3 hb (lt_of_heap k1) k1)];rfl
 have HK:=Lib.hid (And.intro k1 (And.intro k2 (And.intro k3 (And.intro k4 k5))))
 have h2:(0:Int)≤(s.total:Int):=by omega
 clear h hb k1 k2 k3 k4 k5 hi
 generalize hTT:s.total=T at *
 generalize hRR:s.room=R at *
 have q1:IntKind.i64.wrap (R - (T:Int))=R - (T:Int):=IntWalk.i64_in _ (by omega)
 have HTT:=Lib.hid hTT;have HRR:=Lib.hid hRR
 clear hTT hRR
 go_enter Try.func80,Try.ntmps80
 go_wp2_with fail
 refine HM.out.mono ?_
 rintro e w1 ⟨rfl,rfl⟩
 go_upto_region 4 with (fail)
 generalize w.alloc (.cells #[.string logA] 9)=W at *
 refine wp_region_held_drew (S:=fun w'=>Below W.heap.size W w') (by kernel_rfl) (below_drew1 W) (fun hHeld=>?_)
 refine qtl 0 (z00x0 _) rfl ?_
 refine qtl 1 (z00x1 _) rfl ?_
 refine qtl 2 (z00x2 _) rfl ?_
 refine qtl 3 (z00x3 _) rfl ?_
 refine qtl 4 (z00x4 _) rfl ?_
 refine qtl 5 (z00x5 _) rfl ?_
 refine qtl 6 (z00x6 _) rfl ?_
 refine qr1 7 (z00x7 _) rfl fun K hK=>?_
 unfold z00x7
 go_simp
 refine (HTO.out _ (by exact below_drew1 _)).mono ?_
 rintro e w5 ⟨rfl,hb5⟩
 have HB5:=Lib.hid hb5
 go_wp2_with fail
 refine hK.out _ _ (hHeld.trans (hb5.mono hHeld.size)) (fun hHeld=>?_)
 clear hK K
 refine qsp ?_
 clear hb5
 refine qr1 8 (z00x8 _) rfl fun K hK=>?_
 unfold z00x8
 go_simp
 refine hK.out _ _ hHeld (fun hHeld=>?_)
 clear hK K
 refine qsp ?_
 refine qr1 9 (z00x9 _) rfl fun K hK=>?_
 unfold z00x9
 go_simp
 refine hK.out _ _ hHeld (fun hHeld=>?_)
 clear hK K
 refine qsp ?_
 refine qdn ?_
 have hb6:Below W.heap.size W w5:=(below_drew1 W).trans HB5.out
 have HI5:=Lib.hid (HI.out.below hb6)
 have HB6:=Lib.hid (HB.out.trans (hb6.mono HB.out.size))
 obtain ⟨k1,k2,k3,k4,k5⟩:=HK.out
 have K1:=Lib.hid (heap_below3 hb6 (lt_of_heap k1) k1)
 have K3:=Lib.hid (k3.keep (Only.ofBelow hb6 []) k2 (fun b _=>by simp))
 have K5:Hid (∀b∈D,b<w5.heap.size):=Lib.hid (fun b hb=>Nat.lt_of_lt_of_le (k5 b hb) hb6.size)
 have hc3:w5.cell? ⟨d,3,none⟩=some (.map (some mb)):=by rw [cell_heap K1.out];rfl
 have hWsz:=hb6.size
 clear k1 k3 k5 hb6 hr0 hHeld HW HK HM HTO
 cases hfile:s.file with
 | none =>
  rw [hfile] at K3
  obtain ⟨cc,hm⟩:=K3.out
  have hl:=look_no hm logA logA_20
  have hm6:=heap_old hm (.cells #[.slice none 0 0,.int .i64 0] 86)
  have hput:=put_new hm6 logA (.pointer (some ⟨w5.heap.size,0,none⟩)) logA_20
  have o7:=setBlock_only (w5.alloc (.cells #[.slice none 0 0,.int .i64 0] 86)) mb (.map #[⟨.string logA,.pointer (some ⟨w5.heap.size,0,none⟩),cc⟩] (cc+1))
  have hmlt:=lt_of_heap hm
  have m7:=setBlock_at (w5.alloc (.cells #[.slice none 0 0,.int .i64 0] 86)) mb (.map #[⟨.string logA,.pointer (some ⟨w5.heap.size,0,none⟩),cc⟩] (cc+1)) (lt_of_heap hm6)
  have f7:=o7.keeps (heap_new w5 (.cells #[.slice none 0 0,.int .i64 0] 86)) (by simp;omega)
  have dne:d≠mb:=block_ne K1.out hm (by simp)
  have k7:=o7.keeps (heap_old K1.out (.cells #[.slice none 0 0,.int .i64 0] 86)) (by simpa using dne)
  have hc6:(w5.alloc (.cells #[.slice none 0 0,.int .i64 0] 86)).cell? ⟨d,3,none⟩=some (.map (some mb)):=by rw [cell_heap (heap_old K1.out _)];rfl
  have oA:Only [mb] w5 (setBlock (w5.alloc (.cells #[.slice none 0 0,.int .i64 0] 86)) mb (.map #[⟨.string logA,.pointer (some ⟨w5.heap.size,0,none⟩),cc⟩] (cc+1))):=((Only.refl [mb] w5).alloc _).trans o7
  have hI7:IsB (setBlock (w5.alloc (.cells #[.slice none 0 0,.int .i64 0] 86)) mb (.map #[⟨.string logA,.pointer (some ⟨w5.heap.size,0,none⟩),cc⟩] (cc+1))) ao n c l:=isB_avoid HI5.out oA (by intro b off i hb;simp;intro e;subst e;exact isB_notmap HI5.out hb hm)
  have hsz7:(setBlock (w5.alloc (.cells #[.slice none 0 0,.int .i64 0] 86)) mb (.map #[⟨.string logA,.pointer (some ⟨w5.heap.size,0,none⟩),cc⟩] (cc+1))).heap.size=w5.heap.size+1:=by simp [setBlock]
  have hfc:=cell_heap f7 0
  have HM7:=Lib.hid m7;have HF7:=Lib.hid f7;have HK7:=Lib.hid k7;have HOA:=Lib.hid oA;have HI7:=Lib.hid hI7;have HSZ7:=Lib.hid hsz7
  have hfc0:(setBlock (w5.alloc (.cells #[.slice none 0 0,.int .i64 0] 86)) mb (.map #[⟨.string logA,.pointer (some ⟨w5.heap.size,0,none⟩),cc⟩] (cc+1))).cell? ⟨w5.heap.size,0,none⟩=some (.slice none 0 0):=by rw [cell_heap f7];rfl
  have hlen0:([]:List UInt8).length+n≤140737488355328:=by simp;omega
  have hmD:=k2
  clear hm hm6 o7 m7 f7 dne k7 oA hI7 hsz7 hfc K3
  go_wp2_with (at_builtin;refine wpList_append_bf rfl (.tmp 46) (.tmp 47) 29 rfl 5 Try.underlying29 F.info5 (.slice none 0 0) [] rfl (OwnB.nil _ _ _) ao n c l rfl HI7.out hlen0 ?_;intro v8 w8 ho8 on8 fr8;rw [List.nil_append] at ho8;have HO8:=Lib.hid ho8;have HON8:=Lib.hid on8;have HF8:=Lib.hid (on8.keeps HF7.out (by simp [Value.ownBlock]));have HFR8:=Lib.hid fr8;have hc8:w8.cell? ⟨w5.heap.size,0,none⟩=some (.slice none 0 0):=(cell_heap HF8.out 0).trans rfl;have hz8:=free_heap HF8.out 0;obtain ⟨a8,c8,e8,_,_⟩:=rows_form ho8;subst e8;clear ho8 on8 fr8)
  go_ret
  have hap:appD s l=⟨R,s.off,s.lives,some (l,0)⟩:=by unfold appD appF;rw [hfile,HRR.out]
  have on8:=HON8.out
  have hK8:=on8.keeps HK7.out (by simp [Value.ownBlock])
  have hM8:=on8.keeps HM7.out (by simp [Value.ownBlock])
  have hs8:=on8.size
  have hs7:=HSZ7.out
  have fr8:=HFR8.out
  have hlt8:=own_ltB HO8.out
  rw [hap]
  refine ⟨D++w5.heap.size::(Value.slice a8 l.length c8).ownBlock.toList,rfl,dk_final hK8 hM8 (Nat.lt_succ_self _) HF8.out HO8.out (by simp [k4]) (by simp [k2]) (by simp) (fun k hk=>by simp [hk]) (fun b hb=>?_),(Moves.of_below HB6.out).trans ⟨?_,fun b hb=>?_,fun b hb=>by simp [hb]⟩⟩
  ·simp only [List.mem_append,List.mem_cons,Option.mem_toList] at hb
   rcases hb with hb | rfl | hb
   ·have:=K5.out b hb;omega
   ·omega
   ·exact hlt8 b hb
  ·have o9:Only [w5.heap.size] w8 (w8.setCell ⟨w5.heap.size,0,none⟩ (.slice a8 l.length c8)):=(Only.refl _ _).setCell (by simp) _
   have oall:=((HOA.out.mono (T:=[mb,w5.heap.size]) (by simp)).trans (on8.mono (by simp [Value.ownBlock]))).trans (o9.mono (T:=[mb,w5.heap.size]) (by simp))
   exact oall.cut (fun k hk hlt=>by
    simp at hk
    rcases hk with rfl | rfl
    ·exact k2
    ·omega)
  ·simp only [List.mem_append,List.mem_cons,Option.mem_toList] at hb
   rcases hb with hb | rfl | hb
   ·exact .inl hb
   ·exact .inr (Nat.le_refl _)
   ·rcases fr8 b hb with h8 | h8
    ·simp [Value.ownBlock] at h8
    ·right;omega
 | some p =>
  obtain ⟨m,kk⟩:=p
  rw [hfile] at K3
  obtain ⟨cc,fb,b0,v,hm,hb0,hfD,hf,ho5,hov⟩:=K3.out
  have hT:T=m.length:=by rw [←HTT.out];unfold Dk.total;rw [hfile]
  obtain ⟨a0,c0,rfl,_,_⟩:=rows_form ho5
  have hl:=look_yes hm logA_20
  have hfc:w5.cell? ⟨fb,0,none⟩=some (.slice a0 m.length c0):=by rw [cell_heap hf];rfl
  have hlen0:m.length+n≤140737488355328:=by omega
  have HM5:=Lib.hid hm;have HF5:=Lib.hid hf;have HO5:=Lib.hid ho5;have HOV:=Lib.hid hov
  have N1:Hid (fb∉(Value.slice a0 m.length c0).ownBlock.toList):=Lib.hid (own_ne ho5 hf (by simp))
  clear hm hf ho5 hov K3
  go_wp2_with (at_builtin;refine wpList_append_bf rfl (.tmp 46) (.tmp 47) 29 rfl 5 Try.underlying29 F.info5 (.slice a0 m.length c0) m rfl HO5.out ao n c l rfl HI5.out hlen0 ?_;intro v8 w8 ho8 on8 fr8;have HO8:=Lib.hid ho8;have HON8:=Lib.hid on8;have HF8:=Lib.hid (on8.keeps HF5.out N1.out);have HFR8:=Lib.hid fr8;have hc8:w8.cell? ⟨fb,0,none⟩=some (.slice a0 m.length c0):=(cell_heap HF8.out 0).trans rfl;have hz8:=free_heap HF8.out 0;obtain ⟨a8,c8,e8,_,_⟩:=rows_form ho8;subst e8;clear ho8 on8 fr8)
  go_ret
  have hap:appD s l=⟨R,s.off,s.lives,some (m++l,kk)⟩:=by unfold appD appF;rw [hfile,HRR.out]
  have HO9:OwnB w8 0 5 (.slice a8 (m.length+l.length) c8) (m++l):=by rw [←List.length_append];exact HO8.out
  rw [List.length_append] at HFR8
  have on8:=HON8.out
  have hK8:=on8.keeps K1.out (own_ne HO5.out K1.out (by simp))
  have hM8:=on8.keeps HM5.out (own_ne HO5.out HM5.out (by simp))
  have hs8:=on8.size
  have fr8:=HFR8.out
  have hlt8:=own_ltB HO9
  rw [hap]
  refine ⟨D++(Value.slice a8 (m.length+l.length) c8).ownBlock.toList,rfl,dk_final hK8 hM8 hb0 HF8.out HO9 (by simp [k4]) (by simp [k2]) (by simp [hfD]) (fun k hk=>by simp [hk]) (fun b hb=>?_),(Moves.of_below HB6.out).trans ⟨?_,fun b hb=>?_,fun b hb=>by simp [hb]⟩⟩
  ·simp only [List.mem_append,Option.mem_toList] at hb
   rcases hb with hb | hb
   ·have:=K5.out b hb;omega
   ·exact hlt8 b hb
  ·have o9:Only [fb] w8 (w8.setCell ⟨fb,0,none⟩ (.slice a8 (m.length+l.length) c8)):=(Only.refl _ _).setCell (by simp) _
   exact (on8.mono (fun k hk=>HOV.out k (by simpa using hk))).trans (o9.mono (by simpa using hfD))
  ·simp only [List.mem_append,Option.mem_toList] at hb
   rcases hb with hb | hb
   ·exact .inl hb
   ·rcases fr8 b hb with h8 | h8
    ·exact .inl (HOV.out b h8)
    ·exact .inr h8
end
end Go.Proofs.Ytnicaicjgaoolaa
namespace Go.Proofs.Ytnicaicjgaoolaa
open Go.RowKit Go.ChangeMaps Go.WideMaps Go.Maps
set_option maxRecDepth 20000
section
variable {w:World} {D:List Nat} {d:Nat} {s:Dk}
theorem find_no (h:IsDk w D d s) (ho:s.off=false) (t:ByteArray) (ht:GoodN t) (hno:s.file=none∨t≠logA) :
  Calls Try.prog 74 #[.pointer (some ⟨d,0,none⟩),.string t] w fun e w'=>e = .returned (.tuple #[.pointer none,.int .i64 4])∧Below w.heap.size w w':=by
 obtain ⟨⟨mb,k1,k2,k3⟩,k4,k5⟩:=h
 refine find_none ⟨⟨mb,k1,k2,k3⟩,k4,k5⟩ ho t ht (mb:=mb) (by rw [cell_heap k1];rfl) fun w' hb=>?_
 cases hf:s.file with
 | none =>
  rw [hf] at k3
  obtain ⟨c,hm⟩:=k3
  exact look_no (heap_below3 hb (lt_of_heap hm) hm) t ht.1.2
 | some p =>
  obtain ⟨l,k⟩:=p
  rw [hf] at k3
  obtain ⟨c,fb,b0,v,hm,_⟩:=k3
  refine look_other (heap_below3 hb (lt_of_heap hm) hm) logA_20 ht.1.2 (fun e=>?_)
  rcases hno with h1 | h1
  ·rw [hf] at h1;cases h1
  ·exact h1 e.symm
/-- the parts of a disk that has its file -/
structure Parts (w:World) (D:List Nat) (d:Nat) (s:Dk) (l:List UInt8) (k mb cc fb b0:Nat) (v:Value):Prop where
 hd:w.heap[d]? = some (.cells #[.int .i64 s.room,.bool s.off,.int .i64 s.lives,.map (some mb)] 79 (0,0))
 hm:w.heap[mb]? = some (.map #[⟨.string logA,.pointer (some ⟨fb,0,none⟩),b0⟩] cc)
 hb:b0<cc
 hf:w.heap[fb]? = some (.cells #[v,.int .i64 (k:Int)] 86 (0,0))
 ho:OwnB w 0 5 v l
 dD:d∈D
 mD:mb∈D
 fD:fb∈D
 vD:∀j,v.ownBlock=some j→j∈D
 lt:∀b∈D,b<w.heap.size
theorem IsDk.parts (h:IsDk w D d s) {l:List UInt8} {k:Nat} (hf:s.file=some (l,k)):∃mb cc fb b0 v,Parts w D d s l k mb cc fb b0 v:=by
 obtain ⟨⟨mb,k1,k2,k3⟩,k4,k5⟩:=h
 rw [hf] at k3
 obtain ⟨c,fb,b0,v,h1,h2,h3,h4,h5,h6⟩:=k3
 exact ⟨mb,c,fb,b0,v,k1,h1,h2,h4,h5,k4,k2,h3,h6,k5⟩
theorem Parts.dk {l:List UInt8} {k mb cc fb b0:Nat} {v:Value} (h:Parts w D d s l k mb cc fb b0 v) (hf:s.file=some (l,k)):IsDk w D d s :=
 ⟨⟨mb,h.hd,h.mD,by rw [hf];exact ⟨cc,fb,b0,v,h.hm,h.hb,h.fD,h.hf,h.ho,h.vD⟩⟩,h.dD,h.lt⟩
theorem Parts.below {w':World} {l:List UInt8} {k mb cc fb b0:Nat} {v:Value} (h:Parts w D d s l k mb cc fb b0 v) (hb:Below w.heap.size w w'):Parts w' D d s l k mb cc fb b0 v :=
 ⟨heap_below3 hb (lt_of_heap h.hd) h.hd,heap_below3 hb (lt_of_heap h.hm) h.hm,h.hb,heap_below3 hb (lt_of_heap h.hf) h.hf,rows_only0 h.ho (Only.ofBelow hb []) (fun b _=>by simp),h.dD,h.mD,h.fD,h.vD,fun b hb2=>Nat.lt_of_lt_of_le (h.lt b hb2) hb.size⟩
/-- the file's two cells are laid anew -/
theorem Parts.set {l l':List UInt8} {k k' mb cc fb b0:Nat} {v v':Value} {w':World} {D':List Nat} {s':Dk} (h:Parts w D d s l k mb cc fb b0 v) (ho:Only [fb] w w') (hf:w'.heap[fb]? = some (.cells #[v',.int .i64 (k':Int)] 86 (0,0)))
  (hv:OwnB w 0 5 v' l') (hsub:∀b∈D,b∈D') (hvD:∀j,v'.ownBlock=some j→j∈D') (hlt:∀b∈D',b<w.heap.size) (hs':s'.room=s.room∧s'.off=s.off∧s'.lives=s.lives):Parts w' D' d s' l' k' mb cc fb b0 v':=by
 have n1:d≠fb:=block_ne h.hd h.hf (by simp)
 have n2:mb≠fb:=block_ne h.hm h.hf (by simp)
 have n3:fb∉v'.ownBlock.toList:=own_ne hv h.hf (by simp)
 obtain ⟨e1,e2,e3⟩:=hs'
 refine ⟨by rw [e1,e2,e3];exact ho.keeps h.hd (by simpa using n1),ho.keeps h.hm (by simpa using n2),h.hb,hf,own_keepB hv ho (fun j hj hm=>?_),hsub _ h.dD,hsub _ h.mD,hsub _ h.fD,hvD,fun b hb=>Nat.lt_of_lt_of_le (hlt b hb) ho.size⟩
 rw [List.mem_singleton.1 hm] at hj
 exact n3 (by rw [hj];simp)
theorem find_yes {l:List UInt8} {k mb cc fb b0:Nat} {v:Value} (h:Parts w D d s l k mb cc fb b0 v) (hf:s.file=some (l,k)) (ho:s.off=false) :
  Calls Try.prog 74 #[.pointer (some ⟨d,0,none⟩),.string logA] w fun e w'=>e = .returned (.tuple #[.pointer (some ⟨fb,0,none⟩),.int .i64 0])∧Below w.heap.size w w' :=
 find_some (h.dk hf) ho logA good_log (mb:=mb) (by rw [cell_heap h.hd];rfl) fun w' hb=>look_yes (heap_below3 hb (lt_of_heap h.hm) h.hm) logA_20
theorem read_off (h:IsDk w D d s) (ho:s.off=true) (t:ByteArray):Calls Try.prog 70 #[.pointer (some ⟨d,0,none⟩),.string t] w fun e w'=>e = .returned (.tuple #[.slice none 0 0,.int .i64 10])∧Below w.heap.size w w':=by
 have HF:=Lib.hid (find_off h ho t)
 clear h
 go_enter Try.func70,Try.ntmps70
 go_wp2_with fail
 refine HF.out.mono ?_
 rintro e w1 ⟨rfl,hb⟩
 have HB:=Lib.hid hb
 clear hb
 go_wp2_with fail
 go_ret2
 exact ⟨rfl,HB.out⟩
theorem read_no (h:IsDk w D d s) (ho:s.off=false) (t:ByteArray) (ht:GoodN t) (hno:s.file=none∨t≠logA):Calls Try.prog 70 #[.pointer (some ⟨d,0,none⟩),.string t] w fun e w'=>e = .returned (.tuple #[.slice none 0 0,.int .i64 4])∧Below w.heap.size w w':=by
 have HF:=Lib.hid (find_no h ho t ht hno)
 clear h
 go_enter Try.func70,Try.ntmps70
 go_wp2_with fail
 refine HF.out.mono ?_
 rintro e w1 ⟨rfl,hb⟩
 have HB:=Lib.hid hb
 clear hb
 go_wp2_with fail
 go_ret2
 exact ⟨rfl,HB.out⟩
theorem read_yes (h:IsDk w D d s) (ho:s.off=false) {l:List UInt8} {k:Nat} (hf:s.file=some (l,k)) (hl:l.length≤1048576) :
  Calls Try.prog 70 #[.pointer (some ⟨d,0,none⟩),.string logA] w fun e w'=>∃v,e = .returned (.tuple #[v,.int .i64 0])∧OwnB w' w.heap.size 5 v l∧Below w.heap.size w w':=by
 obtain ⟨mb,cc,fb,b0,v,hp⟩:=h.parts hf
 have HF:=Lib.hid (find_yes hp hf ho)
 have HP:=Lib.hid hp
 clear h hp
 go_enter Try.func70,Try.ntmps70
 go_wp2_with fail
 refine HF.out.mono ?_
 rintro e w1 ⟨rfl,hb⟩
 have HB:=Lib.hid hb
 have HP1:=Lib.hid (HP.out.below hb)
 obtain ⟨ao,c,rfl,hi⟩:=HP1.out.ho.isB
 have hc:w1.cell? ⟨fb,0,none⟩=some (.slice ao l.length c):=by rw [cell_heap HP1.out.hf];rfl
 have HI:=Lib.hid hi
 clear hb hi
 go_wp2_with fail
 refine (F.clone_any ao l.length c l w1 HI.out (by omega)).mono ?_
 rintro e w2 ⟨v2,rfl,ho2,hb2⟩
 have HO2:=Lib.hid (ho2.mono HB.out.size)
 have HB2:=Lib.hid (HB.out.trans (hb2.mono HB.out.size))
 clear ho2 hb2
 go_wp2_with fail
 go_ret2
 exact ⟨v2,rfl,HO2.out,HB2.out⟩
theorem sync_no (h:IsDk w D d s) (ho:s.off=false) (hno:s.file=none):Calls Try.prog 79 #[.pointer (some ⟨d,0,none⟩),.string logA] w fun e w'=>e = .returned (.int .i64 4)∧Below w.heap.size w w':=by
 have HF:=Lib.hid (find_no h ho logA good_log (.inl hno))
 clear h
 go_enter Try.func79,Try.ntmps79
 go_wp2_with fail
 refine HF.out.mono ?_
 rintro e w1 ⟨rfl,hb⟩
 have HB:=Lib.hid hb
 clear hb
 go_wp2_with fail
 go_ret
 exact ⟨rfl,HB.out⟩
theorem sync_yes (h:IsDk w D d s) (ho:s.off=false) {l:List UInt8} {k:Nat} (hf:s.file=some (l,k)) :
  Calls Try.prog 79 #[.pointer (some ⟨d,0,none⟩),.string logA] w fun e w'=>e = .returned (.int .i64 0)∧IsDk w' D d { s with file:=some (l,l.length)}∧Only D w w':=by
 obtain ⟨mb,cc,fb,b0,v,hp⟩:=h.parts hf
 have HF:=Lib.hid (find_yes hp hf ho)
 have HP:=Lib.hid hp
 clear h hp
 go_enter Try.func79,Try.ntmps79
 go_wp2_with fail
 refine HF.out.mono ?_
 rintro e w1 ⟨rfl,hb⟩
 have HB:=Lib.hid hb
 have HP1:=Lib.hid (HP.out.below hb)
 obtain ⟨ao,c,rfl,hi⟩:=HP1.out.ho.isB
 have hc:w1.cell? ⟨fb,0,none⟩=some (.slice ao l.length c):=by rw [cell_heap HP1.out.hf];rfl
 have hc1:w1.cell? ⟨fb,1,none⟩=some (.int .i64 (k:Int)):=by rw [cell_heap HP1.out.hf];rfl
 have hz1:=free_heap HP1.out.hf 1
 clear hb hi
 go_wp2_with fail
 go_ret
 have o9:Only [fb] w1 (w1.setCell ⟨fb,1,none⟩ (.int .i64 (l.length:Int))):=(Only.refl _ _).setCell (by simp) _
 have hp9:=HP1.out.set (s':={ s with file:=some (l,l.length)}) o9 (heap_set HP1.out.hf 1 _) HP1.out.ho (fun b hb=>hb) HP1.out.vD HP1.out.lt ⟨rfl,rfl,rfl⟩
 exact ⟨rfl,hp9.dk rfl,(Only.ofBelow HB.out D).trans (o9.mono (by simpa using HP1.out.fD))⟩
theorem IsFile.only_d {w':World} {mb:Nat} {f:Option (List UInt8×Nat)} {cs:Array Value} (h:IsFile w D mb f) (ho:Only [d] w w') (hd:w.heap[d]? = some (.cells cs 79 (0,0))):IsFile w' D mb f:=by
 cases f with
 | none =>
  obtain ⟨c,h1⟩:=h
  exact ⟨c,ho.keeps h1 (by simpa using block_ne h1 hd (by simp))⟩
 | some p =>
  obtain ⟨l,safe⟩:=p
  obtain ⟨c,fb,b0,v,h1,h2,h3,h4,h5,h6⟩:=h
  refine ⟨c,fb,b0,v,ho.keeps h1 (by simpa using block_ne h1 hd (by simp)),h2,h3,ho.keeps h4 (by simpa using block_ne h4 hd (by simp)),rows_only0 h5 ho (fun b hb hm=>?_),h6⟩
  exact own_ne h5 hd (by simp) (by rw [List.mem_singleton.1 hm] at hb;rw [hb];simp)
theorem on_any (h:IsDk w D d s) (hl:s.lives≤1000000000) (hl0:0≤s.lives):Calls Try.prog 24 #[.pointer (some ⟨d,0,none⟩)] w fun e w'=>e = .returned (.tuple #[])∧IsDk w' D d { s with off:=false,lives:=s.lives+1 }∧Only D w w':=by
 obtain ⟨⟨mb,k1,k2,k3⟩,k4,k5⟩:=h
 have hc1:w.cell? ⟨d,1,none⟩=some (.bool s.off):=by rw [cell_heap k1];rfl
 have hc2:w.cell? ⟨d,2,none⟩=some (.int .i64 s.lives):=by rw [cell_heap k1];rfl
 have hz1:=free_heap k1 1;have hz2:=free_heap k1 2
 have K:=Lib.hid (And.intro k1 (And.intro k2 (And.intro k3 (And.intro k4 k5))))
 have q1:IntKind.i64.wrap (s.lives+1)=s.lives+1:=IntWalk.i64_in _ (by omega)
 clear k1 k2 k3 k4 k5
 go_enter Try.func24,Try.ntmps24
 go_wp2_with fail
 go_end0
 obtain ⟨k1,k2,k3,k4,k5⟩:=K.out
 have o9:Only [d] w ((w.setCell ⟨d,2,none⟩ (.int .i64 (s.lives+1))).setCell ⟨d,1,none⟩ (.bool false)):=((Only.refl _ _).setCell (by simp) _).setCell (by simp) _
 have hh:=heap_set (heap_set k1 2 (.int .i64 (s.lives+1))) 1 (.bool false)
 refine ⟨rfl,⟨⟨mb,hh,k2,?_⟩,k4,fun b hb=>Nat.lt_of_lt_of_le (k5 b hb) o9.size⟩,o9.mono (by simpa using k4)⟩
 exact k3.only_d o9 k1
end
end Go.Proofs.Ytnicaicjgaoolaa
