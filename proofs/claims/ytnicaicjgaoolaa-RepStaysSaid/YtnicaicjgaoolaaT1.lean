/-
  What the proof of the law leans on: contracts of the program's functions, one behind another. No condition.
-/
import Derived.ProofKit
import Derived.OpenShut
import Derived.ShutString
import Derived.ChangeOld
import Derived.SizedLaws
import Derived.WalkKit
import Derived.Deep.Slices
import Derived.WalkSpells
import Derived.WalkLawsBesides
import Derived.Lib.Hide
import Derived.Laws.AppendOwnNone
import Derived.Deep.QuietTactic
import Derived.BigQuiet
import Derived.Deep.RegionWith
import Derived.Orders
import Derived.Test.YtnicaicjgaoolaaRows
import Derived.Maps.Keyed
import Derived.DeepKeys4
import Derived.ChangeMaps5
import Derived.Deep.AppendLies
set_option linter.unusedVariables false
set_option linter.unusedSimpArgs false
namespace Go.Proofs.Ytnicaicjgaoolaa
open Go.ChangeShapes Go.WideShapes Go.ChangeAt Go.RowKit

section
variable {H:Type} {enc:TypeId×Value→H} {P:Program}

theorem trodAll_below (hl:laidOutB P=true) {W W':World} (hb:Below W.heap.size W W'):∀(ts:List TypeId) (vs:List Value) (ds:List (DataW H)) (ps:List MemPlace),
  (∀t∈ts,P.readableRec t=true∧t<P.types.size)→DataW.TrodAll enc P W 0 (fun _=>true) true ts vs ds ps→DataW.TrodAll enc P W' 0 (fun b=>decide (b<W.heap.size)) true ts vs ds ps
 | [],[],[],_,_,h=>h
 | t::ts,v::vs,d::ds,_,hr,h=>by
  obtain ⟨p,q,h1,h2,h3⟩:=h
  refine ⟨p,q,Below.trod hl (hr t (by simp)).1 (hr t (by simp)).2 h1 hb ?_,trodAll_below hl hb ts vs ds q (fun t ht=>hr t (by simp [ht])) h2,h3⟩
  obtain ⟨m,hm⟩:=h1
  exact DataW.trod_lt m _ _ _ hm
 | [],[],_::_,_,_,h=>h.elim
 | [],_::_,_,_,_,h=>h.elim
 | _::_,[],_,_,_,h=>h.elim
 | _::_,_::_,[],_,_,h=>h.elim

/-- the post of a law, whatever its parameters -/
theorem law_post {fn:Func} {s:ChangeSpec} {W W':World} {args:Array Value} {ds gs:List (DataW H)} {before:List MemPlace} {b:TypeId}
  (hl:laidOutB P=true) (hr:∀t∈fn.params.toList,P.readableRec t=true∧t<P.types.size) (hres:fn.resultTypes=#[b]) (hbool:P.underlying b=some .bool) (hvars:s.vars=[])
  (hs:s.fn H ds={ results:=[.lit (.bool true)],args:=ds }) (hW:DataW.Whole enc P fn.params.toList s.vars false W args.toList ds gs before) (hb:Below W.heap.size W W') :
  s.post enc P fn false true false false W args (.bool true) W':=by
 have hW':=hW
 obtain ⟨p,q,hA,hV,hp,_,_⟩:=hW
 rw [hvars] at hV
 obtain ⟨rfl,rfl⟩:=trodVars_none hV
 refine ⟨ds,[],before,[],p,[],hW',?_,?_,?_,hb.frame _,fun h=>by cases h⟩
 ·rw [List.append_nil,hs,hres]
  exact trodAll_mk1 (shut_bool hbool _)
 ·rw [List.append_nil,hs]
  exact trodAll_below hl hb _ _ _ _ hr hA
 ·rw [List.append_nil,hs,hvars]
  rfl

theorem weights_arg {ts:List TypeId} {ds:List (DataW H)} (h:(DataW.weightsEach P ts ds).all (· ≤ reachBytes)=true) {j:Nat} {t:TypeId} {d:DataW H} (ht:ts[j]? = some t) (hd:ds[j]? = some d) :
  (DataW.weights P t d).all (· ≤ reachBytes)=true :=
 List.all_eq_true.2 fun x hx=>List.all_eq_true.1 h x (DataW.weights_mem_each ht hd x hx)

/-- what a part weighs is among what the whole weighs -/
theorem weightsAll_mem {e:TypeId} {x:Nat}:∀(l:List (DataW H)) (d:DataW H),d∈l→x∈DataW.weights P e d→x∈DataW.weightsAll P e l
 | [],_,hd,_=>by cases hd
 | y::l,d,hd,hx=>by
  simp only [DataW.weightsAll,List.mem_append]
  rcases List.mem_cons.1 hd with rfl | hd
  ·exact .inl hx
  ·exact .inr (weightsAll_mem l d hd hx)
theorem weights_elem {e:TypeId} {l:List (DataW H)} {d:DataW H} (h:(DataW.weightsAll P e l).all (· ≤ reachBytes)=true) (hd:d∈l):(DataW.weights P e d).all (· ≤ reachBytes)=true :=
 List.all_eq_true.2 fun x hx=>List.all_eq_true.1 h x (weightsAll_mem l d hd hx)
end

end Go.Proofs.Ytnicaicjgaoolaa
namespace Go.Proofs.Ytnicaicjgaoolaa
open Go.RowKit

/-- a byte as a cell -/
def bv (x:UInt8):Value:=.int .u8 (x.toNat:Int)

/-- a slice of bytes that reads as l -/
structure IsB (w:World) (ao:Option Addr) (n c:Nat) (l:List UInt8):Prop where
 len:l.length=n
 nil:ao=none→n=0∧c=0
 at_:n=0∨∃b off,ao=some ⟨b,off,none⟩∧∀i,i<n→w.cell? ⟨b,off+i,none⟩=some (.int .u8 ((l.getD i 0).toNat:Int))

/-- a slice of slices of bytes that reads as ls -/
structure IsBB (w:World) (ao:Option Addr) (n:Nat) (ls:List (List UInt8)):Prop where
 len:ls.length=n
 at_:n=0∨∃b off,ao=some ⟨b,off,none⟩∧∀i,i<n→∃a m c,w.cell? ⟨b,off+i,none⟩=some (.slice a m c)∧IsB w a m c (ls.getD i [])∧m≤140737488351232

theorem IsB.below {w w':World} {ao:Option Addr} {n c:Nat} {l:List UInt8} (h:IsB w ao n c l) (hb:Below w.heap.size w w'):IsB w' ao n c l:=by
 obtain ⟨h1,h2,h3⟩:=h
 refine ⟨h1,h2,?_⟩
 rcases h3 with h3 | ⟨b,off,h4,h5⟩
 ·exact .inl h3
 ·exact .inr ⟨b,off,h4,fun i hi=>cell_later hb (h5 i hi)⟩

theorem IsB.alloc {w:World} {ao:Option Addr} {n c:Nat} {l:List UInt8} (h:IsB w ao n c l) (o:Obj):IsB (w.alloc o) ao n c l :=
 h.below ((Below.refl _ _).alloc (Nat.le_refl _) o)

theorem IsB.heapw {w w':World} {ao:Option Addr} {n c:Nat} {l:List UInt8} (h:IsB w ao n c l) (hw:w'.heap=w.heap):IsB w' ao n c l:=by
 obtain ⟨h1,h2,h3⟩:=h
 refine ⟨h1,h2,?_⟩
 rcases h3 with h3 | ⟨b,off,h4,h5⟩
 ·exact .inl h3
 ·exact .inr ⟨b,off,h4,fun i hi=>(World.cell?_of_block (by rw [hw])).trans (h5 i hi)⟩
theorem isB_take {w:World} {ao:Option Addr} {n c:Nat} {l:List UInt8} (h:IsB w ao n c l) (k:Nat) (hk:k≤n):IsB w ao k c (l.take k):=by
 obtain ⟨h1,h2,h3⟩:=h
 refine ⟨by rw [List.length_take,h1];omega,(fun e=>⟨by have:=(h2 e).1;omega,(h2 e).2⟩),?_⟩
 rcases h3 with h3 | ⟨b,off,h4,h5⟩
 ·exact .inl (by omega)
 ·refine .inr ⟨b,off,h4,fun i hi=>?_⟩
  rw [h5 i (by omega)]
  simp [hi]
theorem isB_drop {w:World} {b off n c:Nat} {l:List UInt8} (h:IsB w (some ⟨b,off,none⟩) n c l) (k c':Nat) (hk:k≤n):IsB w (some ⟨b,off+k,none⟩) (n - k) c' (l.drop k):=by
 obtain ⟨h1,h2,h3⟩:=h
 refine ⟨by rw [List.length_drop,h1],(fun e=>by cases e),?_⟩
 rcases h3 with h3 | ⟨b',off',h4,h5⟩
 ·exact .inl (by omega)
 ·cases h4
  refine .inr ⟨b,off+k,rfl,fun i hi=>?_⟩
  rw [Nat.add_assoc,h5 (k+i) (by omega)]
  simp [List.getElem?_drop]
theorem isB_zero {w:World} {p:Addr} (c:Nat):IsB w (some p) 0 c []:=⟨rfl,(fun e=>by cases e),.inl rfl⟩
theorem isB_nil (w:World):IsB w none 0 0 []:=⟨rfl,fun _=>⟨rfl,rfl⟩,.inl rfl⟩

/-- new bytes, laid out as a block -/
theorem isB_new (w:World) (l:List UInt8) (vs:Array Value) (hv:vs=(l.map bv).toArray) (t:TypeId) (fr:Nat×Nat) (H:Nat) (hH:H=w.heap.size) (n:Nat) (hn:l.length=n) (c:Nat) :
  IsB (w.alloc (.cells vs t fr)) (some ⟨H,0,none⟩) n c l:=by
 subst hH hv hn
 refine ⟨rfl,(fun h=>by cases h),.inr ⟨_,_,rfl,fun i hi=>?_⟩⟩
 rw [World.cell?_alloc_mark]
 simp [hi,bv]

/-- what the call owns reads as a slice of bytes -/
theorem isB_own {w:World} {base:Nat} {e:TypeId} {v:Value} {n:Nat} {l:List UInt8} (h:w.ownsRow base e 1 v n (l.map bv)) :
  ∃ao c,v = .slice ao n c∧IsB w ao n c l:=by
 obtain ⟨h1,h2⟩:=h
 have hl:l.length=n:=by simpa using h1
 rcases h2 with ⟨rfl,rfl⟩ | ⟨g,cap,cur,rfl,hg,hh,hn,hm,hs,ht⟩
 ·exact ⟨none,0,rfl,hl,fun _=>⟨rfl,rfl⟩,.inl rfl⟩
 ·refine ⟨_,cap,rfl,hl,(fun h=>by cases h),.inr ⟨g,0,rfl,fun i hi=>?_⟩⟩
  have:cur.toList[i]? = some (bv (l.getD i 0)):=by
   have h3:(cur.toList.take (n*1))[i]? = (l.map bv)[i]? := by rw [ht]
   rw [List.getElem?_take,if_pos (by omega)] at h3
   rw [h3]
   have:i<l.length:=by omega
   simp [this]
  simp only [World.cell?,hh,Nat.zero_add]
  simpa [bv] using this

/-- a slice value that the call made itself (its block lies from base on) and that reads as l -/
def OwnB (w:World) (base:Nat) (e:TypeId) (v:Value) (l:List UInt8):Prop:=w.ownsRow base e 1 v l.length (l.map bv)

theorem OwnB.nil (w:World) (base:Nat) (e:TypeId):OwnB w base e (.slice none 0 0) []:=World.ownsRow_nil _ _ _ _
theorem OwnB.alloc {w:World} {base:Nat} {e:TypeId} {v:Value} {l:List UInt8} (h:OwnB w base e v l) (o:Obj):OwnB (w.alloc o) base e v l:=World.ownsRow.alloc h o
theorem OwnB.isB {w:World} {base:Nat} {e:TypeId} {v:Value} {l:List UInt8} (h:OwnB w base e v l):∃ao c,v = .slice ao l.length c∧IsB w ao l.length c l:=isB_own h
theorem OwnB.lt {w:World} {base:Nat} {e:TypeId} {v:Value} {l:List UInt8} (h:OwnB w base e v l):∀k,v.ownBlock=some k→base≤k∧k<w.heap.size:=World.ownsRow.lt h
theorem OwnB.mono {w:World} {base base':Nat} {e:TypeId} {v:Value} {l:List UInt8} (h:OwnB w base e v l) (hb:base'≤base):OwnB w base' e v l:=by
 refine ⟨h.1,?_⟩
 rcases h.2 with h2 | ⟨g,cap,cur,hv,hg,hh,r⟩
 ·exact .inl h2
 ·exact .inr ⟨g,cap,cur,hv,Nat.le_trans hb hg,hh,r⟩
/-- a new, empty block of bytes -/
theorem OwnB.new (w:World) (base:Nat) (e:TypeId) (l:List UInt8) (vs:Array Value) (hv:vs=(l.map bv).toArray) (H:Nat) (hH:H=w.heap.size) (hb:base≤w.heap.size) (n:Nat) (hn:l.length=n) (hm:n≤140737488355328) :
  OwnB (w.alloc (.cells vs e)) base e (.slice (some ⟨H,0,none⟩) n n) l:=by
 subst hH hv hn
 refine ⟨by simp,.inr ⟨w.heap.size,l.length,_,rfl,hb,heap_alloc_new w _,Nat.le_refl _,by unfold maxLen;omega,by simp,?_⟩⟩
 simp [List.take_of_length_le]

/-- APPEND, whatever is appended that reads as bytes: nil, empty or not -/
theorem wpList_append_bytes {P:Program} {w:World} {ops:Array Oper} {rest:List Oper} {o:Oper} {a:Act} {Q:Exit→Act→World→Prop} (hgd:o.guard=none) (s x:Operand) (t:TypeId)
  (ho:o.op = .call { callee:=.builtin .append,args:=#[s,x],argTypes:=#[t,t]})
  (base:Nat) (e:TypeId) (ht:P.underlying t=some (.slice e)) (hi:(P.info? e).map (fun i=>(i.zero,i.size,i.bytes))=some (some (.int .u8 0),1,1))
  (v:Value) (l:List UInt8) (hs:a.eval s=v) (hown:OwnB w base e v l)
  (ao:Option Addr) (m c:Nat) (l2:List UInt8) (hx:a.eval x = .slice ao m c) (hsrc:IsB w ao m c l2)
  (hbytes:l.length+m≤140737488355328) (hbase:base≤w.heap.size)
  (h:∀v' w',OwnB w' base e v' (l++l2)→w.grownBy w' v.ownBlock→Below base w w'→wpList P ops Q rest (a.put o.dst v') w'):wpList P ops Q (o::rest) a w:=by
 obtain ⟨i0,hi0,hz0,hz1,hz2⟩:=info_parts hi
 obtain ⟨h1,h2,h3⟩:=hsrc
 have hb:∀w',w.grownBy w' v.ownBlock→Below base w w':=fun w' hg=>(Below.refl base w).grown hg hbase (fun k hk=>(hown.lt k hk).1)
 unfold OwnB at hown h
 cases ao with
 | none =>
  obtain ⟨rfl,rfl⟩:=h2 rfl
  obtain rfl:l2=[]:=List.length_eq_zero_iff.1 h1
  exact wpList_append_own_none hgd s x t ho base e i0 1 ht hi0 v _ _ hs hown hx (h v w (by simpa using hown) (World.grownBy.refl _ _) (Below.refl _ _))
 | some ad =>
  refine wpList_append_own w hgd s x t ho base e i0 (.int .u8 0) 1 1 ht hi0 hz0 hz1 hz2 rfl (by decide) v _ _ hs hown ad m c (l2.map bv) hx (by simpa using h1) ?_ ?_ (by unfold maxLen;omega) (by omega) hbase ?_
  ·intro j u hj
   rcases h3 with h3 | ⟨b,off,h4,h5⟩
   ·subst h3
    obtain rfl:l2=[]:=List.length_eq_zero_iff.1 h1
    simp at hj
   ·obtain rfl:ad=⟨b,off,none⟩:=by simpa using h4
    have hjl:j<l2.length:=by
     rcases Nat.lt_or_ge j l2.length with hlt | hge
     ·exact hlt
     ·simp [List.getElem?_eq_none hge] at hj
    have:=h5 j (by omega)
    rw [Addr.add_lit,this]
    simp [hjl] at hj
    simp [←hj,hjl,bv]
  ·intro u hu
   obtain ⟨y,_,rfl⟩:=List.mem_map.1 hu
   rfl
  ·intro v' w' g1 g2 _
   exact h v' w' (by rw [List.length_append,h1,List.map_append];exact g1) g2 (hb w' g2)

end Go.Proofs.Ytnicaicjgaoolaa
namespace Go.Proofs.Ytnicaicjgaoolaa
open Go.ChangeShapes Go.WideShapes Go.ChangeAt Go.RowKit

section
variable {H:Type} {enc:TypeId×Value→H} {P:Program}

/-- the bytes of numbers -/
def bytesOf (zs:List Int):List UInt8:=zs.map fun z:Int=>UInt8.ofNat z.toNat

/-- a slice of bytes that came in, as its cell shows it -/
theorem open_bytes_cells {W:World} {t e:TypeId} {fuel:Nat} {cs:List Value} {d:DataW H} {ps:List MemPlace} (ht:P.underlying t=some (.slice e)) (he:P.underlying e=some (.int .u8)) (hc:P.cellsOf e=1) (hbu:P.bytesOf e=1)
  (h:DataW.trod enc P W 0 (fun _=>true) true fuel t cs=some (d,ps)) (hsz:(DataW.weights P t d).all (· ≤ reachBytes)=true) :
  ∃ao n c l,cs=[.slice ao n c]∧IsB W ao n c l∧n≤c∧c≤140737488351232:=by
 rcases open_ints ht he hc h with ⟨hcs,hx⟩ | ⟨ad,n,c,zs,hcs,_,hle,_,hz,hx,hcell,hwf⟩
 ·exact ⟨none,0,0,[],hcs,⟨rfl,fun _=>⟨rfl,rfl⟩,.inl rfl⟩,Nat.le_refl _,by omega⟩
 ·have hz':zs.length=c:=by simpa using hz
  refine ⟨some ad,n,c,bytesOf (zs.take n),hcs,⟨by simp [bytesOf];omega,(fun h=>by cases h),?_⟩,hle,?_⟩
  ·by_cases h0:n=0
   ·exact .inl h0
   ·right
    obtain ⟨b,off,spot⟩:=ad
    have hspot:spot=none:=by
     have:=hcell 0 (by omega)
     simpa [Addr.add] using World.cell?_spot this
    subst hspot
    refine ⟨b,off,rfl,fun i hi=>?_⟩
    have h1:=hcell i (by omega)
    rw [Addr.add_lit] at h1
    rw [h1]
    have hi':i<zs.length:=by omega
    have hw:=hwf (zs.getD i 0) (by simp [hi'])
    simp [Lit.wf,IntKind.min,IntKind.max,IntKind.signed,IntKind.bits] at hw
    have h2:(bytesOf (zs.take n)).getD i 0=UInt8.ofNat (zs.getD i 0).toNat:=by
     simp [bytesOf,hi,hi']
    rw [h2]
    congr 2
    simp [hi'] at hw ⊢
    omega
  ·obtain ⟨rfl,rfl⟩:=Prod.mk.inj hx
   simp only [DataW.weights,ht,List.all_cons,Bool.and_eq_true,hbu,lits,List.length_map,List.length_take,List.length_drop,reachBytes] at hsz
   have:=of_decide_eq_true hsz.1
   omega

/-- a slice of slices of bytes that came in -/
theorem open_bytess {W:World} {t e u:TypeId} {v:Value} {d:DataW H} {ps:List MemPlace} (ht:P.underlying t=some (.slice e)) (he:P.underlying e=some (.slice u)) (hu:P.underlying u=some (.int .u8)) (hce:P.cellsOf e=1) (hcu:P.cellsOf u=1)
  (hbe:P.bytesOf e=24) (hbu:P.bytesOf u=1) (hv:∃a n c,v = .slice a n c) (h:DataW.Trod enc P W 0 (fun _=>true) true t v d ps) (hsz:(DataW.weights P t d).all (· ≤ reachBytes)=true) :
  ∃ao n c ls,v = .slice ao n c∧IsBB W ao n ls∧n≤c∧c*24≤140737488351232:=by
 obtain ⟨a,n,c,rfl⟩:=hv
 obtain ⟨fuel,hf⟩:=h
 rcases Deep.open_slice1 ht hce hf with ⟨hcs,hx⟩ | ⟨ad,n',c',m,k,V,D,Pl,hcs,_,hle,_,hm,hx,hcell⟩
 ·simp [Value.cells] at hcs
  obtain ⟨rfl,rfl,rfl⟩:=hcs
  exact ⟨_,_,_,[],rfl,⟨rfl,.inl rfl⟩,Nat.le_refl _,by omega⟩
 ·simp [Value.cells] at hcs
  obtain ⟨rfl,rfl,rfl⟩:=hcs
  obtain rfl:m=c:=by simpa using hm
  obtain ⟨rfl,rfl⟩:=Prod.mk.inj hx
  simp only [DataW.weights,ht,List.all_cons,List.all_append,Bool.and_eq_true,List.length_map,List.length_range,hbe,reachBytes] at hsz
  obtain ⟨hs1',hs2,hs3⟩:=hsz
  have hs1:=of_decide_eq_true hs1'
  have hw:∀i,i<n→(DataW.weights P e (D i)).all (· ≤ reachBytes)=true:=by
   intro i hi
   refine List.all_eq_true.2 fun x hx=>?_
   refine List.all_eq_true.1 hs2 x ?_
   have hall:∀(l:List (DataW H)) (d:DataW H),d∈l→x∈DataW.weights P e d→x∈DataW.weightsAll P e l:=by
    intro l
    induction l with
    | nil=>intro d hd;cases hd
    | cons y l ih =>
     intro d hd hxd
     simp only [DataW.weightsAll,List.mem_append]
     rcases List.mem_cons.1 hd with rfl | hd
     ·exact .inl hxd
     ·exact .inr (ih d hd hxd)
   exact hall _ (D i) (List.mem_map.2 ⟨i,List.mem_range.2 hi,rfl⟩) hx
  have hex:∀i,i<n→∃l:List UInt8,∃a m c,W.cell? (ad.add i)=some (.slice a m c)∧IsB W a m c l∧m≤140737488351232:=by
   intro i hi
   obtain ⟨h1,h2⟩:=hcell i (by omega)
   obtain ⟨ao,q,c,l,h3,h4,h5,h6⟩:=open_bytes_cells he hu hcu hbu h2 (hw i hi)
   have h3':V i = .slice ao q c:=by simpa using h3
   exact ⟨l,ao,q,c,by rw [h1,h3'],h4,by omega⟩
  obtain ⟨L,hL⟩:=Deep.choose_lt hex
  refine ⟨some ad,n,m,(List.range n).map L,rfl,⟨by simp,?_⟩,hle,by omega⟩
  by_cases h0:n=0
  ·exact .inl h0
  ·right
   obtain ⟨b,off,spot⟩:=ad
   have hspot:spot=none:=by
    obtain ⟨_,_,_,h1,_⟩:=hL 0 (by omega)
    simpa [Addr.add] using World.cell?_spot h1
   subst hspot
   refine ⟨b,off,rfl,fun i hi=>?_⟩
   obtain ⟨a,q,c,h1,h2,h3⟩:=hL i hi
   rw [Addr.add_lit] at h1
   exact ⟨a,q,c,h1,by simpa [hi] using h2,h3⟩
end

end Go.Proofs.Ytnicaicjgaoolaa
namespace Go.Proofs.Ytnicaicjgaoolaa
open Go.RowKit

/-- a number as a cell -/
def iv (x:Int):Value:=.int .i64 x

/-- a slice of numbers that reads as l -/
structure IsI (w:World) (ao:Option Addr) (n c:Nat) (l:List Int):Prop where
 len:l.length=n
 nil:ao=none→n=0∧c=0
 at_:n=0∨∃b off,ao=some ⟨b,off,none⟩∧∀i,i<n→w.cell? ⟨b,off+i,none⟩=some (.int .i64 (l.getD i 0))

/-- new numbers, laid out as a block -/
theorem isI_new (w:World) (l:List Int) (vs:Array Value) (hv:vs=(l.map iv).toArray) (t:TypeId) (fr:Nat×Nat) (H:Nat) (hH:H=w.heap.size) (n:Nat) (hn:l.length=n) (c:Nat) :
  IsI (w.alloc (.cells vs t fr)) (some ⟨H,0,none⟩) n c l:=by
 subst hH hv hn
 refine ⟨rfl,(fun h=>by cases h),.inr ⟨_,_,rfl,fun i hi=>?_⟩⟩
 rw [World.cell?_alloc_mark]
 simp [hi,iv]

/-- what the call owns reads as a slice of numbers -/
theorem isI_own {w:World} {base:Nat} {e:TypeId} {v:Value} {n:Nat} {l:List Int} (h:w.ownsRow base e 1 v n (l.map iv)) :
  ∃ao c,v = .slice ao n c∧IsI w ao n c l:=by
 obtain ⟨h1,h2⟩:=h
 have hl:l.length=n:=by simpa using h1
 rcases h2 with ⟨rfl,rfl⟩ | ⟨g,cap,cur,rfl,hg,hh,hn,hm,hs,ht⟩
 ·exact ⟨none,0,rfl,hl,fun _=>⟨rfl,rfl⟩,.inl rfl⟩
 ·refine ⟨_,cap,rfl,hl,(fun h=>by cases h),.inr ⟨g,0,rfl,fun i hi=>?_⟩⟩
  have:cur.toList[i]? = some (iv (l.getD i 0)):=by
   have h3:(cur.toList.take (n*1))[i]? = (l.map iv)[i]? := by rw [ht]
   rw [List.getElem?_take,if_pos (by omega)] at h3
   rw [h3]
   have:i<l.length:=by omega
   simp [this]
  simp only [World.cell?,hh,Nat.zero_add]
  simpa [iv] using this

/-- a slice value that the call made itself (its block lies from base on) and that reads as l -/
def OwnI (w:World) (base:Nat) (e:TypeId) (v:Value) (l:List Int):Prop:=w.ownsRow base e 1 v l.length (l.map iv)

theorem OwnI.nil (w:World) (base:Nat) (e:TypeId):OwnI w base e (.slice none 0 0) []:=World.ownsRow_nil _ _ _ _
theorem OwnI.alloc {w:World} {base:Nat} {e:TypeId} {v:Value} {l:List Int} (h:OwnI w base e v l) (o:Obj):OwnI (w.alloc o) base e v l:=World.ownsRow.alloc h o
theorem OwnI.isI {w:World} {base:Nat} {e:TypeId} {v:Value} {l:List Int} (h:OwnI w base e v l):∃ao c,v = .slice ao l.length c∧IsI w ao l.length c l:=isI_own h
theorem OwnI.lt {w:World} {base:Nat} {e:TypeId} {v:Value} {l:List Int} (h:OwnI w base e v l):∀k,v.ownBlock=some k→base≤k∧k<w.heap.size:=World.ownsRow.lt h
/-- it stays so where nothing below a number that is beyond its block has turned -/
theorem OwnI.below {w w':World} {base:Nat} {e:TypeId} {v:Value} {l:List Int} (h:OwnI w base e v l) (hb:Below w.heap.size w w'):OwnI w' base e v l:=by
 refine ⟨h.1,?_⟩
 rcases h.2 with h2 | ⟨g,cap,cur,hv,hg,hh,r⟩
 ·exact .inl h2
 ·exact .inr ⟨g,cap,cur,hv,hg,by rw [hb.block g (Array.getElem?_eq_some_iff.1 hh).1];exact hh,r⟩
theorem OwnI.mono {w:World} {base base':Nat} {e:TypeId} {v:Value} {l:List Int} (h:OwnI w base e v l) (hb:base'≤base):OwnI w base' e v l:=by
 refine ⟨h.1,?_⟩
 rcases h.2 with h2 | ⟨g,cap,cur,hv,hg,hh,r⟩
 ·exact .inl h2
 ·exact .inr ⟨g,cap,cur,hv,Nat.le_trans hb hg,hh,r⟩
/-- a new, empty block of numbers -/
theorem OwnI.new (w:World) (base:Nat) (e:TypeId) (l:List Int) (vs:Array Value) (hv:vs=(l.map iv).toArray) (H:Nat) (hH:H=w.heap.size) (hb:base≤w.heap.size) (n:Nat) (hn:l.length=n) (hm:n≤140737488355328) :
  OwnI (w.alloc (.cells vs e)) base e (.slice (some ⟨H,0,none⟩) n n) l:=by
 subst hH hv hn
 refine ⟨by simp,.inr ⟨w.heap.size,l.length,_,rfl,hb,heap_alloc_new w _,Nat.le_refl _,by unfold maxLen;omega,by simp,?_⟩⟩
 simp [List.take_of_length_le]

/-- APPEND, whatever is appended that reads as numbers: nil, empty or not -/
theorem wpList_append_ints {P:Program} {w:World} {ops:Array Oper} {rest:List Oper} {o:Oper} {a:Act} {Q:Exit→Act→World→Prop} (hgd:o.guard=none) (s x:Operand) (t:TypeId)
  (ho:o.op = .call { callee:=.builtin .append,args:=#[s,x],argTypes:=#[t,t]})
  (base:Nat) (e:TypeId) (ht:P.underlying t=some (.slice e)) (hi:(P.info? e).map (fun i=>(i.zero,i.size,i.bytes))=some (some (.int .i64 0),1,8))
  (v:Value) (l:List Int) (hs:a.eval s=v) (hown:OwnI w base e v l)
  (ao:Option Addr) (m c:Nat) (l2:List Int) (hx:a.eval x = .slice ao m c) (hsrc:IsI w ao m c l2)
  (hbytes:l.length+m≤17592186044416) (hbase:base≤w.heap.size)
  (h:∀v' w',OwnI w' base e v' (l++l2)→w.grownBy w' v.ownBlock→Below base w w'→wpList P ops Q rest (a.put o.dst v') w'):wpList P ops Q (o::rest) a w:=by
 obtain ⟨i0,hi0,hz0,hz1,hz2⟩:=info_parts hi
 obtain ⟨h1,h2,h3⟩:=hsrc
 have hb:∀w',w.grownBy w' v.ownBlock→Below base w w':=fun w' hg=>(Below.refl base w).grown hg hbase (fun k hk=>(hown.lt k hk).1)
 unfold OwnI at hown h
 cases ao with
 | none =>
  obtain ⟨rfl,rfl⟩:=h2 rfl
  obtain rfl:l2=[]:=List.length_eq_zero_iff.1 h1
  exact wpList_append_own_none hgd s x t ho base e i0 1 ht hi0 v _ _ hs hown hx (h v w (by simpa using hown) (World.grownBy.refl _ _) (Below.refl _ _))
 | some ad =>
  refine wpList_append_own w hgd s x t ho base e i0 (.int .i64 0) 1 8 ht hi0 hz0 hz1 hz2 rfl (by decide) v _ _ hs hown ad m c (l2.map iv) hx (by simpa using h1) ?_ ?_ (by unfold maxLen;omega) (by omega) hbase ?_
  ·intro j u hj
   rcases h3 with h3 | ⟨b,off,h4,h5⟩
   ·subst h3
    obtain rfl:l2=[]:=List.length_eq_zero_iff.1 h1
    simp at hj
   ·obtain rfl:ad=⟨b,off,none⟩:=by simpa using h4
    have hjl:j<l2.length:=by
     rcases Nat.lt_or_ge j l2.length with hlt | hge
     ·exact hlt
     ·simp [List.getElem?_eq_none hge] at hj
    have:=h5 j (by omega)
    rw [Addr.add_lit,this]
    simp [hjl] at hj
    simp [←hj,hjl,iv]
  ·intro u hu
   obtain ⟨y,_,rfl⟩:=List.mem_map.1 hu
   rfl
  ·intro v' w' g1 g2 _
   exact h v' w' (by rw [List.length_append,h1,List.map_append];exact g1) g2 (hb w' g2)

end Go.Proofs.Ytnicaicjgaoolaa
namespace Go.Proofs.Ytnicaicjgaoolaa
open Go.ChangeShapes Go.WideShapes Go.ChangeAt Go.RowKit

section
variable {H:Type} {enc:TypeId×Value→H} {P:Program}

/-- a slice of numbers that came in, as its cell shows it -/
theorem open_nums_cells {W:World} {t e:TypeId} {fuel:Nat} {cs:List Value} {d:DataW H} {ps:List MemPlace} (ht:P.underlying t=some (.slice e)) (he:P.underlying e=some (.int .i64)) (hc:P.cellsOf e=1) (hbu:P.bytesOf e=8)
  (h:DataW.trod enc P W 0 (fun _=>true) true fuel t cs=some (d,ps)) (hsz:(DataW.weights P t d).all (· ≤ reachBytes)=true) :
  ∃ao n c l,cs=[.slice ao n c]∧IsI W ao n c l∧n≤c∧c*8≤140737488351232∧∀z∈l, -9223372036854775808≤z∧z≤9223372036854775807:=by
 rcases open_ints ht he hc h with ⟨hcs,hx⟩ | ⟨ad,n,c,zs,hcs,_,hle,_,hz,hx,hcell,hwf⟩
 ·exact ⟨none,0,0,[],hcs,⟨rfl,fun _=>⟨rfl,rfl⟩,.inl rfl⟩,Nat.le_refl _,by omega,fun z hz=>by cases hz⟩
 ·have hz':zs.length=c:=by simpa using hz
  refine ⟨some ad,n,c,zs.take n,hcs,⟨by simp;omega,(fun h=>by cases h),?_⟩,hle,?_,?_⟩
  ·by_cases h0:n=0
   ·exact .inl h0
   ·right
    obtain ⟨b,off,spot⟩:=ad
    have hspot:spot=none:=by
     have:=hcell 0 (by omega)
     simpa [Addr.add] using World.cell?_spot this
    subst hspot
    refine ⟨b,off,rfl,fun i hi=>?_⟩
    have h1:=hcell i (by omega)
    rw [Addr.add_lit] at h1
    rw [h1]
    have hi':i<zs.length:=by omega
    simp [hi,hi']
  ·obtain ⟨rfl,rfl⟩:=Prod.mk.inj hx
   simp only [DataW.weights,ht,List.all_cons,Bool.and_eq_true,hbu,lits,List.length_map,List.length_take,List.length_drop,reachBytes] at hsz
   have:=of_decide_eq_true hsz.1
   omega
  ·intro z hz
   have:=hwf z (List.mem_of_mem_take hz)
   simp [Lit.wf,IntKind.min,IntKind.max,IntKind.signed,IntKind.bits] at this
   omega

/-- a slice of numbers that came in -/
theorem open_nums {W:World} {t e:TypeId} {v:Value} {d:DataW H} {ps:List MemPlace} (ht:P.underlying t=some (.slice e)) (he:P.underlying e=some (.int .i64)) (hc:P.cellsOf e=1) (hbu:P.bytesOf e=8)
  (hv:∃a n c,v = .slice a n c) (h:DataW.Trod enc P W 0 (fun _=>true) true t v d ps) (hsz:(DataW.weights P t d).all (· ≤ reachBytes)=true) :
  ∃ao n c l,v = .slice ao n c∧IsI W ao n c l∧n≤c∧c*8≤140737488351232∧∀z∈l, -9223372036854775808≤z∧z≤9223372036854775807:=by
 obtain ⟨a,n,c,rfl⟩:=hv
 obtain ⟨fuel,hf⟩:=h
 obtain ⟨ao,n',c',l,h1,h2⟩:=open_nums_cells ht he hc hbu hf hsz
 simp [Value.cells] at h1
 obtain ⟨rfl,rfl,rfl⟩:=h1
 exact ⟨_,_,_,_,rfl,h2⟩
end

end Go.Proofs.Ytnicaicjgaoolaa
namespace Go.Proofs.Ytnicaicjgaoolaa
open Go.RowKit

/-- outside the blocks of S, and new ones, the world w' is as w was -/
structure Only (S:List Nat) (w w':World):Prop where
 os:w'.os=w.os
 tape:w'.tape=w.tape
 output:w'.output=w.output
 size:w.heap.size≤w'.heap.size
 block:∀k,k<w.heap.size→k∉S→w'.heap[k]? = w.heap[k]?

theorem Only.refl (S:List Nat) (w:World):Only S w w:=⟨rfl,rfl,rfl,Nat.le_refl _,fun _ _ _=>rfl⟩
theorem Only.trans {S:List Nat} {a b c:World} (h:Only S a b) (k:Only S b c):Only S a c :=
 ⟨k.os.trans h.os,k.tape.trans h.tape,k.output.trans h.output,Nat.le_trans h.size k.size,fun i hi hs=>(k.block i (Nat.lt_of_lt_of_le hi h.size) hs).trans (h.block i hi hs)⟩
theorem Only.mono {S T:List Nat} {w w':World} (h:Only S w w') (hst:∀k∈S,k∈T):Only T w w' :=
 ⟨h.os,h.tape,h.output,h.size,fun k hk ht=>h.block k hk fun hs=>ht (hst k hs)⟩
/-- what is beyond the world's end may be let go of -/
theorem Only.cut {S T:List Nat} {w w':World} (h:Only S w w') (hst:∀k∈S,k<w.heap.size→k∈T):Only T w w' :=
 ⟨h.os,h.tape,h.output,h.size,fun k hk ht=>h.block k hk fun hs=>ht (hst k hs hk)⟩
theorem Only.drew {S:List Nat} {a w:World} (h:Only S a w):Only S a w.drew:=⟨h.os,h.tape,h.output,h.size,h.block⟩
theorem Only.drewN {S:List Nat} {a w:World} (h:Only S a w) (n:Nat):Only S a (w.drewN n):=h.trans ⟨rfl,rfl,rfl,Nat.le_refl _,fun _ _ _=>rfl⟩
theorem Only.alloc {S:List Nat} {a w:World} (h:Only S a w) (o:Obj):Only S a (w.alloc o) :=
 h.trans ⟨rfl,rfl,rfl,by simp,fun k hk _=>Below.heap_alloc _ _ _ hk⟩
theorem Only.setCell {S:List Nat} {a w:World} (h:Only S a w) {p:Addr} (hp:p.block∈S) (u:Value):Only S a (w.setCell p u) :=
 h.trans ⟨rfl,rfl,rfl,by simp [World.setCell],fun k _ hk=>Below.heap_setCell _ _ _ _ (fun e=>hk (e ▸ hp))⟩
theorem Only.ofBelow {w w':World} (h:Below w.heap.size w w') (S:List Nat):Only S w w':=⟨h.os,h.tape,h.output,h.size,fun k hk _=>h.block k hk⟩
theorem Only.below {S:List Nat} {w w':World} (h:Only S w w') {B:Nat} (hB:B≤w.heap.size) (hs:∀k∈S,B≤k):Below B w w' :=
 ⟨h.os,h.tape,h.output,h.size,fun k hk=>h.block k (Nat.lt_of_lt_of_le hk hB) fun hm=>by have:=hs k hm;omega⟩
/-- a block that is there and is none of S -/
theorem Only.keeps {S:List Nat} {w w':World} (h:Only S w w') {k:Nat} {o:Obj} (hk:w.heap[k]? = some o) (hn:k∉S):w'.heap[k]? = some o:=by
 rw [h.block k (Array.getElem?_eq_some_iff.1 hk).1 hn];exact hk
theorem Only.cell {S:List Nat} {w w':World} (h:Only S w w') {p:Addr} {v:Value} (hc:w.cell? p=some v) (hn:p.block∉S):w'.cell? p=some v :=
 (World.cell?_of_block (w:=w) (h.block p.block (World.block_lt_of_cell? w p hc) hn)).trans hc

theorem lt_of_heap {w:World} {k:Nat} {o:Obj} (hk:w.heap[k]? = some o):k<w.heap.size:=(Array.getElem?_eq_some_iff.1 hk).1
theorem cell_heap {w:World} {k:Nat} {c:Array Value} {t:TypeId} {fr:Nat×Nat} (h:w.heap[k]? = some (.cells c t fr)) (i:Nat):w.cell? ⟨k,i,none⟩=c[i]? := by
 simp [World.cell?,h]
theorem free_heap {w:World} {k:Nat} {c:Array Value} {t:TypeId} (h:w.heap[k]? = some (.cells c t (0,0))) (i:Nat):w.frozen? ⟨k,i,none⟩=false:=by
 simp [World.frozen?,h]
theorem heap_set {w:World} {k:Nat} {c:Array Value} {t:TypeId} (h:w.heap[k]? = some (.cells c t (0,0))) (i:Nat) (u:Value) :
 (w.setCell ⟨k,i,none⟩ u).heap[k]? = some (.cells (c.setIfInBounds i u) t (0,0)):=heap_setCell_same w k i c t u h
theorem heap_new (w:World) (o:Obj):(w.alloc o).heap[w.heap.size]? = some o:=heap_alloc_new w o
theorem heap_old {w:World} {k:Nat} {o:Obj} (h:w.heap[k]? = some o) (o':Obj):(w.alloc o').heap[k]? = some o:=(Only.refl [] w).alloc o' |>.keeps h (by simp)

end Go.Proofs.Ytnicaicjgaoolaa
namespace Go.Proofs.Ytnicaicjgaoolaa
open Go.RowKit
end Go.Proofs.Ytnicaicjgaoolaa
namespace Go.Proofs.Ytnicaicjgaoolaa
open Go.RowKit
theorem wp_two {P:Program} {o:Oper} {a:Act} {w:World} {K:Act→World→Prop} {Q Q':Exit→Act→World→Prop} (h:o.wp P a w K Q) (hq:∀c a w,Q (.panic c) a w→Q' (.panic c) a w) (ho:LetsOut Q→LetsOut Q'):o.wp P a w K Q':=by
 unfold Oper.wp at *
 generalize (execOp a.eval o).run P w=r at *
 unfold Oper.upon at *
 split at h
 ·exact h
 ·exact h
 ·exact h
 ·refine h.mono ?_
  intro e w' he
  cases e with
  | returned v=>exact he
  | panicked c=>exact hq _ _ _ he
  | outgrown=>exact ho he
 ·exact h
 ·exact hq _ _ _ h
 ·exact h.elim
theorem step_of_list {P:Program} {w:World} {ops:Array Oper} {o:Oper} {a:Act} {K:Act→World→Prop} {Q:Exit→Act→World→Prop} {E:Prop} (hgd:o.guard=none)
  (h:∀Q':Exit→Act→World→Prop,(∀a' w',K a' w'→Q' .normal a' w')→wpList P ops Q' [o] a w) :
  if Region.wanted o (yielded ops a.tmps)=true then Oper.wp P o a w K Q else E:=by
 rw [if_pos (by simp [Region.wanted,hgd])]
 have hh:=h (fun e a' w'=>match e with | .normal=>K a' w' | _=>False) (fun _ _ k=>k)
 unfold wpList at hh
 rw [if_pos (by simp [Region.wanted,hgd])] at hh
 rcases hh with hh | ⟨_,a',w',hh⟩
 ·exact wp_two (Oper.wp_mono (fun a w k=>k) hh) (fun c a w hq=>hq.elim) (fun ⟨a',w',h2⟩=>h2.elim)
 ·exact hh.elim
end Go.Proofs.Ytnicaicjgaoolaa
namespace Go.Proofs.Ytnicaicjgaoolaa
open Go.RowKit Go.ChangeMaps Go.WideMaps Go.Maps
section
variable {P:Program} {w:World} {r bm since last clock:Nat} {ty:TypeId}
theorem next_no {seen:Array Nat} (hr:w.heap[r]? = some (.mapIter (some bm) since seen last)) (hb:w.heap[bm]? = some (.map #[] clock)) :
  (Instr.next (.pointer (some ⟨r,0,none⟩)) false ty).run P w = .ok (.tuple #[.bool false]) w:=by
 simp [Instr.next,getObj,Sem.run_bind,Sem.run,hr,hb,Result.andThen,choose,Question.forced]
theorem next_one {e:MapEntry} (hr:w.heap[r]? = some (.mapIter (some bm) since #[] last)) (hb:w.heap[bm]? = some (.map #[e] clock)) (he:e.born<since) :
  (Instr.next (.pointer (some ⟨r,0,none⟩)) false ty).run P w = .ok (.tuple #[.bool true,e.key,e.val]) (setBlock w r (.mapIter (some bm) since #[e.born] clock)):=by
 have h1:¬since≤e.born:=by omega
 have h2:(#[e].filter (fun x=>decide (x.born<since)))=#[e]:=by simp [he]
 simp [Instr.next,getObj,setObj,Sem.run_bind,Sem.run,hr,hb,Result.andThen,choose,Question.forced,he,h1,setBlock]
theorem next_end {e:MapEntry} (hr:w.heap[r]? = some (.mapIter (some bm) since #[e.born] last)) (hb:w.heap[bm]? = some (.map #[e] clock)) (he:e.born<last) :
  (Instr.next (.pointer (some ⟨r,0,none⟩)) false ty).run P w = .ok (.tuple #[.bool false]) w:=by
 have h1:¬last≤e.born:=by omega
 simp [Instr.next,getObj,Sem.run_bind,Sem.run,hr,hb,Result.andThen,choose,Question.forced,h1]
theorem entry_one {e:MapEntry} (hr:w.heap[r]? = some (.mapIter (some bm) since #[e.born] clock)) (hb:w.heap[bm]? = some (.map #[e] clock)) :
  (Instr.entry (.pointer (some ⟨r,0,none⟩))).run P w = .ok (.tuple #[e.key,e.val]) w:=by
 simp [Instr.entry,getObj,Sem.run_bind,Sem.run,hr,hb,Result.andThen]
end
end Go.Proofs.Ytnicaicjgaoolaa
namespace Go.Proofs.Ytnicaicjgaoolaa
open Go.RowKit

end Go.Proofs.Ytnicaicjgaoolaa
namespace Go.Proofs.Ytnicaicjgaoolaa.Crc

/-- one turn of the register -/
def stp (c:BitVec 32):BitVec 32:=(c >>> 1) ^^^ (0xEDB88320#32 &&& (0#32 - (c &&& 1#32)))
/-- n turns -/
def turns:Nat→BitVec 32→BitVec 32
 | 0,c=>c
 | n+1,c=>turns n (stp c)
def emb (x:UInt8):BitVec 32:=BitVec.ofNat 32 x.toNat
def byt (c:BitVec 32) (x:UInt8):BitVec 32:=turns 8 (c ^^^ emb x)
def go (c:BitVec 32) (l:List UInt8):BitVec 32:=l.foldl byt c
/-- the register at the beginning -/
def ini:BitVec 32 := ~~~ 0#32
def crc (l:List UInt8):BitVec 32 := ~~~ (go ini l)

theorem turns_succ (n:Nat) (c:BitVec 32):turns (n+1) c=stp (turns n c):=by
 induction n generalizing c with
 | zero=>rfl
 | succ n ih=>show turns (n+1) (stp c)=_;rw [ih];rfl

theorem go_append (c:BitVec 32) (l m:List UInt8):go c (l++m)=go (go c l) m:=by simp [go]
theorem go_cons (c:BitVec 32) (x:UInt8) (l:List UInt8):go c (x::l)=go (byt c x) l:=rfl
theorem go_nil (c:BitVec 32):go c []=c:=rfl

theorem stp_if (c:BitVec 32):stp c=(c >>> 1) ^^^ (if c.getLsbD 0 then 0xEDB88320#32 else 0#32):=by
 unfold stp
 have h1:c &&& 1#32=if c.getLsbD 0 then 1#32 else 0#32:=by
  ext i hi
  by_cases h:i=0
  ·subst h;cases hc:c.getLsbD 0<;>simp_all [BitVec.getLsbD_eq_getElem]
  ·cases hc:c.getLsbD 0<;>simp [h,BitVec.getElem_one]
 rw [h1]
 split
 ·exact congrArg (c >>> 1 ^^^ ·) (by decide)
 ·exact congrArg (c >>> 1 ^^^ ·) (by decide)

theorem stp_xor (a b:BitVec 32):stp (a ^^^ b)=stp a ^^^ stp b:=by
 rw [stp_if,stp_if,stp_if,BitVec.ushiftRight_xor_distrib,BitVec.getLsbD_xor]
 cases a.getLsbD 0<;>cases b.getLsbD 0<;>simp
 ·ac_rfl
 ·ac_rfl
 ·rw [show a >>> 1 ^^^ 3988292384#32 ^^^ (b >>> 1 ^^^ 3988292384#32)=(a >>> 1 ^^^ b >>> 1) ^^^ (3988292384#32 ^^^ 3988292384#32) from by ac_rfl,BitVec.xor_self,BitVec.xor_zero]

theorem turns_xor (n:Nat) (a b:BitVec 32):turns n (a ^^^ b)=turns n a ^^^ turns n b:=by
 induction n generalizing a b with
 | zero=>rfl
 | succ n ih=>show turns n (stp (a ^^^ b))=turns n (stp a) ^^^ turns n (stp b);rw [stp_xor,ih]

/-- no turn takes what is not nought to nought -/
theorem stp_ne (c:BitVec 32) (h:stp c=0#32):c=0#32:=by
 rw [stp_if] at h
 by_cases h0:c.getLsbD 0
 ·exfalso
  have h31:=congrArg (fun x:BitVec 32=>x.getLsbD 31) h
  rw [if_pos h0] at h31
  simp at h31
 ·rw [if_neg h0,BitVec.xor_zero] at h
  apply BitVec.eq_of_getLsbD_eq
  intro i hi
  cases i with
  | zero=>simpa using h0
  | succ i =>
   have:=congrArg (fun x:BitVec 32=>x.getLsbD i) h
   simp only [BitVec.getLsbD_ushiftRight] at this
   rw [Nat.add_comm]
   simpa using this

theorem turns_ne (n:Nat) (c:BitVec 32) (h:turns n c=0#32):c=0#32:=by
 induction n generalizing c with
 | zero=>exact h
 | succ n ih=>exact stp_ne c (ih _ h)

theorem turns_inj (n:Nat) (a b:BitVec 32) (h:turns n a=turns n b):a=b:=by
 have:turns n (a ^^^ b)=0#32:=by rw [turns_xor,h,BitVec.xor_self]
 exact BitVec.xor_eq_zero_iff.1 (turns_ne n _ this)

theorem not_eq (a:BitVec 32) : ~~~ a=a ^^^ ini:=by unfold ini;rw [show (~~~ 0#32)=BitVec.allOnes 32 from by decide,BitVec.xor_allOnes]

/-- a turn undoes a shift -/
theorem stp_shl (z:BitVec 32) (h:z.toNat<2 ^ 31):stp (z <<< 1)=z:=by
 rw [stp_if,if_neg (by simp),BitVec.xor_zero]
 apply BitVec.eq_of_toNat_eq
 simp [Nat.shiftLeft_eq,Nat.shiftRight_eq_div_pow]
 omega

theorem turns_shl (n:Nat) (z:BitVec 32) (h:z.toNat<2 ^ (32 - n)) (hn:n≤32):turns n (z <<< n)=z:=by
 induction n generalizing z with
 | zero=>simp [turns]
 | succ n ih =>
  have h2:z.toNat*2<2 ^ (32 - n):=by
   have:2 ^ (32 - n)=2 ^ (32 - (n+1))*2:=by rw [←Nat.pow_succ];congr 1;omega
   omega
  have h3:z.toNat*2<2 ^ 32:=Nat.lt_of_lt_of_le h2 (Nat.pow_le_pow_right (by decide) (by omega))
  have hz:(z <<< 1).toNat=z.toNat*2:=by
   rw [BitVec.toNat_shiftLeft,Nat.shiftLeft_eq]
   omega
  have e:z <<< (n+1)=(z <<< 1) <<< n:=by rw [Nat.add_comm,BitVec.shiftLeft_add]
  rw [turns_succ,e,ih (z <<< 1) (by rw [hz];exact h2) (by omega),stp_shl z (by omega)]

theorem turns_pre (y z:BitVec 32) (h:turns 8 y=z) (hz:z.toNat<2 ^ 24):y=z <<< 8 :=
 turns_inj 8 _ _ (h.trans (turns_shl 8 z hz (by decide)).symm)

theorem emb_lt (x:UInt8):(emb x).toNat<256:=by
 have:=x.toNat_lt
 simp [emb]
 omega

theorem emb_zero (x:UInt8) (h:emb x=0#32):x=0:=by
 have h':=congrArg BitVec.toNat h
 have:=x.toNat_lt
 simp [emb] at h'
 apply UInt8.toNat_inj.1
 show x.toNat=0
 omega

/-- four bytes, from nought, come to nought only if they are nought -/
theorem four (x0 x1 x2 x3:UInt8) (h:go 0#32 [x0,x1,x2,x3]=0#32):x0=0∧x1=0∧x2=0∧x3=0:=by
 simp only [go_cons,go_nil] at h
 generalize hs1:byt 0#32 x0=s1 at h
 generalize hs2:byt s1 x1=s2 at h
 generalize hs3:byt s2 x2=s3 at h
 have e3:s3=emb x3:=BitVec.xor_eq_zero_iff.1 (turns_ne 8 _ h)
 have l3:=emb_lt x3
 have l2:=emb_lt x2
 have l1:=emb_lt x1
 have l0:=emb_lt x0
 have xorlt:∀(n:Nat) (a b:BitVec 32),a.toNat<2 ^ n→b.toNat<2 ^ n→(a ^^^ b).toNat<2 ^ n:=by
  intro n a b ha hb;rw [BitVec.toNat_xor];exact Nat.xor_lt_two_pow ha hb
 have shl:∀(n:Nat) (a:BitVec 32),a.toNat<2 ^ n→(a <<< 8).toNat<2 ^ (n+8):=by
  intro n a ha
  rw [BitVec.toNat_shiftLeft,Nat.shiftLeft_eq]
  exact Nat.lt_of_le_of_lt (Nat.mod_le _ _) (by rw [Nat.pow_add];omega)
 have p2:s2 ^^^ emb x2=s3 <<< 8:=turns_pre _ _ hs3 (by rw [e3];omega)
 have e2:s2=s3 <<< 8 ^^^ emb x2:=by rw [←p2,BitVec.xor_assoc,BitVec.xor_self,BitVec.xor_zero]
 have b2:s2.toNat<2 ^ 16:=by rw [e2];exact xorlt 16 _ _ (shl 8 _ (by rw [e3];exact l3)) (by omega)
 have p1:s1 ^^^ emb x1=s2 <<< 8:=turns_pre _ _ hs2 (by omega)
 have e1:s1=s2 <<< 8 ^^^ emb x1:=by rw [←p1,BitVec.xor_assoc,BitVec.xor_self,BitVec.xor_zero]
 have b1:s1.toNat<2 ^ 24:=by rw [e1];exact xorlt 24 _ _ (shl 16 _ b2) (by omega)
 have p0:0#32 ^^^ emb x0=s1 <<< 8:=turns_pre _ _ hs1 b1
 rw [BitVec.zero_xor] at p0
 have low:∀(a:BitVec 32) (y:UInt8),a <<< 8=emb y→a.toNat<2 ^ 24→y=0∧a=0#32:=by
  intro a y hy ha
  have h1:=congrArg BitVec.toNat hy
  have h2:=emb_lt y
  rw [BitVec.toNat_shiftLeft,Nat.shiftLeft_eq] at h1
  have h3:a.toNat*2 ^ 8 % 2 ^ 32=a.toNat*2 ^ 8:=Nat.mod_eq_of_lt (by omega)
  rw [h3] at h1
  have h4:a.toNat=0:=by omega
  have h5:a=0#32:=BitVec.eq_of_toNat_eq h4
  subst h5
  exact ⟨emb_zero y (by rw [←hy];rfl),rfl⟩
 obtain ⟨z0,z1⟩:=low s1 x0 p0.symm b1
 rw [z1] at e1
 obtain ⟨y1,z2⟩:=low s2 x1 (BitVec.xor_eq_zero_iff.1 e1.symm) (by omega)
 rw [z2] at e2
 obtain ⟨y2,z3⟩:=low s3 x2 (BitVec.xor_eq_zero_iff.1 e2.symm) (by rw [e3];omega)
 exact ⟨z0,y1,y2,emb_zero x3 (by rw [←e3,z3])⟩

theorem set_same (l:List UInt8) (k:Nat) (x:UInt8) (h:k<l.length) (hx:l.getD k 0=x):l.set k x=l:=by
 apply List.ext_getElem?
 intro i
 rw [List.getElem?_set]
 by_cases h1:k=i
 ·subst h1
  simp [h] at hx ⊢
  exact hx.symm
 ·simp [h1]

/-- what a loop has filled in after k rounds -/
def part (T:List UInt8) (k:Nat):List UInt8:=T.take k++List.replicate (T.length - k) 0
end Go.Proofs.Ytnicaicjgaoolaa.Crc
namespace Go.Proofs.Ytnicaicjgaoolaa.F
open Go.Proofs.Ytnicaicjgaoolaa
open Go.RowKit

theorem bits_xor32 (a b:BitVec 32):bits .xor .u32 (a.toNat:Int) (b.toNat:Int)=((a ^^^ b).toNat:Int):=by
 rw [u32_xor_nat _ _ a.isLt b.isLt,BitVec.toNat_xor]
theorem bits_and32 (a b:BitVec 32):bits .and .u32 (a.toNat:Int) (b.toNat:Int)=((a &&& b).toNat:Int):=by
 rw [u32_and_nat _ _ a.isLt b.isLt,BitVec.toNat_and]
theorem stp_walk (c:BitVec 32):bits .xor .u32 ((c.toNat:Int) / 2) (bits .and .u32 3988292384 (-bits .and .u32 (c.toNat:Int) 1 % 4294967296))=((Crc.stp c).toNat:Int):=by
 have h1:=bits_and32 c 1#32
 have h2:((1#32).toNat:Int)=1:=rfl
 rw [h2] at h1
 have h3 : -((c &&& 1#32).toNat:Int) % 4294967296=((0#32 - (c &&& 1#32)).toNat:Int):=by
  have:=(c &&& 1#32).isLt
  rw [BitVec.toNat_sub]
  simp only [BitVec.toNat_ofNat]
  omega
 have h4:=bits_and32 3988292384#32 (0#32 - (c &&& 1#32))
 have h5:((3988292384#32).toNat:Int)=3988292384:=rfl
 rw [h5] at h4
 have h6:(c.toNat:Int) / (2:Int)=((c >>> 1).toNat:Int):=by
  rw [BitVec.toNat_ushiftRight,Nat.shiftRight_eq_div_pow];omega
 rw [h1,h3,h4,h6,bits_xor32]
 rfl
theorem byt_walk (c:BitVec 32) (x:UInt8):bits .xor .u32 (c.toNat:Int) ((x.toNat:Int) % 4294967296)=((c ^^^ Crc.emb x).toNat:Int):=by
 have hx:=x.toNat_lt
 have:(x.toNat:Int) % 4294967296=((Crc.emb x).toNat:Int):=by
  unfold Crc.emb
  rw [BitVec.toNat_ofNat];omega
 rw [this,bits_xor32]
theorem not_walk (c:BitVec 32):bits .xor .u32 IntKind.u32.max (c.toNat:Int)=((~~~ c).toNat:Int):=by
 have h:=bits_xor32 (~~~ 0#32) c
 have h5:(((~~~ 0#32:BitVec 32)).toNat:Int)=IntKind.u32.max:=by decide
 rw [h5] at h
 rw [h,Crc.not_eq c,BitVec.xor_comm];rfl

theorem take_flat (ls:List (List UInt8)) (k:Nat) (h:k<ls.length):(ls.take (k+1)).flatten=(ls.take k).flatten++ls.getD k []:=by
 rw [List.take_succ_eq_append_getElem h,List.flatten_append]
 simp [h]
theorem take_one (l:List UInt8) (k:Nat) (h:k<l.length):l.take (k+1)=l.take k++[l.getD k 0]:=by
 rw [List.take_succ_eq_append_getElem h]
 simp [h]
theorem u32_eq {a b:Int} (h:a=b):Value.int .u32 a=Value.int .u32 b:=by rw [h]
theorem ret_u32 {a b:Int} (h:a=b):Ending.returned (Value.int .u32 a) = .returned (Value.int .u32 b):=by rw [h]

set_option maxHeartbeats 400000 in
theorem of_some (len:Nat) (ls:List (List UInt8)) (b off cap:Nat) (w:World) (hlen:ls.length=len) (hm:len≤140737488351232)
  (hc:∀i,i<len→∃a n c,w.cell? ⟨b,off+i,none⟩=some (.slice a n c)∧IsB w a n c (ls.getD i [])∧n≤140737488351232) :
  Calls Try.prog 84 #[.slice (some ⟨b,off,none⟩) len cap] w fun e w'=>e = .returned (.int .u32 ((Crc.crc ls.flatten).toNat:Int))∧w=w':=by
 have HL:=Lib.hid hlen;clear hlen
 go_enter Try.func84,Try.ntmps84
 go_wp2
 go_loop [3,10] (fun c i=>∃k:Nat,k≤len∧i = .int .i64 k∧c = .int .u32 ((Crc.go Crc.ini (ls.take k).flatten).toNat:Int)) (fun _ i=>len - (intOf i).toNat)
 case atStart=>exact ⟨0,Nat.zero_le _,rfl,rfl⟩
 case round =>
  obtain ⟨k,hk,rfl,rfl⟩:=hrel
  by_cases hlt:k<len
  ·obtain ⟨a,n,c,hcell,hb,hn⟩:=hc k hlt
   have hfl:=take_flat ls k (by rw [HL.out];exact hlt)
   generalize ls.getD k []=l at hb hfl
   have HF:=Lib.hid hfl
   have HB:=Lib.hid hb
   clear hb hfl
   go_wp2
   go_loop [3,16] (fun c i=>∃j:Nat,j≤n∧i = .int .i64 j∧c = .int .u32 ((Crc.go (Crc.go Crc.ini (ls.take k).flatten) (l.take j)).toNat:Int)) (fun _ i=>n - (intOf i).toNat)
   case atStart=>exact ⟨0,Nat.zero_le _,rfl,rfl⟩
   case round =>
    obtain ⟨j,hj,rfl,rfl⟩:=hrel
    by_cases hltj:j<n
    ·obtain ⟨hbl,_,hba⟩:=HB.out
     rcases hba with h0 | ⟨b1,off1,rfl,hcb⟩
     ·omega
     have hcj:=hcb j hltj
     have ht:=take_one _ j (by rw [hbl];exact hltj)
     generalize l.getD j 0=x at hcj ht
     have HT:=Lib.hid ht
     clear hcb hbl ht
     go_wp2
     go_loop [3,24] (fun c i=>∃t:Nat,t≤8∧i = .int .i64 t∧c = .int .u32 ((Crc.turns t (Crc.go (Crc.go Crc.ini (ls.take k).flatten) (l.take j) ^^^ Crc.emb x)).toNat:Int)) (fun _ i=>8 - (intOf i).toNat)
     case atStart=>exact ⟨0,by omega,rfl,u32_eq (byt_walk _ _)⟩
     case round =>
      obtain ⟨t,ht,rfl,rfl⟩:=hrel
      by_cases hlt8:t<8
      ·go_wp2
       go_round
       case rel=>exact ⟨t+1,by omega,by go_num,u32_eq (by rw [stp_walk,Crc.turns_succ])⟩
       case measure=>simp [intOf];omega
      ·go_wp2
       go_round
       case rel =>
        obtain rfl:t=8:=by omega
        exact ⟨j+1,by omega,by go_num,u32_eq (by rw [HT.out,Crc.go_append];rfl)⟩
       case measure=>simp [intOf];omega
    ·go_wp2
     go_round
     case rel =>
      obtain rfl:j=n:=by omega
      exact ⟨k+1,by omega,by go_num,u32_eq (by rw [HF.out,Crc.go_append,List.take_of_length_le (l:=l) (by rw [HB.out.len];exact Nat.le_refl _)])⟩
     case measure=>simp [intOf];omega
  ·go_wp2
   go_ret
   obtain rfl:k=len:=by omega
   exact ⟨ret_u32 (by rw [not_walk,List.take_of_length_le (by rw [HL.out];exact Nat.le_refl _)];rfl),rfl⟩

end Go.Proofs.Ytnicaicjgaoolaa.F
