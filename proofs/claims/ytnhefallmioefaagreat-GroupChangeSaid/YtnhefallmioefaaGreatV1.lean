/-
  What the proof of the law leans on: contracts of the program's functions, one behind another. No condition.
-/
import Derived.Test.YtnhefallmioefaaGreatV0
import Derived.ProofKit
import Derived.OpenShut
import Derived.ShutString
import Derived.ChangeOld
import Derived.SizedLaws
import Derived.WalkKit
import Derived.Deep.Slices
import Derived.WalkSpells
import Derived.WalkLawsBesides
import Derived.Lib.Hide
import Derived.Laws.AppendOwnNone
import Derived.Deep.QuietTactic
import Derived.BigQuiet
import Derived.Deep.RegionWith
import Derived.Orders
import Derived.Test.YtnhefallmioefaaGreatRows
import Derived.Maps.Keyed
import Derived.DeepKeys4
import Derived.ChangeMaps5
import Derived.Deep.AppendLies
import Derived.Lib.AppendZerosOnto
import Derived.Lib.SliceRun
import Derived.Lib.Walk
set_option linter.unusedVariables false
set_option linter.unusedSimpArgs false
namespace Go.Proofs.YtnhefallmioefaaGreat
open Go.ChangeShapes Go.WideShapes Go.ChangeAt Go.RowKit
section
variable {H:Type} {enc:TypeId×Value->H} {P:Program}
theorem jX (hl:laidOutB P=true) {W W':World} (hb:Below W.heap.size W W'):∀(ts:List TypeId) (vs:List Value) (ds:List (DataW H)) (ps:List MemPlace),
  (∀t∈ts,P.readableRec t=true/\t<P.types.size)->DataW.TrodAll enc P W 0 (λ_=>true) true ts vs ds ps->DataW.TrodAll enc P W' 0 (λb=>decide (b<W.heap.size)) true ts vs ds ps
 | [],[],[],_,_,h=>h
 | t::ts,v::vs,d::ds,_,hr,h=>by
  obtain ⟨p,q,h1,h2,h3⟩:=h;refine ⟨p,q,Below.trod hl (hr t (by simp)).1 (hr t (by simp)).2 h1 hb ?_,jX hl hb ts vs ds q (λt ht=>hr t (by simp [ht])) h2,h3⟩;obtain ⟨m,hm⟩:=h1;exact DataW.trod_lt m _ _ _ hm
 | [],[],_::_,_,_,h=>h.elim
 | [],_::_,_,_,_,h=>h.elim
 | _::_,[],_,_,_,h=>h.elim
 | _::_,_::_,[],_,_,h=>h.elim
theorem rK {fn:Func} {s:ChangeSpec} {W W':World} {args:Array Value} {ds gs:List (DataW H)} {before:List MemPlace} {b:TypeId}
  (hl:laidOutB P=true) (hr:∀t∈fn.params.toList,P.readableRec t=true/\t<P.types.size) (hres:fn.resultTypes=#[b]) (hbool:P.underlying b=some .bool) (hvars:s.vars=[])
  (hs:s.fn H ds={ results:=[.lit (.bool true)],args:=ds }) (hW:DataW.Whole enc P fn.params.toList s.vars false W args.toList ds gs before) (hb:Below W.heap.size W W') :
  s.post enc P fn false true false false W args (.bool true) W':=by
 have hW':=hW;obtain ⟨p,q,hA,hV,hp,_,_⟩:=hW;rw [hvars] at hV;obtain ⟨rfl,rfl⟩:=trodVars_none hV;refine ⟨ds,[],before,[],p,[],hW',?_,?_,?_,hb.frame _,λh=>by cases h⟩
 ·rw [eo,hs,hres];exact trodAll_mk1 (shut_bool hbool _)
 ·rw [eo,hs];exact jX hl hb _ _ _ _ hr hA
 ·rw [eo,hs,hvars];rfl
theorem jm {ts:List TypeId} {ds:List (DataW H)} (h:(DataW.weightsEach P ts ds).all (· <= reachBytes)=true) {j:Nat} {t:TypeId} {d:DataW H} (ht:ts[j]? = some t) (hd:ds[j]? = some d) :
  (DataW.weights P t d).all (· <= reachBytes)=true :=
 dI.2 λx hx=>dI.1 h x (DataW.weights_mem_each ht hd x hx)
theorem jn {e:TypeId} {x:Nat}:∀(l:List (DataW H)) (d:DataW H),d∈l->x∈DataW.weights P e d->x∈DataW.weightsAll P e l
 | [],_,hd,_=>by cases hd
 | y::l,d,hd,hx=>by
  simp only [DataW.weightsAll,ap];rcases bg.1 hd with rfl | hd
  ·exact .inl hx
  ·exact .inr (jn l d hd hx)
theorem pF {e:TypeId} {l:List (DataW H)} {d:DataW H} (h:(DataW.weightsAll P e l).all (· <= reachBytes)=true) (hd:d∈l):(DataW.weights P e d).all (· <= reachBytes)=true :=
 dI.2 λx hx=>dI.1 h x (jn l d hd hx)
end
def bv (x:UInt8):Value:=.int .u8 (x.toNat:Int)
structure IsB (w:World) (ao:Option Addr) (n c:Nat) (l:List UInt8):Prop where
 len:l.length=n
 nil:ao=none->n=0/\c=0
 at_:n=0\/∃b off,ao=some ⟨b,off,none⟩/\∀i,i<n->w.cell? ⟨b,off+i,none⟩=some (.int .u8 ((l.getD i 0).toNat:Int))
structure IsBB (w:World) (ao:Option Addr) (n:Nat) (ls:List (List UInt8)):Prop where
 len:ls.length=n
 at_:n=0\/∃b off,ao=some ⟨b,off,none⟩/\∀i,i<n->∃a m c,w.cell? ⟨b,off+i,none⟩=some (.slice a m c)/\IsB w a m c (ls.getD i [])/\m<=140737488351232
theorem IsB.below {w w':World} {ao:Option Addr} {n c:Nat} {l:List UInt8} (h:IsB w ao n c l) (hb:Below w.heap.size w w'):IsB w' ao n c l:=by
 obtain ⟨h1,h2,h3⟩:=h;refine ⟨h1,h2,?_⟩;rcases h3 with h3 | ⟨b,off,h4,h5⟩
 ·exact .inl h3
 ·exact .inr ⟨b,off,h4,λi hi=>cell_later hb (h5 i hi)⟩
theorem IsB.alloc {w:World} {ao:Option Addr} {n c:Nat} {l:List UInt8} (h:IsB w ao n c l) (o:Obj):IsB (w.alloc o) ao n c l :=
 h.below ((az _ _).alloc (ah _) o)
theorem IsB.heapw {w w':World} {ao:Option Addr} {n c:Nat} {l:List UInt8} (h:IsB w ao n c l) (hw:w'.heap=w.heap):IsB w' ao n c l:=by
 obtain ⟨h1,h2,h3⟩:=h;refine ⟨h1,h2,?_⟩;rcases h3 with h3 | ⟨b,off,h4,h5⟩
 ·exact .inl h3
 ·exact .inr ⟨b,off,h4,λi hi=>(World.cell?_of_block (by rw [hw])).trans (h5 i hi)⟩
theorem la {w:World} {ao:Option Addr} {n c:Nat} {l:List UInt8} (h:IsB w ao n c l) (k:Nat) (hk:k<=n):IsB w ao k c (l.take k):=by
 obtain ⟨h1,h2,h3⟩:=h;refine ⟨by rw [aI,h1];omega,(λe=>⟨by have:=(h2 e).1;omega,(h2 e).2⟩),?_⟩;rcases h3 with h3 | ⟨b,off,h4,h5⟩
 ·exact .inl (by omega)
 ·refine .inr ⟨b,off,h4,λi hi=>?_⟩;rw [h5 i (by omega)];simp [hi]
theorem jy {w:World} {b off n c:Nat} {l:List UInt8} (h:IsB w (some ⟨b,off,none⟩) n c l) (k c':Nat) (hk:k<=n):IsB w (some ⟨b,off+k,none⟩) (n - k) c' (l.drop k):=by
 obtain ⟨h1,h2,h3⟩:=h;refine ⟨by rw [bz,h1],(λe=>by cases e),?_⟩;rcases h3 with h3 | ⟨b',off',h4,h5⟩
 ·exact .inl (by omega)
 ·cases h4;refine .inr ⟨b,off+k,rfl,λi hi=>?_⟩;rw [Nat.add_assoc,h5 (k+i) (by omega)];simp [fj]
theorem nH {w:World} {p:Addr} (c:Nat):IsB w (some p) 0 c []:=⟨rfl,(λe=>by cases e),.inl rfl⟩
theorem fV (w:World):IsB w none 0 0 []:=⟨rfl,λ_=>⟨rfl,rfl⟩,.inl rfl⟩
theorem qe (w:World) (l:List UInt8) (vs:Array Value) (hv:vs=(l.map bv).toArray) (t:TypeId) (fr:Nat×Nat) (H:Nat) (hH:H=w.heap.size) (n:Nat) (hn:l.length=n) (c:Nat) :
  IsB (w.alloc (.cells vs t fr)) (some ⟨H,0,none⟩) n c l:=by
 subst hH hv hn;refine ⟨rfl,(λh=>by cases h),.inr ⟨_,_,rfl,λi hi=>?_⟩⟩;rw [World.cell?_alloc_mark];simp [hi,bv]
theorem Bu {w:World} {base:Nat} {e:TypeId} {v:Value} {n:Nat} {l:List UInt8} (h:w.ownsRow base e 1 v n (l.map bv)) :
  ∃ao c,v = .slice ao n c/\IsB w ao n c l:=by
 obtain ⟨h1,h2⟩:=h;have hl:l.length=n:=by simpa using h1
 rcases h2 with ⟨rfl,rfl⟩ | ⟨g,cap,cur,rfl,hg,hh,hn,hm,hs,ht⟩
 ·exact ⟨none,0,rfl,hl,λ_=>⟨rfl,rfl⟩,.inl rfl⟩
 ·refine ⟨_,cap,rfl,hl,(λh=>by cases h),.inr ⟨g,0,rfl,λi hi=>?_⟩⟩;have:cur.toList[i]? = some (bv (l.getD i 0)):=by
   have h3:(cur.toList.take (n*1))[i]? = (l.map bv)[i]? := by rw [ht]
   rw [cE,aA (by omega)] at h3;rw [h3];have:i<l.length:=by omega
   simp [this]
  simp only [World.cell?,hh,cy];simpa [bv] using this
def OwnB (w:World) (base:Nat) (e:TypeId) (v:Value) (l:List UInt8):Prop:=w.ownsRow base e 1 v l.length (l.map bv)
theorem OwnB.nil (w:World) (base:Nat) (e:TypeId):OwnB w base e (.slice none 0 0) []:=World.ownsRow_nil _ _ _ _
theorem OwnB.alloc {w:World} {base:Nat} {e:TypeId} {v:Value} {l:List UInt8} (h:OwnB w base e v l) (o:Obj):OwnB (w.alloc o) base e v l:=World.ownsRow.alloc h o
theorem OwnB.isB {w:World} {base:Nat} {e:TypeId} {v:Value} {l:List UInt8} (h:OwnB w base e v l):∃ao c,v = .slice ao l.length c/\IsB w ao l.length c l:=Bu h
theorem OwnB.lt {w:World} {base:Nat} {e:TypeId} {v:Value} {l:List UInt8} (h:OwnB w base e v l):∀k,v.ownBlock=some k->base<=k/\k<w.heap.size:=World.ownsRow.lt h
theorem OwnB.mono {w:World} {base base':Nat} {e:TypeId} {v:Value} {l:List UInt8} (h:OwnB w base e v l) (hb:base'<=base):OwnB w base' e v l:=by
 refine ⟨h.1,?_⟩;rcases h.2 with h2 | ⟨g,cap,cur,hv,hg,hh,r⟩
 ·exact .inl h2
 ·exact .inr ⟨g,cap,cur,hv,aD hb hg,hh,r⟩
theorem OwnB.new (w:World) (base:Nat) (e:TypeId) (l:List UInt8) (vs:Array Value) (hv:vs=(l.map bv).toArray) (H:Nat) (hH:H=w.heap.size) (hb:base<=w.heap.size) (n:Nat) (hn:l.length=n) (hm:n<=140737488355328) :
  OwnB (w.alloc (.cells vs e)) base e (.slice (some ⟨H,0,none⟩) n n) l:=by
 subst hH hv hn;refine ⟨by simp,.inr ⟨w.heap.size,l.length,_,rfl,hb,heap_alloc_new w _,ah _,by unfold maxLen;omega,by simp,?_⟩⟩;simp [aZ]
theorem cJ {P:Program} {w:World} {ops:Array Oper} {rest:List Oper} {o:Oper} {a:Act} {Q:Exit->Act->World->Prop} (hgd:o.guard=none) (s x:Operand) (t:TypeId)
  (ho:o.op = .call { callee:=.builtin .append,args:=#[s,x],argTypes:=#[t,t]})
  (base:Nat) (e:TypeId) (ht:P.underlying t=some (.slice e)) (hi:(P.info? e).map (λi=>(i.zero,i.size,i.bytes))=some (some (.int .u8 0),1,1))
  (v:Value) (l:List UInt8) (hs:a.eval s=v) (hown:OwnB w base e v l)
  (ao:Option Addr) (m c:Nat) (l2:List UInt8) (hx:a.eval x = .slice ao m c) (hsrc:IsB w ao m c l2)
  (hbytes:l.length+m<=140737488355328) (hbase:base<=w.heap.size)
  (h:∀v' w',OwnB w' base e v' (l++l2)->w.grownBy w' v.ownBlock->Below base w w'->wpList P ops Q rest (a.put o.dst v') w'):wpList P ops Q (o::rest) a w:=by
 obtain ⟨i0,hi0,hz0,hz1,hz2⟩:=info_parts hi;obtain ⟨h1,h2,h3⟩:=hsrc;have hb:∀w',w.grownBy w' v.ownBlock->Below base w w':=λw' hg=>(az base w).grown hg hbase (λk hk=>(hown.lt k hk).1);unfold OwnB at hown h;cases ao with
 | none =>
  obtain ⟨rfl,rfl⟩:=h2 rfl;obtain rfl:l2=[]:=br.1 h1;exact wpList_append_own_none hgd s x t ho base e i0 1 ht hi0 v _ _ hs hown hx (h v w (by simpa using hown) (World.grownBy.refl _ _) (az _ _))
 | some ad =>
  refine wpList_append_own w hgd s x t ho base e i0 (.int .u8 0) 1 1 ht hi0 hz0 hz1 hz2 rfl (by decide) v _ _ hs hown ad m c (l2.map bv) hx (by simpa using h1) ?_ ?_ (by unfold maxLen;omega) (by omega) hbase ?_
  ·intro j u hj;rcases h3 with h3 | ⟨b,off,h4,h5⟩
   ·subst h3;obtain rfl:l2=[]:=br.1 h1;simp at hj
   ·obtain rfl:ad=⟨b,off,none⟩:=by simpa using h4
    have hjl:j<l2.length:=by
     rcases DN j l2.length with hlt | hge
     ·exact hlt
     ·simp [dR hge] at hj
    have:=h5 j (by omega);rw [Addr.add_lit,this];simp [hjl] at hj;simp [<-hj,hjl,bv]
  ·intro u hu;obtain ⟨y,_,rfl⟩:=cF.1 hu;rfl
  ·intro v' w' g1 g2 _;exact h v' w' (by rw [ay,h1,bS];exact g1) g2 (hb w' g2)
section
variable {H:Type} {enc:TypeId×Value->H} {P:Program}
def bytesOf (zs:List Int):List UInt8:=zs.map λz:Int=>UInt8.ofNat z.toNat
theorem iy {W:World} {t e:TypeId} {fuel:Nat} {cs:List Value} {d:DataW H} {ps:List MemPlace} (ht:P.underlying t=some (.slice e)) (he:P.underlying e=some (.int .u8)) (hc:P.cellsOf e=1) (hbu:P.bytesOf e=1)
  (h:DataW.trod enc P W 0 (λ_=>true) true fuel t cs=some (d,ps)) (hsz:(DataW.weights P t d).all (· <= reachBytes)=true) :
  ∃ao n c l,cs=[.slice ao n c]/\IsB W ao n c l/\n<=c/\c<=140737488351232:=by
 rcases open_ints ht he hc h with ⟨hcs,hx⟩ | ⟨ad,n,c,zs,hcs,_,hle,_,hz,hx,hcell,hwf⟩
 ·exact ⟨none,0,0,[],hcs,⟨rfl,λ_=>⟨rfl,rfl⟩,.inl rfl⟩,ah _,by omega⟩
 ·have hz':zs.length=c:=by simpa using hz
  refine ⟨some ad,n,c,bytesOf (zs.take n),hcs,⟨by simp [bytesOf];omega,(λh=>by cases h),?_⟩,hle,?_⟩
  ·by_cases h0:n=0
   ·exact .inl h0
   ·right;obtain ⟨b,off,spot⟩:=ad;have hspot:spot=none:=by
     have:=hcell 0 (by omega);simpa [Addr.add] using World.cell?_spot this
    subst hspot;refine ⟨b,off,rfl,λi hi=>?_⟩;have h1:=hcell i (by omega);rw [Addr.add_lit] at h1;rw [h1];have hi':i<zs.length:=by omega
    have hw:=hwf (zs.getD i 0) (by simp [hi']);simp [Lit.wf,IntKind.min,IntKind.max,IntKind.signed,IntKind.bits] at hw;have h2:(bytesOf (zs.take n)).getD i 0=UInt8.ofNat (zs.getD i 0).toNat:=by
     simp [bytesOf,hi,hi']
    rw [h2];congr 2;simp [hi'] at hw ⊢;omega
  ·obtain ⟨rfl,rfl⟩:=Prod.mk.inj hx;simp only [DataW.weights,ht,List.all_cons,bA,hbu,lits,aP,aI,bz,reachBytes] at hsz;have:=d8 hsz.1;omega
end
section
variable {H:Type} {enc:TypeId×Value->H} {P:Program}
structure IsBC (w:World) (ao:Option Addr) (n:Nat) (ls:List (List UInt8)):Prop where
 len:ls.length=n
 at_:n=0\/∃b off,ao=some ⟨b,off,none⟩/\∀i,i<n->∃a m c,w.cell? ⟨b,off+i,none⟩=some (.slice a m c)/\IsB w a m c (ls.getD i [])/\m<=140737488351232/\m<=c
theorem AX {W:World} {t e u:TypeId} {v:Value} {d:DataW H} {ps:List MemPlace} (ht:P.underlying t=some (.slice e)) (he:P.underlying e=some (.slice u)) (hu:P.underlying u=some (.int .u8)) (hce:P.cellsOf e=1) (hcu:P.cellsOf u=1)
  (hbe:P.bytesOf e=24) (hbu:P.bytesOf u=1) (hv:∃a n c,v = .slice a n c) (h:DataW.Trod enc P W 0 (λ_=>true) true t v d ps) (hsz:(DataW.weights P t d).all (· <= reachBytes)=true) :
  ∃ao n c ls,v = .slice ao n c/\IsBC W ao n ls/\n<=c/\c*24<=140737488351232:=by
 obtain ⟨a,n,c,rfl⟩:=hv;obtain ⟨fuel,hf⟩:=h;rcases Deep.open_slice1 ht hce hf with ⟨hcs,hx⟩ | ⟨ad,n',c',m,k,V,D,Pl,hcs,_,hle,_,hm,hx,hcell⟩
 ·simp [Value.cells] at hcs;obtain ⟨rfl,rfl,rfl⟩:=hcs;exact ⟨_,_,_,[],rfl,⟨rfl,.inl rfl⟩,ah _,by omega⟩
 ·simp [Value.cells] at hcs;obtain ⟨rfl,rfl,rfl⟩:=hcs;obtain rfl:m=c:=by simpa using hm
  obtain ⟨rfl,rfl⟩:=Prod.mk.inj hx;simp only [DataW.weights,ht,List.all_cons,List.all_append,bA,aP,List.length_range,hbe,reachBytes] at hsz;obtain ⟨hs1',hs2,hs3⟩:=hsz;have hs1:=d8 hs1';have hw:∀i,i<n->(DataW.weights P e (D i)).all (· <= reachBytes)=true:=by
   intro i hi;refine dI.2 λx hx=>?_;refine dI.1 hs2 x ?_;have hall:∀(l:List (DataW H)) (d:DataW H),d∈l->x∈DataW.weights P e d->x∈DataW.weightsAll P e l:=by
    intro l;induction l with
    | nil=>intro d hd;cases hd
    | cons y l ih =>
     intro d hd hxd;simp only [DataW.weightsAll,ap];rcases bg.1 hd with rfl | hd
     ·exact .inl hxd
     ·exact .inr (ih d hd hxd)
   exact hall _ (D i) (cF.2 ⟨i,cW.2 hi,rfl⟩) hx
  have hex:∀i,i<n->∃l:List UInt8,∃a m c,W.cell? (ad.add i)=some (.slice a m c)/\IsB W a m c l/\m<=140737488351232/\m<=c:=by
   intro i hi;obtain ⟨h1,h2⟩:=hcell i (by omega);obtain ⟨ao,q,c,l,h3,h4,h5,h6⟩:=iy he hu hcu hbu h2 (hw i hi);have h3':V i = .slice ao q c:=by simpa using h3
   exact ⟨l,ao,q,c,by rw [h1,h3'],h4,by omega,h5⟩
  obtain ⟨L,hL⟩:=Deep.choose_lt hex;refine ⟨some ad,n,m,(List.range n).map L,rfl,⟨by simp,?_⟩,hle,by omega⟩;by_cases h0:n=0
  ·exact .inl h0
  ·right;obtain ⟨b,off,spot⟩:=ad;have hspot:spot=none:=by
    obtain ⟨_,_,_,h1,_⟩:=hL 0 (by omega);simpa [Addr.add] using World.cell?_spot h1
   subst hspot;refine ⟨b,off,rfl,λi hi=>?_⟩;obtain ⟨a,q,c,h1,h2,h3⟩:=hL i hi;rw [Addr.add_lit] at h1;exact ⟨a,q,c,h1,by simpa [hi] using h2,h3⟩
end
def iv (x:Int):Value:=.int .i64 x
structure IsI (w:World) (ao:Option Addr) (n c:Nat) (l:List Int):Prop where
 len:l.length=n
 nil:ao=none->n=0/\c=0
 at_:n=0\/∃b off,ao=some ⟨b,off,none⟩/\∀i,i<n->w.cell? ⟨b,off+i,none⟩=some (.int .i64 (l.getD i 0))
theorem IsI.below {w w':World} {ao:Option Addr} {n c:Nat} {l:List Int} (h:IsI w ao n c l) (hb:Below w.heap.size w w'):IsI w' ao n c l:=by
 obtain ⟨h1,h2,h3⟩:=h;refine ⟨h1,h2,?_⟩;rcases h3 with h3 | ⟨b,off,h4,h5⟩
 ·exact .inl h3
 ·exact .inr ⟨b,off,h4,λi hi=>cell_later hb (h5 i hi)⟩
theorem IsI.alloc {w:World} {ao:Option Addr} {n c:Nat} {l:List Int} (h:IsI w ao n c l) (o:Obj):IsI (w.alloc o) ao n c l :=
 h.below ((az _ _).alloc (ah _) o)
theorem jQ (w:World) (l:List Int) (vs:Array Value) (hv:vs=(l.map iv).toArray) (t:TypeId) (fr:Nat×Nat) (H:Nat) (hH:H=w.heap.size) (n:Nat) (hn:l.length=n) (c:Nat) :
  IsI (w.alloc (.cells vs t fr)) (some ⟨H,0,none⟩) n c l:=by
 subst hH hv hn;refine ⟨rfl,(λh=>by cases h),.inr ⟨_,_,rfl,λi hi=>?_⟩⟩;rw [World.cell?_alloc_mark];simp [hi,iv]
theorem Bt {w:World} {base:Nat} {e:TypeId} {v:Value} {n:Nat} {l:List Int} (h:w.ownsRow base e 1 v n (l.map iv)) :
  ∃ao c,v = .slice ao n c/\IsI w ao n c l:=by
 obtain ⟨h1,h2⟩:=h;have hl:l.length=n:=by simpa using h1
 rcases h2 with ⟨rfl,rfl⟩ | ⟨g,cap,cur,rfl,hg,hh,hn,hm,hs,ht⟩
 ·exact ⟨none,0,rfl,hl,λ_=>⟨rfl,rfl⟩,.inl rfl⟩
 ·refine ⟨_,cap,rfl,hl,(λh=>by cases h),.inr ⟨g,0,rfl,λi hi=>?_⟩⟩;have:cur.toList[i]? = some (iv (l.getD i 0)):=by
   have h3:(cur.toList.take (n*1))[i]? = (l.map iv)[i]? := by rw [ht]
   rw [cE,aA (by omega)] at h3;rw [h3];have:i<l.length:=by omega
   simp [this]
  simp only [World.cell?,hh,cy];simpa [iv] using this
def OwnI (w:World) (base:Nat) (e:TypeId) (v:Value) (l:List Int):Prop:=w.ownsRow base e 1 v l.length (l.map iv)
theorem OwnI.nil (w:World) (base:Nat) (e:TypeId):OwnI w base e (.slice none 0 0) []:=World.ownsRow_nil _ _ _ _
theorem OwnI.alloc {w:World} {base:Nat} {e:TypeId} {v:Value} {l:List Int} (h:OwnI w base e v l) (o:Obj):OwnI (w.alloc o) base e v l:=World.ownsRow.alloc h o
theorem OwnI.isI {w:World} {base:Nat} {e:TypeId} {v:Value} {l:List Int} (h:OwnI w base e v l):∃ao c,v = .slice ao l.length c/\IsI w ao l.length c l:=Bt h
theorem OwnI.lt {w:World} {base:Nat} {e:TypeId} {v:Value} {l:List Int} (h:OwnI w base e v l):∀k,v.ownBlock=some k->base<=k/\k<w.heap.size:=World.ownsRow.lt h
theorem OwnI.below {w w':World} {base:Nat} {e:TypeId} {v:Value} {l:List Int} (h:OwnI w base e v l) (hb:Below w.heap.size w w'):OwnI w' base e v l:=by
 refine ⟨h.1,?_⟩;rcases h.2 with h2 | ⟨g,cap,cur,hv,hg,hh,r⟩
 ·exact .inl h2
 ·exact .inr ⟨g,cap,cur,hv,hg,by rw [hb.block g (io.1 hh).1];exact hh,r⟩
theorem OwnI.mono {w:World} {base base':Nat} {e:TypeId} {v:Value} {l:List Int} (h:OwnI w base e v l) (hb:base'<=base):OwnI w base' e v l:=by
 refine ⟨h.1,?_⟩;rcases h.2 with h2 | ⟨g,cap,cur,hv,hg,hh,r⟩
 ·exact .inl h2
 ·exact .inr ⟨g,cap,cur,hv,aD hb hg,hh,r⟩
theorem OwnI.new (w:World) (base:Nat) (e:TypeId) (l:List Int) (vs:Array Value) (hv:vs=(l.map iv).toArray) (H:Nat) (hH:H=w.heap.size) (hb:base<=w.heap.size) (n:Nat) (hn:l.length=n) (hm:n<=140737488355328) :
  OwnI (w.alloc (.cells vs e)) base e (.slice (some ⟨H,0,none⟩) n n) l:=by
 subst hH hv hn;refine ⟨by simp,.inr ⟨w.heap.size,l.length,_,rfl,hb,heap_alloc_new w _,ah _,by unfold maxLen;omega,by simp,?_⟩⟩;simp [aZ]
theorem gN {P:Program} {w:World} {ops:Array Oper} {rest:List Oper} {o:Oper} {a:Act} {Q:Exit->Act->World->Prop} (hgd:o.guard=none) (s x:Operand) (t:TypeId)
  (ho:o.op = .call { callee:=.builtin .append,args:=#[s,x],argTypes:=#[t,t]})
  (base:Nat) (e:TypeId) (ht:P.underlying t=some (.slice e)) (hi:(P.info? e).map (λi=>(i.zero,i.size,i.bytes))=some (some (.int .i64 0),1,8))
  (v:Value) (l:List Int) (hs:a.eval s=v) (hown:OwnI w base e v l)
  (ao:Option Addr) (m c:Nat) (l2:List Int) (hx:a.eval x = .slice ao m c) (hsrc:IsI w ao m c l2)
  (hbytes:l.length+m<=17592186044416) (hbase:base<=w.heap.size)
  (h:∀v' w',OwnI w' base e v' (l++l2)->w.grownBy w' v.ownBlock->Below base w w'->wpList P ops Q rest (a.put o.dst v') w'):wpList P ops Q (o::rest) a w:=by
 obtain ⟨i0,hi0,hz0,hz1,hz2⟩:=info_parts hi;obtain ⟨h1,h2,h3⟩:=hsrc;have hb:∀w',w.grownBy w' v.ownBlock->Below base w w':=λw' hg=>(az base w).grown hg hbase (λk hk=>(hown.lt k hk).1);unfold OwnI at hown h;cases ao with
 | none =>
  obtain ⟨rfl,rfl⟩:=h2 rfl;obtain rfl:l2=[]:=br.1 h1;exact wpList_append_own_none hgd s x t ho base e i0 1 ht hi0 v _ _ hs hown hx (h v w (by simpa using hown) (World.grownBy.refl _ _) (az _ _))
 | some ad =>
  refine wpList_append_own w hgd s x t ho base e i0 (.int .i64 0) 1 8 ht hi0 hz0 hz1 hz2 rfl (by decide) v _ _ hs hown ad m c (l2.map iv) hx (by simpa using h1) ?_ ?_ (by unfold maxLen;omega) (by omega) hbase ?_
  ·intro j u hj;rcases h3 with h3 | ⟨b,off,h4,h5⟩
   ·subst h3;obtain rfl:l2=[]:=br.1 h1;simp at hj
   ·obtain rfl:ad=⟨b,off,none⟩:=by simpa using h4
    have hjl:j<l2.length:=by
     rcases DN j l2.length with hlt | hge
     ·exact hlt
     ·simp [dR hge] at hj
    have:=h5 j (by omega);rw [Addr.add_lit,this];simp [hjl] at hj;simp [<-hj,hjl,iv]
  ·intro u hu;obtain ⟨y,_,rfl⟩:=cF.1 hu;rfl
  ·intro v' w' g1 g2 _;exact h v' w' (by rw [ay,h1,bS];exact g1) g2 (hb w' g2)
structure Only (S:List Nat) (w w':World):Prop where
 os:w'.os=w.os
 tape:w'.tape=w.tape
 output:w'.output=w.output
 size:w.heap.size<=w'.heap.size
 block:∀k,k<w.heap.size->k∉S->w'.heap[k]? = w.heap[k]?
theorem Only.refl (S:List Nat) (w:World):Only S w w:=⟨rfl,rfl,rfl,ah _,λ_ _ _=>rfl⟩
theorem Only.trans {S:List Nat} {a b c:World} (h:Only S a b) (k:Only S b c):Only S a c :=
 ⟨k.os.trans h.os,k.tape.trans h.tape,k.output.trans h.output,aD h.size k.size,λi hi hs=>(k.block i (aE hi h.size) hs).trans (h.block i hi hs)⟩
theorem Only.mono {S T:List Nat} {w w':World} (h:Only S w w') (hst:∀k∈S,k∈T):Only T w w' :=
 ⟨h.os,h.tape,h.output,h.size,λk hk ht=>h.block k hk λhs=>ht (hst k hs)⟩
theorem Only.cut {S T:List Nat} {w w':World} (h:Only S w w') (hst:∀k∈S,k<w.heap.size->k∈T):Only T w w' :=
 ⟨h.os,h.tape,h.output,h.size,λk hk ht=>h.block k hk λhs=>ht (hst k hs hk)⟩
theorem Only.drew {S:List Nat} {a w:World} (h:Only S a w):Only S a w.drew:=⟨h.os,h.tape,h.output,h.size,h.block⟩
theorem Only.drewN {S:List Nat} {a w:World} (h:Only S a w) (n:Nat):Only S a (w.drewN n):=h.trans ⟨rfl,rfl,rfl,ah _,λ_ _ _=>rfl⟩
theorem Only.alloc {S:List Nat} {a w:World} (h:Only S a w) (o:Obj):Only S a (w.alloc o) :=
 h.trans ⟨rfl,rfl,rfl,by simp,λk hk _=>Below.heap_alloc _ _ _ hk⟩
theorem Only.setCell {S:List Nat} {a w:World} (h:Only S a w) {p:Addr} (hp:p.block∈S) (u:Value):Only S a (w.setCell p u) :=
 h.trans ⟨rfl,rfl,rfl,by simp [World.setCell],λk _ hk=>Below.heap_setCell _ _ _ _ (λe=>hk (e ▸ hp))⟩
theorem Only.ofBelow {w w':World} (h:Below w.heap.size w w') (S:List Nat):Only S w w':=⟨h.os,h.tape,h.output,h.size,λk hk _=>h.block k hk⟩
theorem Only.below {S:List Nat} {w w':World} (h:Only S w w') {B:Nat} (hB:B<=w.heap.size) (hs:∀k∈S,B<=k):Below B w w' :=
 ⟨h.os,h.tape,h.output,h.size,λk hk=>h.block k (aE hk hB) λhm=>by have:=hs k hm;omega⟩
theorem Only.keeps {S:List Nat} {w w':World} (h:Only S w w') {k:Nat} {o:Obj} (hk:w.heap[k]? = some o) (hn:k∉S):w'.heap[k]? = some o:=by
 rw [h.block k (io.1 hk).1 hn];exact hk
theorem Only.cell {S:List Nat} {w w':World} (h:Only S w w') {p:Addr} {v:Value} (hc:w.cell? p=some v) (hn:p.block∉S):w'.cell? p=some v :=
 (World.cell?_of_block (w:=w) (h.block p.block (World.block_lt_of_cell? w p hc) hn)).trans hc
theorem aQ {w:World} {k:Nat} {o:Obj} (hk:w.heap[k]? = some o):k<w.heap.size:=(io.1 hk).1
theorem af {w:World} {k:Nat} {c:Array Value} {t:TypeId} {fr:Nat×Nat} (h:w.heap[k]? = some (.cells c t fr)) (i:Nat):w.cell? ⟨k,i,none⟩=c[i]? := by
 simp [World.cell?,h]
theorem aM {w:World} {k:Nat} {c:Array Value} {t:TypeId} (h:w.heap[k]? = some (.cells c t (0,0))) (i:Nat):w.frozen? ⟨k,i,none⟩=false:=by
 simp [World.frozen?,h]
theorem aR {w:World} {k:Nat} {c:Array Value} {t:TypeId} (h:w.heap[k]? = some (.cells c t (0,0))) (i:Nat) (u:Value) :
 (w.setCell ⟨k,i,none⟩ u).heap[k]? = some (.cells (c.setIfInBounds i u) t (0,0)):=heap_setCell_same w k i c t u h
theorem aK (w:World) (o:Obj):(w.alloc o).heap[w.heap.size]? = some o:=heap_alloc_new w o
theorem bb {w:World} {k:Nat} {o:Obj} (h:w.heap[k]? = some o) (o':Obj):(w.alloc o').heap[k]? = some o:=(Only.refl [] w).alloc o' |>.keeps h (by simp)
theorem i6 {P:Program} {f:FuncId} {args:Array Value} {w:World} {n:Nat} {v:Value}
  (h:Calls P f args (w.drewN n) λe w'=>e = .returned v/\w.drewN n=w'):Calls P f args (w.drewN n) λe w''=>e = .returned v/\∃m,w''=w.drewN m :=
 h.mono λ_ _ ⟨he,hm⟩=>⟨he,n,hm.symm⟩
theorem Cc {P:Program} {o:Oper} {a:Act} {w:World} {K:Act->World->Prop} {Q Q':Exit->Act->World->Prop} (h:o.wp P a w K Q) (hq:∀c a w,Q (.panic c) a w->Q' (.panic c) a w) (ho:LetsOut Q->LetsOut Q'):o.wp P a w K Q':=by
 unfold Oper.wp at *;generalize (execOp a.eval o).run P w=r at *;unfold Oper.upon at *;split at h
 ·exact h
 ·exact h
 ·exact h
 ·refine h.mono ?_;intro e w' he;cases e with
  | returned v=>exact he
  | panicked c=>exact hq _ _ _ he
  | outgrown=>exact ho he
 ·exact h
 ·exact hq _ _ _ h
 ·exact h.elim
theorem dm {P:Program} {w:World} {ops:Array Oper} {o:Oper} {a:Act} {K:Act->World->Prop} {Q:Exit->Act->World->Prop} {E:Prop} (hgd:o.guard=none)
  (h:∀Q':Exit->Act->World->Prop,(∀a' w',K a' w'->Q' .normal a' w')->wpList P ops Q' [o] a w) :
  if Region.wanted o (yielded ops a.tmps)=true then Oper.wp P o a w K Q else E:=by
 rw [aA (by simp [Region.wanted,hgd])];have hh:=h (λe a' w'=>match e with | .normal=>K a' w' | _=>False) (λ_ _ k=>k);unfold wpList at hh;rw [aA (by simp [Region.wanted,hgd])] at hh;rcases hh with hh | ⟨_,a',w',hh⟩
 ·exact Cc (Oper.wp_mono (λa w k=>k) hh) (λc a w hq=>hq.elim) (λ⟨a',w',h2⟩=>h2.elim)
 ·exact hh.elim
open Go.ChangeMaps Go.WideMaps Go.Maps
section
variable {P:Program} {w:World} {r bm since last clock:Nat} {ty:TypeId}
theorem uE {seen:Array Nat} (hr:w.heap[r]? = some (.mapIter (some bm) since seen last)) (hb:w.heap[bm]? = some (.map #[] clock)) :
  (Instr.next (.pointer (some ⟨r,0,none⟩)) false ty).run P w = .ok (.tuple #[.bool false]) w:=by
 simp [Instr.next,getObj,Sem.run_bind,Sem.run,hr,hb,Result.andThen,choose,Question.forced]
theorem yR {e:MapEntry} (hr:w.heap[r]? = some (.mapIter (some bm) since #[] last)) (hb:w.heap[bm]? = some (.map #[e] clock)) (he:e.born<since) :
  (Instr.next (.pointer (some ⟨r,0,none⟩)) false ty).run P w = .ok (.tuple #[.bool true,e.key,e.val]) (setBlock w r (.mapIter (some bm) since #[e.born] clock)):=by
 have h1:¬since<=e.born:=by omega
 have h2:(#[e].filter (λx=>decide (x.born<since)))=#[e]:=by simp [he]
 simp [Instr.next,getObj,setObj,Sem.run_bind,Sem.run,hr,hb,Result.andThen,choose,Question.forced,he,h1,setBlock]
theorem yS {e:MapEntry} (hr:w.heap[r]? = some (.mapIter (some bm) since #[e.born] last)) (hb:w.heap[bm]? = some (.map #[e] clock)) (he:e.born<last) :
  (Instr.next (.pointer (some ⟨r,0,none⟩)) false ty).run P w = .ok (.tuple #[.bool false]) w:=by
 have h1:¬last<=e.born:=by omega
 simp [Instr.next,getObj,Sem.run_bind,Sem.run,hr,hb,Result.andThen,choose,Question.forced,h1]
theorem wV {e:MapEntry} (hr:w.heap[r]? = some (.mapIter (some bm) since #[e.born] clock)) (hb:w.heap[bm]? = some (.map #[e] clock)) :
  (Instr.entry (.pointer (some ⟨r,0,none⟩))).run P w = .ok (.tuple #[e.key,e.val]) w:=by
 simp [Instr.entry,getObj,Sem.run_bind,Sem.run,hr,hb,Result.andThen]
end
end Go.Proofs.YtnhefallmioefaaGreat
namespace Go.Proofs.YtnhefallmioefaaGreat.Crc
def Dl (c:BitVec 32):BitVec 32:=(c >>> 1) ^^^ (0xEDB88320#32 &&& (0#32 - (c &&& 1#32)))
def oM:Nat->BitVec 32->BitVec 32
 | 0,c=>c
 | n+1,c=>oM n (Dl c)
def Db (x:UInt8):BitVec 32:=BitVec.ofNat 32 x.toNat
def DJ (c:BitVec 32) (x:UInt8):BitVec 32:=oM 8 (c ^^^ Db x)
def go (c:BitVec 32) (l:List UInt8):BitVec 32:=l.foldl DJ c
def CY:BitVec 32 := ~~~ 0#32
def si (l:List UInt8):BitVec 32 := ~~~ (go CY l)
theorem sT (n:Nat) (c:BitVec 32):oM (n+1) c=Dl (oM n c):=by
 induction n generalizing c with
 | zero=>rfl
 | succ n ih=>show oM (n+1) (Dl c)=_;rw [ih];rfl
theorem pj (c:BitVec 32) (l m:List UInt8):go c (l++m)=go (go c l) m:=by simp [go]
theorem Cq (a:BitVec 32) : ~~~ a=a ^^^ CY:=by unfold CY;rw [show (~~~ 0#32)=BitVec.allOnes 32 from by decide,BitVec.xor_allOnes]
def DG (T:List UInt8) (k:Nat):List UInt8:=T.take k++List.replicate (T.length - k) 0
end Go.Proofs.YtnhefallmioefaaGreat.Crc
namespace Go.Proofs.YtnhefallmioefaaGreat.F
open Go.Proofs.YtnhefallmioefaaGreat
open Go.RowKit
theorem kD (a b:BitVec 32):bits .xor .u32 (a.toNat:Int) (b.toNat:Int)=((a ^^^ b).toNat:Int):=by
 rw [u32_xor_nat _ _ a.isLt b.isLt,BitVec.toNat_xor]
theorem oa (a b:BitVec 32):bits .and .u32 (a.toNat:Int) (b.toNat:Int)=((a &&& b).toNat:Int):=by
 rw [u32_and_nat _ _ a.isLt b.isLt,BitVec.toNat_and]
theorem yl (c:BitVec 32):bits .xor .u32 ((c.toNat:Int) / 2) (bits .and .u32 3988292384 (-bits .and .u32 (c.toNat:Int) 1 % 4294967296))=((Crc.Dl c).toNat:Int):=by
 have h1:=oa c 1#32;have h2:((1#32).toNat:Int)=1:=rfl;rw [h2] at h1;have h3 : -((c &&& 1#32).toNat:Int) % 4294967296=((0#32 - (c &&& 1#32)).toNat:Int):=by
  have:=(c &&& 1#32).isLt;rw [BitVec.toNat_sub];simp only [jT];omega
 have h4:=oa 3988292384#32 (0#32 - (c &&& 1#32));have h5:((3988292384#32).toNat:Int)=3988292384:=rfl;rw [h5] at h4;have h6:(c.toNat:Int) / (2:Int)=((c >>> 1).toNat:Int):=by
  rw [BitVec.toNat_ushiftRight,Nat.shiftRight_eq_div_pow];omega
 rw [h1,h3,h4,h6,kD];rfl
theorem z9 (c:BitVec 32) (x:UInt8):bits .xor .u32 (c.toNat:Int) ((x.toNat:Int) % 4294967296)=((c ^^^ Crc.Db x).toNat:Int):=by
 have hx:=x.toNat_lt;have:(x.toNat:Int) % 4294967296=((Crc.Db x).toNat:Int):=by
  unfold Crc.Db;rw [jT];omega
 rw [this,kD]
theorem ny (c:BitVec 32):bits .xor .u32 IntKind.u32.max (c.toNat:Int)=((~~~ c).toNat:Int):=by
 have h:=kD (~~~ 0#32) c;have h5:(((~~~ 0#32:BitVec 32)).toNat:Int)=IntKind.u32.max:=by decide
 rw [h5] at h;rw [h,Crc.Cq c,BitVec.xor_comm];rfl
theorem lz (ls:List (List UInt8)) (k:Nat) (h:k<ls.length):(ls.take (k+1)).flatten=(ls.take k).flatten++ls.getD k []:=by
 rw [dl h,List.flatten_append];simp [h]
theorem mQ (l:List UInt8) (k:Nat) (h:k<l.length):l.take (k+1)=l.take k++[l.getD k 0]:=by
 rw [dl h];simp [h]
theorem pH {a b:Int} (h:a=b):Value.int .u32 a=Value.int .u32 b:=by rw [h]
theorem uq {a b:Int} (h:a=b):Ending.returned (Value.int .u32 a) = .returned (Value.int .u32 b):=by rw [h]
set_option maxHeartbeats 400000 in
theorem uC (len:Nat) (ls:List (List UInt8)) (b off cap:Nat) (w:World) (hlen:ls.length=len) (hm:len<=140737488351232)
  (hc:∀i,i<len->∃a n c,w.cell? ⟨b,off+i,none⟩=some (.slice a n c)/\IsB w a n c (ls.getD i [])/\n<=140737488351232) :
  Calls Tryz.prog 102 #[.slice (some ⟨b,off,none⟩) len cap] w λe w'=>e = .returned (.int .u32 ((Crc.si ls.flatten).toNat:Int))/\w=w':=by
 have HL:=ab hlen;clear hlen;go_enter Tryz.func102,Tryz.ntmps102
 go_wp2
 go_loop [3,10] (λc i=>∃k:Nat,k<=len/\i = .int .i64 k/\c = .int .u32 ((Crc.go Crc.CY (ls.take k).flatten).toNat:Int)) (λ_ i=>len - (intOf i).toNat)
 case atStart=>exact ⟨0,aH _,rfl,rfl⟩
 case round =>
  obtain ⟨k,hk,rfl,rfl⟩:=hrel;by_cases hlt:k<len
  ·obtain ⟨a,n,c,hcell,hb,hn⟩:=hc k hlt;have hfl:=lz ls k (by rw [HL.out];exact hlt);generalize ls.getD k []=l at hb hfl;have HF:=ab hfl;have HB:=ab hb;clear hb hfl;go_wp2
   go_loop [3,16] (λc i=>∃j:Nat,j<=n/\i = .int .i64 j/\c = .int .u32 ((Crc.go (Crc.go Crc.CY (ls.take k).flatten) (l.take j)).toNat:Int)) (λ_ i=>n - (intOf i).toNat)
   case atStart=>exact ⟨0,aH _,rfl,rfl⟩
   case round =>
    obtain ⟨j,hj,rfl,rfl⟩:=hrel;by_cases hltj:j<n
    ·obtain ⟨hbl,_,hba⟩:=HB.out;rcases hba with h0 | ⟨b1,off1,rfl,hcb⟩
     ·omega
     have hcj:=hcb j hltj;have ht:=mQ _ j (by rw [hbl];exact hltj);generalize l.getD j 0=x at hcj ht;have HT:=ab ht;clear hcb hbl ht;go_wp2
     go_loop [3,24] (λc i=>∃t:Nat,t<=8/\i = .int .i64 t/\c = .int .u32 ((Crc.oM t (Crc.go (Crc.go Crc.CY (ls.take k).flatten) (l.take j) ^^^ Crc.Db x)).toNat:Int)) (λ_ i=>8 - (intOf i).toNat)
     case atStart=>exact ⟨0,by omega,rfl,pH (z9 _ _)⟩
     case round =>
      obtain ⟨t,ht,rfl,rfl⟩:=hrel;by_cases hlt8:t<8
      ·go_wp2
       go_round
       case rel=>exact ⟨t+1,by omega,by go_num,pH (by rw [yl,Crc.sT])⟩
       case measure=>simp [intOf];omega
      ·go_wp2
       go_round
       case rel =>
        obtain rfl:t=8:=by omega
        exact ⟨j+1,by omega,by go_num,pH (by rw [HT.out,Crc.pj];rfl)⟩
       case measure=>simp [intOf];omega
    ·go_wp2
     go_round
     case rel =>
      obtain rfl:j=n:=by omega
      exact ⟨k+1,by omega,by go_num,pH (by rw [HF.out,Crc.pj,aZ (l:=l) (by rw [HB.out.len];exact ah _)])⟩
     case measure=>simp [intOf];omega
  ·go_wp2
   go_ret
   obtain rfl:k=len:=by omega
   exact ⟨uq (by rw [ny,aZ (by rw [HL.out];exact ah _)];rfl),rfl⟩
theorem iI:(Tryz.prog.info? 5).map (λi=>(i.zero,i.size,i.bytes))=some (some (.int .u8 0),1,1):=by kernel_rfl
def b4 (c:BitVec 32) (i:Nat):UInt8:=UInt8.ofNat (c.toNat / 2 ^ (8*(3 - i)))
def lw (c:BitVec 32):List UInt8:=[b4 c 0,b4 c 1,b4 c 2,b4 c 3]
theorem mJ (c:BitVec 32):(lw c).length=4:=rfl
theorem uW (c:BitVec 32) (i:Nat) (hi:i<4) (d:Int) (hd:d=((2 ^ (8*(3 - i)):Nat):Int)):(c.toNat:Int) / d % 256=((b4 c i).toNat:Int):=by
 subst hd;unfold b4;rw [Dz,Int.natCast_emod,Int.natCast_ediv];rfl
theorem BS (c:BitVec 32):(c.toNat:Int) % 256=((b4 c 3).toNat:Int):=by
 have:=uW c 3 (by decide) 1 (by decide)
 rwa [Int.ediv_one] at this
def p8 (x0 x1 x2 x3:UInt8):BitVec 32:=BitVec.ofNat 32 (x0.toNat*16777216+x1.toNat*65536+x2.toNat*256+x3.toNat)
theorem gQ (x0 x1 x2 x3:UInt8):(p8 x0 x1 x2 x3).toNat=x0.toNat*16777216+x1.toNat*65536+x2.toNat*256+x3.toNat:=by
 unfold p8;have h0:=x0.toNat_lt;have h1:=x1.toNat_lt;have h2:=x2.toNat_lt;have h3:=x3.toNat_lt;rw [jT,Nat.mod_eq_of_lt (by omega)]
def jk (l:List UInt8) (i:Nat):BitVec 32:=p8 (l.getD i 0) (l.getD (i+1) 0) (l.getD (i+2) 0) (l.getD (i+3) 0)
theorem CO (c:BitVec 32):#[Value.int .u8 ((c.toNat:Int) / 16777216),Value.int .u8 ((c.toNat:Int) / 65536 % 256),Value.int .u8 ((c.toNat:Int) / 256 % 256),Value.int .u8 ((c.toNat:Int) % 256)]=((lw c).map bv).toArray:=by
 have hlt:=c.isLt;rw [show (c.toNat:Int) / 16777216=(c.toNat:Int) / 16777216 % 256 by omega,uW c 0 (by decide) 16777216 (by decide),uW c 1 (by decide) 65536 (by decide),uW c 2 (by decide) 256 (by decide),BS c];rfl
set_option maxHeartbeats 400000 in
theorem kv (base:Nat) (v:Value) (l:List UInt8) (c:BitVec 32) (w:World) (h:OwnB w base 5 v l) (hl:l.length<=70368744177664) (hb:base<=w.heap.size) :
  Calls Tryz.prog 104 #[v,.int .u32 (c.toNat:Int)] w λe w'=>∃v',e = .returned v'/\OwnB w' base 5 v' (l++lw c)/\Below base w w':=by
 have hlt:=c.isLt;have hc1:l.length+4<=140737488355328:=by omega
 have HC:=ab (CO c);have HO:=ab h;clear h;have h0:(0:Int)<=(c.toNat:Int):=by omega
 have h1:(c.toNat:Int)<4294967296:=by omega
 generalize (c.toNat:Int)=z at HC h0 h1;clear hlt;go_enter Tryz.func104,Tryz.ntmps104
 go_wp2_with (at_builtin;refine cJ rfl _ _ 31 rfl base 5 Tryz.underlying31 iI _ _ rfl (HO.out.alloc _) _ _ _ (lw c) rfl (qe _ (lw c) _ HC.out _ _ _ rfl 4 rfl _) hc1 (by simp;omega) ?_;intro v3 w3 hown3 hgr3 hb4)
 go_ret
 exact ⟨_,rfl,hown3,((az _ _).alloc hb _).trans hb4⟩
theorem tu (a b k:Nat) (h:b<2 ^ k):a*2 ^ k ||| b=a*2 ^ k+b:=by
 have:=Nat.shiftLeft_add_eq_or_of_lt (i:=k) h a;rw [Nat.shiftLeft_eq] at this;exact this.symm
theorem DH (x0 x1 x2 x3:UInt8):bits .or .u32 (bits .or .u32 (bits .or .u32 ((x0.toNat:Int) % 4294967296*16777216 % 4294967296) ((x1.toNat:Int) % 4294967296*65536 % 4294967296)) ((x2.toNat:Int) % 4294967296*256 % 4294967296)) ((x3.toNat:Int) % 4294967296)=((p8 x0 x1 x2 x3).toNat:Int):=by
 have h0:=x0.toNat_lt;have h1:=x1.toNat_lt;have h2:=x2.toNat_lt;have h3:=x3.toNat_lt;rw [gQ];generalize x0.toNat=a at *;generalize x1.toNat=b at *;generalize x2.toNat=c at *;generalize x3.toNat=d at *;rw [show (a:Int) % 4294967296*16777216 % 4294967296=((a*16777216:Nat):Int) by omega,show (b:Int) % 4294967296*65536 % 4294967296=((b*65536:Nat):Int) by omega,
  show (c:Int) % 4294967296*256 % 4294967296=((c*256:Nat):Int) by omega,show (d:Int) % 4294967296=((d:Nat):Int) by omega]
 have e1:a*16777216 ||| b*65536=a*16777216+b*65536:=tu a (b*65536) 24 (by omega);have e2:(a*256+b)*65536 ||| c*256=(a*256+b)*65536+c*256:=tu _ (c*256) 16 (by omega);have e3:(a*65536+b*256+c)*256 ||| d=(a*65536+b*256+c)*256+d:=tu _ d 8 (by omega);rw [u32_or_nat _ _ (by omega) (by omega),e1,show a*16777216+b*65536=(a*256+b)*65536 by omega,u32_or_nat _ _ (by omega) (by omega),e2,
  show (a*256+b)*65536+c*256=(a*65536+b*256+c)*256 by omega,u32_or_nat _ _ (by omega) (by omega),e3]
set_option maxHeartbeats 400000 in
theorem uf (ao:Option Addr) (n cp:Nat) (l:List UInt8) (i:Nat) (w:World) (h:IsB w ao n cp l) (hn:n<=70368744177664) (hi:i+4<=n) :
  Calls Tryz.prog 101 #[.slice ao n cp,.int .i64 (i:Int)] w λe w'=>∃d,e = .returned (.int .u32 ((jk l i).toNat:Int))/\w'=w.drewN d:=by
 obtain ⟨b,off,rfl,hc⟩:∃b off,ao=some ⟨b,off,none⟩/\∀i,i<n->w.cell? ⟨b,off+i,none⟩=some (.int .u8 ((l.getD i 0).toNat:Int)):=by
  rcases h.at_ with h0 | h0
  ·omega
  ·exact h0
 have c0:=hc i (by omega);have c1:=hc (i+1) (by omega);have c2:=hc (i+2) (by omega);have c3:=hc (i+3) (by omega);clear h hc;have hnum:=gQ (l.getD i 0) (l.getD (i+1) 0) (l.getD (i+2) 0) (l.getD (i+3) 0);have HV:=ab (show jk l i=p8 (l.getD i 0) (l.getD (i+1) 0) (l.getD (i+2) 0) (l.getD (i+3) 0) from rfl);generalize l.getD i 0=x0 at *;generalize l.getD (i+1) 0=x1 at *;generalize l.getD (i+2) 0=x2 at *;generalize l.getD (i+3) 0=x3 at *;have HN:=ab hnum;clear hnum;go_enter Tryz.func101,Tryz.ntmps101
 go_wp2_with fail
 go_quiet (fail)
 go_wp2_with fail
 go_ret
 exact ⟨nq,uq (by rw [HV.out];exact DH _ _ _ _),rfl⟩
set_option maxHeartbeats 400000 in
theorem dd (ao:Option Addr) (n c:Nat) (l:List UInt8) (w:World) (h:IsB w ao n c l) (hn:n<=70368744177664) :
  Calls Tryz.prog 48 #[.slice ao n c] w λe w'=>∃v',e = .returned v'/\OwnB w' w.heap.size 5 v' l/\Below w.heap.size w w':=by
 have hc0:([]:List UInt8).length+n<=140737488355328:=by simp;omega
 have HO:=ab h;clear h;have hnil:=λ(w:World)=>Lib.run_eql_slice_nil (P:=Tryz.prog) w 31 5 ao n c 0 0 Tryz.underlying31;cases ao with
 | none =>
  obtain ⟨rfl,rfl⟩:=HO.out.nil rfl;obtain rfl:l=[]:=br.1 HO.out.len;go_enter Tryz.func48,Tryz.ntmps48
  go_wp2_with fail
  go_ret
  exact ⟨_,rfl,OwnB.nil _ _ _,az _ _⟩
 | some a =>
  go_enter Tryz.func48,Tryz.ntmps48
  go_wp2_with (at_builtin;refine cJ rfl _ _ 31 rfl w.heap.size 5 Tryz.underlying31 iI _ [] rfl (OwnB.new _ _ _ [] _ rfl _ rfl (by exact ah _) 0 rfl (by decide)) _ _ _ _ rfl (HO.out.alloc _) hc0 (by simp) ?_;intro v2 w2 hown2 hgr2 hb2;clear hgr2)
  go_ret
  exact ⟨_,rfl,by simpa using hown2,((az _ _).alloc (ah _) _).trans hb2⟩
end Go.Proofs.YtnhefallmioefaaGreat.F
