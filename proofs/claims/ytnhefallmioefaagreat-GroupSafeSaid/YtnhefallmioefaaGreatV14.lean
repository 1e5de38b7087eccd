/-
  What the proof of the law leans on: contracts of the program's functions, one behind another. No condition.
-/
import Derived.Test.YtnhefallmioefaaGreatV0
import Derived.Shelf.RegionOpenPlain
import Derived.Test.YtnhefallmioefaaGreatV13
import Derived.Test.YtnhefallmioefaaGreatV11
set_option linter.unusedVariables false
set_option linter.unusedSimpArgs false
namespace Go.Proofs.YtnhefallmioefaaGreat
open Go.RowKit Go.ChangeMaps Go.WideMaps Go.Maps
set_option maxRecDepth 20000
theorem jV {P:Program} (w:World) (t ty e:TypeId) (i:TypeInfo) (ht:P.underlying t=some (.slice e)) (hi:P.info? e=some i)
  (g off sLen sCap:Nat) (cur:Array Value) (hg:w.heap[g]? = some (.cells cur e (0,0)))
  (a:Addr) (m c:Nat) (news:List Value) (hl:news.length=m*i.size) (hnews:∀j u,news[j]? = some u->w.cell? (a.add j)=some u) (h1:∀u∈news,u.oneCell'=true)
  (hroom:sLen+m<=sCap) (hfit:off+sLen*i.size+news.length<=cur.size) :
  (Builtin.append_ #[t,t] ty #[.slice (some ⟨g,off,none⟩) sLen sCap,.slice (some a) m c]).run P w =
   .ok (.slice (some ⟨g,off,none⟩) (sLen+m) sCap) (w.setRow g (cur.toList.take (off+sLen*i.size)++news++cur.toList.drop (off+sLen*i.size+news.length)).toArray):=by
 have hf:=run_firstCells_some (P:=P) w i.size m a m c news hl hnews;have hst:=run_storeCells_at P g (off+sLen*i.size) e news 0 cur w hg (by simpa using hfit) h1;simp only [fL] at hst;simp [Builtin.append_,run_underlying ht,sizeOf,typeInfo,hi,Builtin.lenOf,hroom,hf,Addr.add_lit,hst]
def qy (v:Value):Prop:=∀p n c,v = .slice (some p) n c->p.off=0
structure QAt (w:World) (A:List Nat) (cur:Array Value) (i:Nat) (m:Msg):Prop where
 ex:∃v u,cur[i*5]? = some (.int .i64 m.frm)/\cur[i*5+1]? = some (.int .i64 m.dst)/\cur[i*5+2]? = some (.int .i64 m.kind)/\cur[i*5+3]? = some v/\cur[i*5+4]? = some u/\IsMsg w A m v u
def IsQ (w:World) (A Y:List Nat) (v:Value) (ms:List Msg):Prop :=
 (v = .slice none 0 0/\ms=[])\/∃g off c cur,v = .slice (some ⟨g,off*5,none⟩) ms.length c/\ms.length<=c/\c<=9223372036854775807/\g∈Y/\w.heap[g]? = some (.cells cur 83 (0,0))/\(off+c)*5<=cur.size/\∀i,(h:i<ms.length)->QAt w A cur (off+i) ms[i]
section
variable {w w':World} {A A' Y Y':List Nat} {v:Value} {ms:List Msg}
theorem QAt.step {cur:Array Value} {i:Nat} {m:Msg} {S:List Nat} (h:QAt w A cur i m) (ho:Only S w w') (hS:∀b∈S,b∈A) (he:Ext A A' w):QAt w' A' cur i m:=by
 obtain ⟨v,u,h1,h2,h3,h4,h5,h6⟩:=h;exact ⟨v,u,h1,h2,h3,h4,h5,h6.step ho hS he⟩
theorem IsQ.keep {S:List Nat} (h:IsQ w A Y v ms) (ho:Only S w w') (hS:∀b∈S,b∈A) (hd:∀b∈Y,∀cur,w.heap[b]? = some (.cells cur 83 (0,0))->b∉S) (he:Ext A A' w) (hY:∀b∈Y,b∈Y'):IsQ w' A' Y' v ms:=by
 rcases h with h | ⟨g,off,c,cur,h1,h2,h3,h4,h5,h6,h7⟩
 ·exact .inl h
 ·exact .inr ⟨g,off,c,cur,h1,h2,h3,hY g h4,ho.keeps h5 (hd g h4 cur h5),h6,λi hi=>(h7 i hi).step ho hS he⟩
theorem IsQ.shape (h:IsQ w A Y v ms):∃ao c,v = .slice ao ms.length c/\ms.length<=c/\c<=9223372036854775807/\(ao=none->c=0)/\∀p,ao=some p->∃g off,p=⟨g,off,none⟩:=by
 rcases h with ⟨rfl,rfl⟩ | ⟨g,off,c,cur,h1,h2,h3,_⟩
 ·exact ⟨none,0,rfl,ah _,by decide,λ_=>rfl,(λp hp=>by cases hp)⟩
 ·exact ⟨_,c,h1,h2,h3,(λe=>by cases e),(λp hp=>by cases hp;exact ⟨g,off*5,rfl⟩)⟩
structure QP (w w':World) (A Y:List Nat) (v':Value) (ms:List Msg):Prop where
 ex:∃A' Y',IsQ w' A' Y' v' ms/\Mv A A' Y Y' w w'/\(∀b∈A',b<w'.heap.size)/\(∀b∈Y',b∈A')/\(∀b∈Y',b∈Y\/(w.heap.size<=b/\∃cur,w'.heap[b]? = some (.cells cur 83 (0,0))))/\∃T,Only T w w'/\∀b∈T,b∈Y/\∃cur,w.heap[b]? = some (.cells cur 83 (0,0))
theorem yX {m:Msg} {mv mu:Value} (h:IsMsg w A m mv mu):∀y∈[Value.int .i64 m.frm,.int .i64 m.dst,.int .i64 m.kind,mv,mu],y.oneCell'=true:=by
 intro y hy;simp only [bg,gp,or_false] at hy;rcases hy with rfl | rfl | rfl | rfl | rfl
 ·rfl
 ·rfl
 ·rfl
 ·exact h.one.1
 ·exact h.one.2
theorem QP.fresh {n cap:Nat} {cells:List Value} {ms':List Msg} (hYA:∀b∈Y,b∈A) (hA:∀b∈A,b<w.heap.size) (rest:Array Value) (hn:n=ms'.length) (hcap:n<=cap) (hc9:cap<=9223372036854775807) (hsz:cap*5<=cells.length+rest.size)
  (hq:∀i,(h:i<ms'.length)->∃v u,cells[i*5]? = some (.int .i64 ms'[i].frm)/\cells[i*5+1]? = some (.int .i64 ms'[i].dst)/\cells[i*5+2]? = some (.int .i64 ms'[i].kind)/\cells[i*5+3]? = some v/\cells[i*5+4]? = some u/\IsMsg w A ms'[i] v u) :
  QP w (w.drew.alloc (.cells (cells.toArray++rest) 83)) A Y (.slice (some ⟨w.heap.size,0,none⟩) n cap) ms':=by
 have hb:Below w.heap.size w (w.drew.alloc (.cells (cells.toArray++rest) 83)):=(ak w 1).alloc (ah _) _;have hnew:(w.drew.alloc (.cells (cells.toArray++rest) 83)).heap[w.heap.size]? = some (.cells (cells.toArray++rest) 83 (0,0)):=aK w.drew _;have hext:Ext A (A++[w.heap.size]) w:=λb hb=>by
  rcases ap.1 hb with h | h
  ·exact .inl h
  ·exact .inr (by rw [aj.1 h];exact ah _)
 refine ⟨A++[w.heap.size],Y++[w.heap.size],.inr ⟨w.heap.size,0,cap,_,by rw [Nat.zero_mul,hn],by omega,hc9,by simp,hnew,by simp;omega,λi hi=>?_⟩,⟨⟨Only.ofBelow hb Y,λb hb=>?_,λb hb=>aG _ hb⟩,hext,λb hb=>aG _ hb⟩,λb hb=>?_,λb hb=>?_,λb hb=>?_,[],Only.ofBelow hb [],(λb hb=>by cases hb)⟩
 ·obtain ⟨v,u,h1,h2,h3,h4,h5,h6⟩:=hq i hi;have hg:∀{j:Nat} {x:Value},cells[j]? = some x->(cells.toArray++rest)[j]? = some x:=λ{j x} hj=>by
   have hlt:=(jh.1 hj).1;rw [ee (by simpa using hlt)];simpa using hj
  rw [cy];exact ⟨v,u,hg h1,hg h2,hg h3,hg h4,hg h5,h6.step (Only.ofBelow hb []) (λb hb=>by cases hb) hext⟩
 ·rcases ap.1 hb with h | h
  ·exact .inl h
  ·exact .inr (by rw [aj.1 h];exact ah _)
 ·rcases ap.1 hb with h | h
  ·exact aE (hA b h) (by simp)
  ·rw [aj.1 h];simp
 ·rcases ap.1 hb with h | h
  ·exact aG _ (hYA b h)
  ·exact aO _ h
 ·rcases ap.1 hb with h | h
  ·exact .inl h
  ·rw [aj.1 h];exact .inr ⟨ah _,_,hnew⟩
theorem Aj (h:IsQ w A Y v ms) (hYA:∀b∈Y,b∈A) (hA:∀b∈A,b<w.heap.size) {H:Nat} {m:Msg} {mv mu:Value} (hH:w.heap[H]? = some (.cells #[.int .i64 m.frm,.int .i64 m.dst,.int .i64 m.kind,mv,mu] 83 (0,0))) (hm:IsMsg w A m mv mu) (hb:ms.length<=1000000) (ty:TypeId) :
  ∃v' w',(Builtin.append_ #[64,64] ty #[v,.slice (some ⟨H,0,none⟩) 1 1]).run Tryz.prog w = .ok v' w'/\QP w w' A Y v' (ms++[m])/\(qy v->qy v'):=by
 obtain ⟨i0,hi0,hz0,hz1,hz2⟩:=info_parts tP;have hnews:∀j x,([Value.int .i64 m.frm,.int .i64 m.dst,.int .i64 m.kind,mv,mu]:List Value)[j]? = some x->w.cell? ((⟨H,0,none⟩:Addr).add j)=some x:=by
  intro j x hj;rw [Addr.add_lit,cy,af hH]
  match j,hj with
  | 0,hj=>simpa using hj
  | 1,hj=>simpa using hj
  | 2,hj=>simpa using hj
  | 3,hj=>simpa using hj
  | 4,hj=>simpa using hj
  | j+5,hj=>simp at hj
 rcases h with ⟨rfl,rfl⟩ | ⟨g,off,c,cur,rfl,h2,h3,h4,h5,h6,h7⟩
 ·have hr:=run_append_nil (P:=Tryz.prog) (w:=w) 64 ty 83 i0 (.agg #[.int .i64 0,.int .i64 0,.int .i64 0,.slice none 0 0,.slice none 0 0]) Tryz.underlying64 hi0 hz0 ⟨H,0,none⟩ 1 1 [.int .i64 m.frm,.int .i64 m.dst,.int .i64 m.kind,mv,mu] (by rw [hz1];rfl) hnews (by omega) (by omega) (by rw [hz2];omega);refine ⟨_,_,hr,QP.fresh hYA hA _ rfl (by simpa using grownCap_ge w 1 0 83) (aD (grownCap_le_maxLen w 1 0 83 (by unfold maxLen;omega)) (by unfold maxLen;omega)) ?_ (λi hi=>?_),λ_ p n c e=>by cases e;rfl⟩
  ·rw [size_zeroCells];have:=grownCap_ge w 1 0 83;simp [Value.cells];omega
  ·obtain rfl:i=0:=by simp at hi;omega
   exact ⟨mv,mu,rfl,rfl,rfl,rfl,rfl,hm⟩
 ·have hcells:∀j x,((cur.toList.drop (off*5)).take (ms.length*5))[j]? = some x->cur[off*5+j]? = some x:=λj x hj=>by
   rw [cE] at hj;split at hj
   ·rw [fj,ew] at hj;exact hj
   ·cases hj
  have hcur:∀{j:Nat} {x:Value},j<ms.length*5->cur[off*5+j]? = some x->((cur.toList.drop (off*5)).take (ms.length*5))[j]? = some x:=λ{j x} hj hx=>by
   rw [cE,aA hj,fj,ew];exact hx
  have hlo:((cur.toList.drop (off*5)).take (ms.length*5)).length=ms.length*5:=by
   simp only [aI,bz,oJ];omega
  by_cases hroom:ms.length+1<=c
  ·have hr:=jV (P:=Tryz.prog) w 64 ty 83 i0 Tryz.underlying64 hi0 g (off*5) ms.length c cur h5 ⟨H,0,none⟩ 1 1 [.int .i64 m.frm,.int .i64 m.dst,.int .i64 m.kind,mv,mu] (by rw [hz1];rfl) hnews (yX hm) hroom (by rw [hz1];simp;omega);rw [hz1] at hr;refine ⟨_,_,hr,⟨A,Y,.inr ⟨g,off,c,_,by simp,by simpa using hroom,h3,h4,setRow_heap _ _ _ _ _ _ h5,by simp;omega,λi hi=>?_⟩,Mv.only (dv _ _ _) (λb hb=>by rw [aj.1 hb];exact h4),λb hb=>by simpa using hA b hb,hYA,λb hb=>.inl hb,[g],dv _ _ _,λb hb=>by rw [aj.1 hb];exact ⟨h4,cur,h5⟩⟩,λh0 p n c e=>by cases e;exact h0 _ _ _ rfl⟩;have hst:Only [g] w (w.setRow g (cur.toList.take (off*5+ms.length*5)++[.int .i64 m.frm,.int .i64 m.dst,.int .i64 m.kind,mv,mu]++cur.toList.drop (off*5+ms.length*5+([.int .i64 m.frm,.int .i64 m.dst,.int .i64 m.kind,mv,mu]:List Value).length)).toArray):=dv _ _ _;have hgA:∀b∈[g],b∈A:=λb hb=>by rw [aj.1 hb];exact hYA g h4
   by_cases hlt:i<ms.length
   ·have e:(ms++[m])[i]=ms[i]:=by simp [uZ,hlt]
    rw [e];obtain ⟨v,u,k1,k2,k3,k4,k5,k6⟩:=h7 i hlt;have hg:∀{j:Nat} {x:Value},j<off*5+ms.length*5->cur[j]? = some x->(cur.toList.take (off*5+ms.length*5)++[.int .i64 m.frm,.int .i64 m.dst,.int .i64 m.kind,mv,mu]++cur.toList.drop (off*5+ms.length*5+([.int .i64 m.frm,.int .i64 m.dst,.int .i64 m.kind,mv,mu]:List Value).length)).toArray[j]? = some x:=λ{j x} hj hx=>by
     have hl:(cur.toList.take (off*5+ms.length*5)).length=off*5+ms.length*5:=by simp only [aI,oJ];omega
     rw [gZ,bD,cI (by rw [hl];exact hj),cE,aA hj,ew];exact hx
    exact ⟨v,u,hg (by omega) k1,hg (by omega) k2,hg (by omega) k3,hg (by omega) k4,hg (by omega) k5,k6.step hst hgA (Ext.refl _ _)⟩
   ·obtain rfl:i=ms.length:=by simp at hi;omega
    have e:(ms++[m])[ms.length]=m:=by simp
    rw [e];have hg:∀(j:Nat),j<5->(cur.toList.take (off*5+ms.length*5)++[.int .i64 m.frm,.int .i64 m.dst,.int .i64 m.kind,mv,mu]++cur.toList.drop (off*5+ms.length*5+([.int .i64 m.frm,.int .i64 m.dst,.int .i64 m.kind,mv,mu]:List Value).length)).toArray[(off+ms.length)*5+j]? = ([Value.int .i64 m.frm,.int .i64 m.dst,.int .i64 m.kind,mv,mu]:List Value)[j]? := λj hj=>by
     have hl:(cur.toList.take (off*5+ms.length*5)).length=off*5+ms.length*5:=by simp only [aI,oJ];omega
     rw [gZ,bD,fk (by rw [hl];omega),hl,show (off+ms.length)*5+j - (off*5+ms.length*5)=j by omega,cI (by simpa using hj)]
    exact ⟨mv,mu,hg 0 (by omega),hg 1 (by omega),hg 2 (by omega),hg 3 (by omega),hg 4 (by omega),hm.step hst hgA (Ext.refl _ _)⟩
  ·have hc:c=ms.length:=by omega
   subst hc;have hr:=run_append_grow (P:=Tryz.prog) (w:=w) 64 ty 83 i0 (.agg #[.int .i64 0,.int .i64 0,.int .i64 0,.slice none 0 0,.slice none 0 0]) Tryz.underlying64 hi0 hz0 ⟨g,off*5,none⟩ ms.length ms.length ((cur.toList.drop (off*5)).take (ms.length*5)) (by rw [hz1];exact hlo)
    (λj x hj=>by rw [Addr.add_lit,af h5];exact hcells j x hj) ⟨H,0,none⟩ 1 1 [.int .i64 m.frm,.int .i64 m.dst,.int .i64 m.kind,mv,mu] (by rw [hz1];rfl) hnews (by omega) (by omega) (growslice_fits (by omega) (by rw [hz2];omega))
   have eT:((cur.toList.drop (off*5)).take (ms.length*5)).toArray++([.int .i64 m.frm,.int .i64 m.dst,.int .i64 m.kind,mv,mu]:List Value).toArray=((cur.toList.drop (off*5)).take (ms.length*5)++[.int .i64 m.frm,.int .i64 m.dst,.int .i64 m.kind,mv,mu]).toArray:=by
    apply Array.ext';simp
   rw [eT] at hr;refine ⟨_,_,hr,QP.fresh (ms':=ms++[m]) hYA hA _ (by rw [ay];rfl) (grownCap_ge w (ms.length+1) ms.length 83) (aD (grownCap_le_maxLen w (ms.length+1) ms.length 83 (by unfold maxLen;omega)) (by unfold maxLen;omega)) ?_ (λi hi=>?_),λ_ p n c e=>by cases e;rfl⟩
   ·rw [size_zeroCells,ay,hlo];have:=grownCap_ge w (ms.length+1) ms.length 83;simp [Value.cells];omega
   ·by_cases hlt:i<ms.length
    ·have e:(ms++[m])[i]=ms[i]:=by simp [uZ,hlt]
     rw [e];obtain ⟨v,u,k1,k2,k3,k4,k5,k6⟩:=h7 i hlt;have hg:∀{j:Nat} {x:Value},j<ms.length*5->cur[off*5+j]? = some x->((cur.toList.drop (off*5)).take (ms.length*5)++[.int .i64 m.frm,.int .i64 m.dst,.int .i64 m.kind,mv,mu])[j]? = some x:=λ{j x} hj hx=>by
      rw [cI (by rw [hlo];exact hj)];exact hcur hj hx
     have q:(off+i)*5=off*5+i*5:=by omega
     rw [q] at k1 k2 k3 k4 k5;exact ⟨v,u,hg (by omega) k1,hg (by omega) k2,hg (by omega) k3,hg (by omega) k4,hg (by omega) k5,k6⟩
    ·obtain rfl:i=ms.length:=by simp at hi;omega
     have e:(ms++[m])[ms.length]=m:=by simp
     rw [e];have hg:∀(j:Nat),j<5->((cur.toList.drop (off*5)).take (ms.length*5)++[.int .i64 m.frm,.int .i64 m.dst,.int .i64 m.kind,mv,mu])[ms.length*5+j]? = ([Value.int .i64 m.frm,.int .i64 m.dst,.int .i64 m.kind,mv,mu]:List Value)[j]? := λj hj=>by
      rw [fk (by rw [hlo];omega),hlo,show ms.length*5+j - ms.length*5=j by omega]
     exact ⟨mv,mu,hg 0 (by omega),hg 1 (by omega),hg 2 (by omega),hg 3 (by omega),hg 4 (by omega),hm⟩
theorem ji {ops:Array Oper} {rest:List Oper} {o:Oper} {a:Act} {Q:Exit->Act->World->Prop} (hgd:o.guard=none) (sx x:Operand)
  (ho:o.op = .call { callee:=.builtin .append,args:=#[sx,x],argTypes:=#[64,64]})
  (h:IsQ w A Y v ms) (hYA:∀b∈Y,b∈A) (hA:∀b∈A,b<w.heap.size) {H:Nat} {m:Msg} {mv mu:Value} (hH:w.heap[H]? = some (.cells #[.int .i64 m.frm,.int .i64 m.dst,.int .i64 m.kind,mv,mu] 83 (0,0))) (hm:IsMsg w A m mv mu) (hb:ms.length<=1000000)
  (hs:a.eval sx=v) (hx:a.eval x = .slice (some ⟨H,0,none⟩) 1 1)
  (hk:∀v' w',QP w w' A Y v' (ms++[m])->(qy v->qy v')->wpList Tryz.prog ops Q rest (a.put o.dst v') w'):wpList Tryz.prog ops Q (o::rest) a w:=by
 obtain ⟨v',w',hr,h2,h3⟩:=Aj h hYA hA hH hm hb o.type;refine wpList_plain hgd λK hK=>?_;unfold Oper.wp;simp [execOp,ho,resolve,invoke,builtin,hs,hx,hr,Result.andThen];exact hK _ _ (hk _ _ h2 h3)
end
section
variable {w w':World} {A A' Y Y':List Nat} {v:Value} {ms:List Msg}
end
abbrev Cuts:=List ((Int×Int)×Bool)
structure IsNt (w:World) (A Y:List Nat) (nb mb:Nat) (n:Nat) (qv:Value) (q:List Msg) (es:Cuts):Prop where
 net:w.heap[nb]? = some (de (n:Int) 2000 qv mb)
 cut:IsCut w mb es
 q:IsQ w A Y qv q
 z:qy qv
 nY:nb∈Y
 mY:mb∈Y
 yA:∀b∈Y,b∈A
 alt:∀b∈A,b<w.heap.size
structure NtP (w w':World) (A Y:List Nat) (nb n:Nat) (mb:Nat) (q:List Msg) (es:Cuts):Prop where
 ex:∃A' Y' mb' qv,IsNt w' A' Y' nb mb' n qv q es/\Mv A A' Y Y' w w'/\(∀b∈Y',b∈Y\/w.heap.size<=b)/\(mb'=mb\/w.heap.size<=mb')/\∃T,Only T w w'/\∀b∈T,b∈Y/\(b=nb\/b=mb\/∃cur,w.heap[b]? = some (.cells cur 83 (0,0)))
section
variable {w w' w2:World} {A A' Y Y':List Nat} {nb mb n:Nat} {qv:Value} {q q2:List Msg} {es es2:Cuts}
theorem IsNt.keep {T:List Nat} (h:IsNt w A Y nb mb n qv q es) (ho:Only T w w') (hT:∀b∈T,b∈A) (hY:∀b∈Y,b∉T) (he:Ext A A' w) (hs:∀b∈A,b∈A') (ha:∀b∈A',b<w'.heap.size):IsNt w' A' Y nb mb n qv q es :=
 ⟨ho.keeps h.net (hY _ h.nY),h.cut.only ho (hY _ h.mY),h.q.keep ho hT (λb hb _ _=>hY b hb) he (λb hb=>hb),h.z,h.nY,h.mY,λb hb=>hs b (h.yA b hb),ha⟩
theorem IsNt.below (h:IsNt w A Y nb mb n qv q es) (hb:Below w.heap.size w w'):IsNt w' A Y nb mb n qv q es :=
 h.keep (Only.ofBelow hb []) (λb hb=>by cases hb) (λb _=>by simp) (Ext.refl _ _) (λb hb=>hb) (λb hb2=>aE (h.alt b hb2) hb.size)
theorem IsNt.ntp (h:IsNt w A Y nb mb n qv q es) (hb:Below w.heap.size w w'):NtP w w' A Y nb n mb q es :=
 ⟨A,Y,mb,qv,h.below hb,Mv.below hb,λb hb=>.inl hb,.inl rfl,[],Only.ofBelow hb [],λb hb=>by cases hb⟩
theorem IsNt.setq {v':Value} {q':List Msg} (h:IsNt w A Y nb mb n qv q es) (hp:QP w w' A Y v' q') (hz:qy v'):NtP w (w'.setCell ⟨nb,2,none⟩ v') A Y nb n mb q' es:=by
 obtain ⟨A',Y',hq,hm,ha,hyA,hyn,T,hoT,hT⟩:=hp;have hne:nb∉T:=λhm=>by
  obtain ⟨_,cur,hc⟩:=hT nb hm;rw [h.net] at hc;simp [de] at hc
 have hmT:mb∉T:=λhm=>by
  obtain ⟨_,cur,hc⟩:=hT mb hm;obtain ⟨arr,c,h1,_⟩:=h.cut.map;rw [h1] at hc;simp at hc
 have hc1:=hoT.keeps h.net hne;have hon:Only [nb] w' (w'.setCell ⟨nb,2,none⟩ v'):=(Only.refl _ _).setCell (by simp) _;have hc2:(w'.setCell ⟨nb,2,none⟩ v').heap[nb]? = some (de (n:Int) 2000 v' mb):=by
  unfold de at hc1;rw [aR hc1];rfl
 have hnY':nb∈Y':=hm.mv.sub nb h.nY;have hmm:mb≠nb:=λe=>by
  obtain ⟨arr,c,h1,_⟩:=h.cut.map;rw [e,h.net] at h1;simp [de] at h1
 refine ⟨A',Y',mb,v',⟨hc2,(h.cut.only hoT hmT).only hon (by simpa using hmm),hq.keep hon (λb hb=>by rw [aj.1 hb];exact hyA _ hnY') (λb hb cur hcur hm=>?_) (Ext.refl _ _) (λb hb=>hb),hz,hnY',hm.mv.sub mb h.mY,hyA,λb hb=>by simpa using ha b hb⟩,
  hm.trans (Mv.only hon (λb hb=>by rw [aj.1 hb];exact hnY')),λb hb=>(hyn b hb).imp id (λg=>g.1),.inl rfl,nb::T,(hoT.mono (λb hb=>aU _ hb)).setCell (p:=⟨nb,2,none⟩) (by simp) v',λb hb=>?_⟩
 ·rw [aj.1 hm,hc1] at hcur;simp [de] at hcur
 ·rcases bg.1 hb with rfl | hb
  ·exact ⟨h.nY,.inl rfl⟩
  ·exact ⟨(hT b hb).1,.inr (.inr (hT b hb).2)⟩
theorem IsNt.recut {es':Cuts} (h:IsNt w A Y nb mb n qv q es) (ho:Only [mb] w w') (hc:IsCut w' mb es'):NtP w w' A Y nb n mb q es':=by
 have hmm:∀{b:Nat} {cs:Array Value} {t:TypeId} {fr:Nat×Nat},w.heap[b]? = some (.cells cs t fr)->b∉[mb]:=λ{b cs t fr} hb hm=>by
  obtain ⟨arr,c,h1,_⟩:=h.cut.map;rw [aj.1 hm,h1] at hb;cases hb
 have hsz:=ho.size;exact ⟨A,Y,mb,qv,⟨ho.keeps h.net (hmm h.net),hc,h.q.keep ho (λb hb=>by rw [aj.1 hb];exact h.yA _ h.mY) (λb _ cur hcur=>hmm hcur) (Ext.refl _ _) (λb hb=>hb),h.z,h.nY,h.mY,h.yA,λb hb=>aE (h.alt b hb) hsz⟩,Mv.only ho (λb hb=>by rw [aj.1 hb];exact h.mY),λb hb=>.inl hb,.inl rfl,[mb],ho,λb hb=>by rw [aj.1 hb];exact ⟨h.mY,.inr (.inl rfl)⟩⟩
end
section
variable {w w':World} {A Y:List Nat} {nb mb n:Nat} {qv:Value} {q:List Msg} {es:Cuts}
theorem IsNt.shape (h:IsNt w A Y nb mb n qv q es):∃ao c,qv = .slice ao q.length c/\w.heap[nb]? = some (de (n:Int) 2000 (.slice ao q.length c) mb):=by
 obtain ⟨ao,c,e,_⟩:=h.q.shape;have:=h.net;rw [e] at this;exact ⟨ao,c,e,this⟩
theorem NtP.later {w3:World} {q2:List Msg} {es2:Cuts} (h:IsNt w A Y nb mb n qv q es) (hb:Below w.heap.size w w3) (g:NtP w3 w' A Y nb n mb q2 es2):NtP w w' A Y nb n mb q2 es2:=by
 obtain ⟨A2,Y2,mb2,qv2,h2,m2,y2,e2,T2,o2,t2⟩:=g;refine ⟨A2,Y2,mb2,qv2,h2,(Mv.below hb).trans m2,λb hb2=>(y2 b hb2).imp id (aD hb.size),e2.imp id (aD hb.size),T2,(Only.ofBelow hb T2).trans o2,λb hbT=>?_⟩;obtain ⟨k1,k2⟩:=t2 b hbT;have:=hb.block b (h.alt b (h.yA b k1));rw [this] at k2;exact ⟨k1,k2⟩
theorem IsNt.newmap (h:IsNt w A Y nb mb n qv q es) (v:Value) (hv:v = .map (some w.heap.size)):NtP w ((w.alloc (.map #[] 0)).setCell ⟨nb,3,none⟩ v) A Y nb n mb q []:=by
 subst hv;have hb1:Below w.heap.size w (w.alloc (.map #[] 0)):=(az _ _).alloc (ah _) _;have o2:Only [nb] (w.alloc (.map #[] 0)) ((w.alloc (.map #[] 0)).setCell ⟨nb,3,none⟩ (.map (some w.heap.size))):=(Only.refl _ _).setCell (by simp) _;have oo:Only [nb] w ((w.alloc (.map #[] 0)).setCell ⟨nb,3,none⟩ (.map (some w.heap.size))):=(Only.ofBelow hb1 [nb]).trans o2;have hlt:=aQ h.net;have hcut:=(IsCut.new w).only o2 (by simp;omega);have hnet:((w.alloc (.map #[] 0)).setCell ⟨nb,3,none⟩ (.map (some w.heap.size))).heap[nb]? = some (de (n:Int) 2000 qv w.heap.size):=by
  have h1:=bb h.net (.map #[] 0);unfold de at h1;rw [aR h1];rfl
 have hs2:((w.alloc (.map #[] 0)).setCell ⟨nb,3,none⟩ (.map (some w.heap.size))).heap.size=w.heap.size+1:=by simp
 have hnq:∀b∈Y,∀cur,w.heap[b]? = some (.cells cur 83 (0,0))->b∉[nb]:=λb _ cur hcur hm=>by
  rw [aj.1 hm,h.net] at hcur;simp [de] at hcur
 have hext:Ext A (A++[w.heap.size]) w:=λb hb=>by
  rcases ap.1 hb with h1 | h1
  ·exact .inl h1
  ·exact .inr (by rw [aj.1 h1];exact ah _)
 refine ⟨A++[w.heap.size],Y++[w.heap.size],w.heap.size,qv,⟨hnet,hcut,h.q.keep oo (λb hb=>by rw [aj.1 hb];exact h.yA _ h.nY) hnq hext (λb hb=>aG _ hb),h.z,aG _ h.nY,by simp,λb hb=>?_,λb hb=>?_⟩,⟨⟨oo.mono (λb hb=>by rw [aj.1 hb];exact h.nY),λb hb=>?_,λb hb=>aG _ hb⟩,hext,λb hb=>aG _ hb⟩,λb hb=>?_,.inr (ah _),[nb],oo,λb hb=>by rw [aj.1 hb];exact ⟨h.nY,.inl rfl⟩⟩
 ·rcases ap.1 hb with g | g
  ·exact aG _ (h.yA b g)
  ·exact aO _ g
 ·rcases ap.1 hb with g | g
  ·have:=h.alt b g;omega
  ·rw [aj.1 g];omega
 ·rcases ap.1 hb with g | g
  ·exact .inl g
  ·exact .inr (by rw [aj.1 g];exact ah _)
 ·rcases ap.1 hb with g | g
  ·exact .inl g
  ·exact .inr (by rw [aj.1 g];exact ah _)
set_option maxHeartbeats 1000000 in
theorem wo (h:IsNt w A Y nb mb n qv q es):Calls Tryz.prog 31 #[.pointer (some ⟨nb,0,none⟩)] w λe w'=>e = .returned (.tuple #[])/\NtP w w' A Y nb n mb q []:=by
 have hmm:=@run_makeMap Tryz.prog;have H1:=h.net;unfold de at H1;have hA:=bb H1 (.map #[] 0);have hc3:(w.alloc (.map #[] 0)).cell? ⟨nb,3,none⟩=some (.map (some mb)):=by rw [af hA];rfl
 have hf3:=aM hA 3;have HF:=ab (h.newmap _ rfl);clear h hA H1;go_enter Tryz.func31,Tryz.ntmps31
 go_wp2_with fail
 go_end0
 exact ⟨rfl,HF.out⟩
theorem x5 {x y:Int} (hx:0<=x/\x<(n:Int)) (hy:0<=y/\y<(n:Int)) (hn:n<=5):Cf (lu x y):=by
 unfold Cf lu;split<;>split<;>simp<;>omega
set_option maxHeartbeats 4000000 in
theorem yU (h:IsNt w A Y nb mb n qv q es) (x y:Int) (b:Bool) (hx:0<=x/\x<(n:Int)) (hy:0<=y/\y<(n:Int)) (hn:n<=5) :
  Calls Tryz.prog 46 #[.pointer (some ⟨nb,0,none⟩),.int .i64 x,.int .i64 y,.bool b] w λe w'=>e = .returned (.tuple #[])/\NtP w w' A Y nb n mb q (dF es (lu x y) b):=by
 obtain ⟨ao,c,_,hnet⟩:=h.shape;have HN1:=ab (kU hnet x);have HN2:=ab (kU hnet y);rw [aJ hx.1,aJ hx.2] at HN1;rw [aJ hy.1,aJ hy.2] at HN2;have hwf:=x5 hx hy hn;have HNN:=ab h;have h1:=h.net;unfold de at h1;have hc3:w.cell? ⟨nb,3,none⟩=some (.map (some mb)):=by rw [af h1];rfl
 clear hx hy h1 hnet h;go_enter Tryz.func46,Tryz.ntmps46
 go_wp2_with fail
 refine HN1.out.mono ?_;rintro e w1 ⟨rfl,rfl⟩;go_wp2_with fail
 refine HN2.out.mono ?_;rintro e w1 ⟨rfl,rfl⟩;go_wp2_with fail
 go_region_with (go_at_call 77;refine (pG x y _).mono ?_;rintro e w3 ⟨rfl,hb3⟩;have hc33:=cell_later (w:=w.drew) hb3 hc3;have hN3:=HNN.out.below (show Below w.heap.size w w3 from ⟨hb3.os,hb3.tape,hb3.output,hb3.size,hb3.block⟩);obtain ⟨w4,hrun,hcut,ho⟩:=pQ hN3.cut (lu x y) hwf b)
 all_goals
  have hb':Below w.heap.size w w3:=⟨hb3.os,hb3.tape,hb3.output,hb3.size,hb3.block⟩
  have HF:Hid (NtP w w4 A Y nb n mb q (dF es (lu x y) b)):=ab (NtP.later HNN.out hb' (hN3.recut ho hcut));clear hb3 hc33 hN3 hrun hcut ho hb';go_wp2_with fail
  go_end0
  exact ⟨rfl,HF.out⟩
end
theorem IsQ.at {w:World} {A Y:List Nat} {v:Value} {ms:List Msg} (h:IsQ w A Y v ms) (j:Nat) (hj:j<ms.length):∃g off c mv mu,v = .slice (some ⟨g,off,none⟩) ms.length c/\ms.length<=c/\w.cell? ⟨g,off+j*5,none⟩=some (.int .i64 ms[j].frm)/\w.cell? ⟨g,off+j*5+1,none⟩=some (.int .i64 ms[j].dst)/\w.cell? ⟨g,off+j*5+2,none⟩=some (.int .i64 ms[j].kind)/\w.cell? ⟨g,off+j*5+3,none⟩=some mv/\w.cell? ⟨g,off+j*5+4,none⟩=some mu/\IsMsg w A ms[j] mv mu:=by
 rcases h with ⟨rfl,rfl⟩ | ⟨g,off,c,cur,h1,h2,h3,h4,h5,h6,h7⟩
 ·cases hj
 ·obtain ⟨v,u,k1,k2,k3,k4,k5,k6⟩:=h7 j hj;have q:(off+j)*5=off*5+j*5:=by omega
  rw [q] at k1 k2 k3 k4 k5;exact ⟨g,off*5,c,v,u,h1,h2,by rw [af h5];exact k1,by rw [af h5];exact k2,by rw [af h5];exact k3,by rw [af h5];exact k4,by rw [af h5];exact k5,k6⟩
def cM:Obj:=.cells #[.int .i64 0,.int .i64 0,.int .i64 0,.slice none 0 0,.slice none 0 0] 83
theorem gq {w:World} {H:Nat} (h:w.heap[H]? = some cM):(w.cell? ⟨H,0,none⟩=some (.int .i64 0)/\w.cell? ⟨H,1,none⟩=some (.int .i64 0)/\w.cell? ⟨H,2,none⟩=some (.int .i64 0)/\w.cell? ⟨H,3,none⟩=some (.slice none 0 0)/\w.cell? ⟨H,4,none⟩=some (.slice none 0 0)) /\
  w.frozen? ⟨H,0,none⟩=false/\w.frozen? ⟨H,1,none⟩=false/\w.frozen? ⟨H,2,none⟩=false/\w.frozen? ⟨H,3,none⟩=false/\w.frozen? ⟨H,4,none⟩=false:=by
 unfold cM at h;exact ⟨⟨by rw [af h];rfl,by rw [af h];rfl,by rw [af h];rfl,by rw [af h];rfl,by rw [af h];rfl⟩,aM h 0,aM h 1,aM h 2,aM h 3,aM h 4⟩
theorem un:(Tryz.prog.info? 83).map (·.size)=some 5:=by kernel_rfl
theorem fs {fn:Func} {p u:Tmp} (h:fn.results=#[.cell p 83,.tmp u]) (tmps:Array Value) (w:World) (g:Nat) (c0 c1 c2 c3 c4 x:Value)
  (hp:tmps.getD p undef = .pointer (some ⟨g,0,none⟩)) (hx:tmps.getD u undef=x) (hg:w.heap[g]? = some (.cells #[c0,c1,c2,c3,c4] 83 (0,0))) :
  (results fn tmps).run Tryz.prog w = .ok (.tuple #[.agg #[c0,c1,c2,c3,c4],x]) w:=by
 have hl:=run_loadVar_row (P:=Tryz.prog) w g 83 83 #[c0,c1,c2,c3,c4] (0,0) _ hg Tryz.underlying83 rfl un;rw [results_cell_tmp h,hp,hx];simp [asAddr,hl,Result.andThen]
theorem ImmI.less {w:World} {A A':List Nat} {v:Value} {l:List Int} (h:ImmI w A' v l) (hs:∀b∈A,b∈A'):ImmI w A v l:=by
 obtain ⟨ao,c,h1,h2,h3,h4,h5⟩:=h;exact ⟨ao,c,h1,h2,h3,h4,λp hp=>⟨λhm=>(h5 p hp).1 (hs _ hm),(h5 p hp).2⟩⟩
theorem ImmL.less {w:World} {A A':List Nat} {v:Value} {ls:List (List UInt8)} (h:ImmL w A' v ls) (hs:∀b∈A,b∈A'):ImmL w A v ls:=by
 rcases h with h | ⟨g,c,cur,h1,h2,h3,h4,h5,h6⟩
 ·exact .inl h
 ·refine .inr ⟨g,c,cur,h1,h2,h3,λhm=>h4 (hs _ hm),h5,λi hi=>?_⟩;obtain ⟨u,k1,k2⟩:=h6 i hi;exact ⟨u,k1,k2.mono hs⟩
theorem IsMsg.less {w:World} {A A':List Nat} {m:Msg} {v u:Value} (h:IsMsg w A' m v u) (hs:∀b∈A,b∈A'):IsMsg w A m v u:=⟨h.n.less hs,h.b.less hs⟩
theorem uU (w:World) (A:List Nat):Ext A (A++[w.heap.size]) w:=λb hb=>by
 rcases ap.1 hb with h1 | h1
 ·exact .inl h1
 ·exact .inr (by rw [aj.1 h1];exact ah _)
def kW:Msg:=⟨0,0,0,[],[]⟩
section
variable {w w':World} {A Y:List Nat} {nb mb n:Nat} {qv:Value} {q:List Msg} {es:Cuts}
set_option maxHeartbeats 1000000 in
theorem yW (h:IsNt w A Y nb mb n qv q es) (x:Int) (hx:(decide (0<=x)&&decide (x<(q.length:Int)))=false) :
  Calls Tryz.prog 69 #[.pointer (some ⟨nb,0,none⟩),.int .i64 x] w λe w'=>e = .returned (.tuple #[df kW (.slice none 0 0) (.slice none 0 0),.bool false])/\Below w.heap.size w w':=by
 obtain ⟨ao,c,_,hnet⟩:=(h.below ((az _ _).alloc (ah _) cM)).shape;have HH:=ab (iA hnet x);rw [hx] at HH;unfold cM at HH;clear h hx hnet;have hz:=gq (aK w cM);obtain ⟨⟨z0,z1,z2,z3,z4⟩,f0,f1,f2,f3,f4⟩:=hz;unfold cM at z0 z1 z2 z3 z4 f0 f1 f2 f3 f4;go_enter Tryz.func69,Tryz.ntmps69
 go_wp2_with fail
 refine HH.out.mono ?_;rintro e w1 ⟨rfl,rfl⟩;go_wp2_with fail
 (try simp only [Exit.inBlock,Exit.then])
 exact bodyPost_ret (fs (fn:=Tryz.f69) rfl _ _ w.heap.size _ _ _ _ _ _ rfl rfl (aK _ _)) rfl ⟨rfl,(az _ _).alloc (ah _) _⟩
set_option maxHeartbeats 2000000 in
theorem yV (h:IsNt w A Y nb mb n qv q es) (k:Nat) (hk:k<q.length) (hl:q.length<=1000000) (hm:gV q[k]) :
  Calls Tryz.prog 69 #[.pointer (some ⟨nb,0,none⟩),.int .i64 (k:Int)] w λe w'=>∃v u,e = .returned (.tuple #[df q[k] v u,.bool true])/\IsMsg w' A q[k] v u/\Below w.heap.size w w':=by
 have h':=h.below ((az _ _).alloc (ah _) cM);obtain ⟨ao,c,eqv,hnet⟩:=h'.shape;have HH:=ab (iA hnet (k:Int));rw [aJ (show (0:Int)<=k by omega),aJ (show (k:Int)<(q.length:Int) by omega)] at HH;have hbz:Below w.heap.size w (w.alloc cM):=(az _ _).alloc (ah _) cM;have hq':=h.q.keep (A':=A++[w.heap.size]) (Y':=Y) (Only.ofBelow hbz []) (λb hb=>by cases hb) (λb _ _ _=>by simp) (uU w A) (λb hb=>hb);obtain ⟨g,off,cc,mv,mu,eq2,hcc,e0,e1,e2,e3,e4,hmsg⟩:=hq'.at k hk;rw [eq2] at eqv;cases eqv;have c2:(w.alloc cM).cell? ⟨nb,2,none⟩=some (.slice (some ⟨g,off,none⟩) q.length c):=by
  unfold de at hnet;rw [af hnet];rfl
 have HA:Hid (∀b∈A++[w.heap.size],b<(w.alloc cM).heap.size):=ab (λb hb=>by
  rcases ap.1 hb with g | g
  ·exact aE (h.alt b g) (by simp)
  ·rw [aj.1 g];simp)
 have HC:=ab (kC q[k] mv mu _ hmsg hm HA.out);have HZ:=ab (aK w cM);have hkn:(k:Int)<(q.length:Int):=by omega
 obtain ⟨a1,b1,rfl,_⟩:=hmsg.n;have hmu:∃a b c,mu = .slice a b c:=by
  rcases hmsg.b with ⟨rfl,_⟩ | ⟨_,_,_,rfl,_⟩
  ·exact ⟨_,_,_,rfl⟩
  ·exact ⟨_,_,_,rfl⟩
 obtain ⟨a2,b2,c2',rfl⟩:=hmu;unfold cM at HH e0 e1 e2 e3 e4 c2 HC;clear h h' hnet eq2 hcc hmsg hm hq' hbz;generalize q[k]=x at *;generalize q.length=ql at *;unfold df at HC ⊢;go_enter Tryz.func69,Tryz.ntmps69
 go_wp2_with fail
 refine HH.out.mono ?_;rintro e w1 ⟨rfl,rfl⟩;go_wp2_with fail
 refine HC.out.mono ?_;rintro e w2 ⟨v,u,rfl,hown,hb⟩;have hz2:w2.heap[w.heap.size]? = some cM:=bd hb (by simp) HZ.out;have HZ2:=ab hz2;have hb':Below w.heap.size w w2:=((az _ _).alloc (ah _) cM).trans (hb.mono (by simp));have HB:=ab hb';obtain ⟨a3,c3,rfl,_⟩:=id hown.n;have hu:∃a b c,u = .slice a b c:=by
  rcases hown.b with ⟨rfl,_⟩ | ⟨_,_,_,rfl,_⟩
  ·exact ⟨_,_,_,rfl⟩
  ·exact ⟨_,_,_,rfl⟩
 obtain ⟨a4,b4,c4,rfl⟩:=hu;have HO:=ab hown;clear hown hb hb' hz2 e0 e1 e2 e3 e4 c2;go_wp2_with (refine wpList_store_row rfl 83 (.tmp 4) (.tmp 18) rfl w.heap.size #[.int .i64 x.frm,.int .i64 x.dst,.int .i64 x.kind,.slice a3 x.N.length c3,.slice a4 b4 c4] rfl rfl 83 _ HZ2.out un rfl (fH _ _ _ _ _ _ _ _ _) ?_)
 have HHP:=ab (setRow_heap _ w.heap.size _ #[.int .i64 x.frm,.int .i64 x.dst,.int .i64 x.kind,.slice a3 x.N.length c3,.slice a4 b4 c4] 83 (0,0) HZ2.out);have hon:Only [w.heap.size] w2 (w2.setRow w.heap.size #[.int .i64 x.frm,.int .i64 x.dst,.int .i64 x.kind,.slice a3 x.N.length c3,.slice a4 b4 c4]):=dv _ _ _
 (try simp only [Exit.inBlock,Exit.then])
 refine bodyPost_ret (fs (fn:=Tryz.f69) rfl _ _ w.heap.size _ _ _ _ _ _ rfl rfl HHP.out) rfl ⟨_,_,rfl,?_,HB.out.trans (hon.below HB.out.size (by simp))⟩;exact (HO.out.step hon (λb hb=>aO _ hb) (Ext.refl _ _)).less (λb hb=>aG _ hb)
end
def RowL (w:World) (g n cap:Nat) (xs:List Value):Prop:=xs.length=n*5/\∃cur,w.heap[g]? = some (.cells cur 83 (0,0))/\n<=cap/\cap<=9223372036854775807/\cap*5<=cur.size/\cur.toList.take (n*5)=xs
theorem RowL.cellAt {w:World} {g n cap:Nat} {xs:List Value} (h:RowL w g n cap xs) (o:Nat) (ho:o<n*5):w.cell? ⟨g,o,none⟩=xs[o]? := by
 obtain ⟨h1,cur,hh,hn,hm,hs,ht⟩:=h;rw [af hh,<-ht,List.getElem?_take_of_lt ho];simp
theorem RowL.frozenAt {w:World} {g n cap:Nat} {xs:List Value} (h:RowL w g n cap xs) {o:Nat}:w.frozen? ⟨g,o,none⟩=false:=by
 obtain ⟨h1,cur,hh,_⟩:=h;exact aM hh o
theorem RowL.stored {w:World} {g n cap:Nat} {xs:List Value} (h:RowL w g n cap xs) (o:Nat) (v:Value):RowL (w.setCell ⟨g,o,none⟩ v) g n cap (xs.set o v):=by
 obtain ⟨h1,cur,hh,hn,hm,hs,ht⟩:=h;refine ⟨by simpa using h1,_,aR hh o v,hn,hm,by simpa using hs,?_⟩;rw [<-ht,Array.toList_setIfInBounds,List.take_set]
theorem vF {w:World} {g cap n i:Nat} {xs:List Value} (h:RowL w g n cap xs) (hi:i<=n):RowL w g i cap (xs.take (i*5)):=by
 obtain ⟨h1,cur,hh,hn,hm,hs,ht⟩:=h;refine ⟨by rw [aI,h1];omega,cur,hh,by omega,hm,hs,?_⟩;rw [<-ht,cB,bi (by omega)]
theorem vG {g cap n:Nat} (vs:List Value):∀(o:Nat) (w:World) (xs:List Value),RowL w g n cap xs ->
  ∃ys,ys.length=xs.length/\ys.take o=xs.take o/\RowL (w.setCells g o vs) g n cap ys:=by
 induction vs with
 | nil=>intro o w xs h;exact ⟨xs,rfl,rfl,h⟩
 | cons v vs ih =>
  intro o w xs h;obtain ⟨ys,h1,h2,h3⟩:=ih (o+1) _ _ (h.stored o v);refine ⟨ys,by simpa using h1,?_,h3⟩;have:=DL (λl=>l.take o) h2;simpa [cB,List.take_set_of_le] using this
theorem nv {S:List Nat} {a:World} (g:Nat) (hg:g∈S) (vs:List Value):∀(o:Nat) (w:World),Only S a w->Only S a (w.setCells g o vs):=by
 induction vs with
 | nil=>intro o w h;exact h
 | cons v vs ih=>intro o w h;exact ih (o+1) _ (h.setCell hg v)
theorem ox {P:Program} (w:World) (t e ty:TypeId) (z:Value) (ht:P.underlying t=some (.slice e)) (hv:∀w,(zeroValue e).run P w = .ok z w) (b o n c:Nat) (hn:0<n) (zs:List Value) (hzs:(Builtin.zeroCells z.cells n).toList=zs)
  (h1:∀v∈zs,v.oneCell'=true) (hc:∀j,j<zs.length->(w.cell? ⟨b,o+j,none⟩).isSome=true) (hf:∀j,j<zs.length->w.frozen? ⟨b,o+j,none⟩=false) :
  (Builtin.clear_ #[t] ty #[.slice (some ⟨b,o,none⟩) n c]).run P w = .ok (.tuple #[]) (w.setCells b o zs):=by
 have hst:=run_storeCells_cells (P:=P) b o zs 0 w (by simpa using hc) (by simpa using hf) h1;simp only [fL] at hst;obtain ⟨m,rfl⟩:∃m,n=m+1:=⟨n - 1,by omega⟩
 simp [Builtin.clear_,run_underlying ht,hv,hzs,hst]
theorem AR {g cap n:Nat} (vs:List Value):∀(o:Nat) (w:World) (xs:List Value),RowL w g n cap xs->o+vs.length<=xs.length ->
  RowL (w.setCells g o vs) g n cap (xs.take o++vs++xs.drop (o+vs.length)):=by
 induction vs with
 | nil=>intro o w xs h _;simpa [World.setCells] using h
 | cons v vs ih =>
  intro o w xs h hl;simp only [aY] at hl;have:=ih (o+1) _ _ (h.stored o v) (by rw [dU];omega);have e1:(xs.set o v).take (o+1)=xs.take o++[v]:=by
   rw [dl (by rw [dU];omega)];simp [List.take_set_of_le]
  have e2:(xs.set o v).drop (o+1+vs.length)=xs.drop (o+(v::vs).length):=by
   rw [List.drop_set_of_lt (by omega),aY];congr 1;omega
  rw [e1,e2,bD (xs.take o),List.singleton_append] at this;exact this
theorem vV {S:List Nat} {w w0 w':World} (h:Only S w w0) (hh:w'.heap=w0.heap) (ho:w'.os=w0.os) (ht:w'.tape=w0.tape) (hp:w'.output=w0.output):Only S w w' :=
 ⟨ho.trans h.os,ht.trans h.tape,hp.trans h.output,by rw [hh];exact h.size,λk hk hs=>by rw [hh];exact h.block k hk hs⟩
theorem lF (m:List MsV) (i:Nat):(dV m).take (i*5)=dV (m.take i):=by
 induction m generalizing i with
 | nil=>simp [dV]
 | cons s l ih =>
  cases i with
  | zero=>simp [dV]
  | succ k =>
   rw [List.take_succ_cons,show dV (s::l)=dB s++dV l from rfl,show dV (s::l.take k)=dB s++dV (l.take k) from rfl,<-ih k,List.take_append];rw [aZ (by simp [dB];omega),show (k+1)*5 - (dB s).length=k*5 by simp [dB];omega]
theorem oT (m:List MsV) (i:Nat):(dV m).drop (i*5)=dV (m.drop i):=by
 have h1:dV m=dV (m.take i)++dV (m.drop i):=by rw [<-gw,dh]
 have h2:=lF m i;have h3:dV m=(dV m).take (i*5)++(dV m).drop (i*5):=(dh _ _).symm;rw [h2] at h3;exact List.append_cancel_left (h3.symm.trans h1)
theorem yt {w:World} {g cap:Nat} {l:List MsV} {n:Nat} (h:RowL w g n cap (dV l)) :
  g<w.heap.size/\n<=cap/\cap<=9223372036854775807/\l.length=n:=by
 obtain ⟨h1,cur,hh,hn,hm,hs,ht⟩:=h;rw [jr] at h1;exact ⟨(io.1 hh).1,hn,hm,by omega⟩
theorem yu (l:List MsV) (h:∀x∈l,x.v.oneCell'=true/\x.u.oneCell'=true):∀u∈dV l,u.oneCell'=true:=by
 intro u hu;simp only [dV,fd] at hu;obtain ⟨s,hs,hu⟩:=hu;simp only [dB,bg,gp,or_false] at hu;rcases hu with rfl | rfl | rfl | rfl | rfl
 ·rfl
 ·rfl
 ·rfl
 ·exact (h s hs).1
 ·exact (h s hs).2
theorem Cb (w:World):(zeroValue 83).run Tryz.prog w = .ok (.agg #[.int .i64 0,.int .i64 0,.int .i64 0,.slice none 0 0,.slice none 0 0]) w:=by kernel_rfl
def gI (n:Nat):List Value:=(Builtin.zeroCells (Value.agg #[.int .i64 0,.int .i64 0,.int .i64 0,.slice none 0 0,.slice none 0 0]).cells n).toList
theorem qE (n:Nat):(gI n).length=n*5:=by simp [gI,Builtin.zeroCells,Value.cells]
theorem qD (n:Nat):∀v∈gI n,v.oneCell'=true:=by
 intro v hv;have hc:(Value.agg #[.int .i64 0,.int .i64 0,.int .i64 0,.slice none 0 0,.slice none 0 0]).cells=#[.int .i64 0,.int .i64 0,.int .i64 0,.slice none 0 0,.slice none 0 0]:=by simp [Value.cells]
 rw [gI,hc] at hv;simp only [Builtin.zeroCells,Array.toList_map,cF] at hv;obtain ⟨i,_,rfl⟩:=hv;have:i % 5=0\/i % 5=1\/i % 5=2\/i % 5=3\/i % 5=4:=by omega
 rcases this with h | h | h | h | h<;>simp [h,Value.oneCell']
theorem sn {w:World} {g cap n i:Nat} {m:List MsV} (h:RowL w g n cap (dV m)) (hm:m.length=n) (hi:i<n) (ty:TypeId) (c:Nat) :
  (Builtin.clear_ #[64] ty #[.slice (some ⟨g,i*5,none⟩) (n - i) c]).run Tryz.prog w = .ok (.tuple #[]) (w.setCells g (i*5) (gI (n - i))) /\
  RowL (w.setCells g (i*5) (gI (n - i))) g i cap (dV (m.take i)):=by
 constructor
 ·refine ox w 64 83 ty _ Tryz.underlying64 Cb g (i*5) (n - i) c (by omega) (gI (n - i)) rfl (qD _) (λj hj=>?_) (λj hj=>h.frozenAt);rw [qE] at hj;rw [h.cellAt (i*5+j) (by omega)];rw [bK (by rw [jr,hm];omega)];rfl
 ·obtain ⟨ys,h1,h2,h3⟩:=vG (gI (n - i)) (i*5) w _ h;have:=vF h3 (eC hi)
  rwa [h2,lF] at this
def iR (l:List MsV) (i:Nat):List MsV:=l.take i++l.drop (i+1)++l.drop (l.length - 1)
theorem l7 (l:List MsV) (i:Nat) (hi:i<l.length):(iR l i).length=l.length:=by
 simp [iR];omega
theorem pJ (l:List MsV) (i:Nat) (hi:i<l.length):(iR l i).take (l.length - 1)=l.eraseIdx i:=by
 rw [lx];unfold iR;rw [List.take_left' (by simp;omega)]
set_option maxHeartbeats 2000000 in
set_option maxRecDepth 1000000 in
theorem t5 (g:Nat) (l:List MsV) (i cap:Nat) (w:World) (h:RowL w g l.length cap (dV l)) (hone:∀x∈l,x.v.oneCell'=true/\x.u.oneCell'=true) (hi:i<l.length) (hl:l.length<=1000000) :
  Calls Tryz.prog 42 #[.slice (some ⟨g,0,none⟩) l.length cap,.int .i64 (i:Int),.int .i64 ((i:Int)+1)] w λe w'=>e = .returned (.slice (some ⟨g,0,none⟩) (l.length - 1) cap)/\RowL w' g (l.length - 1) cap (dV (l.eraseIdx i))/\Only [g] w w':=by
 obtain ⟨i0,hi0,hz0,hz1,hz2⟩:=info_parts tP;obtain ⟨hgs,hc1,hc2,_⟩:=yt h;obtain ⟨news,hnews⟩:∃news,news=dV (l.drop (i+1)):=⟨_,rfl⟩
 have hnl:news.length=(l.length - (i+1))*5:=by rw [hnews,jr];simp
 have hrl:=jr l;obtain ⟨A,hA,hsrc⟩:∃A:Addr,(if cap=i+1 then some (⟨g,0,none⟩:Addr) else some ⟨g,(i+1)*5,none⟩)=some A/\Hid (∀t u,news[t]? = some u->w.drew.cell? (A.add t)=some u):=by
  by_cases hce:cap=i+1
  ·refine ⟨⟨g,0,none⟩,by simp [hce],λt u hu=>?_⟩;have:=(jh.1 hu).1;omega
  ·refine ⟨⟨g,(i+1)*5,none⟩,by simp [hce],λt u hu=>?_⟩;have ht:=(jh.1 hu).1;rw [Addr.add_lit];have h4:w.cell? ⟨g,(i+1)*5+t,none⟩=(dV l)[(i+1)*5+t]? := h.cellAt _ (by omega);rw [hnews,<-oT,fj] at hu;exact h4.trans hu
 have s2:Hid (∀u∈news,u.oneCell'=true):=by rw [hnews];exact yu _ (λx hx=>hone x (mK hx))
 have s3:Hid (∀t,t<news.length->(w.drew.cell? ⟨g,0+i*5+t,none⟩).isSome=true/\w.drew.frozen? ⟨g,0+i*5+t,none⟩=false):=by
  intro t ht;refine ⟨?_,h.frozenAt⟩;rw [cy];show (w.cell? _).isSome=true;rw [h.cellAt (i*5+t) (by omega),bK (by omega)];rfl
 obtain ⟨W1,hW1⟩:∃W1,W1=w.drew.setCells g (0+i*5) news:=⟨_,rfl⟩
 have hrow:RowL W1 g l.length cap (dV (iR l i)):=by
  have:=AR news (0+i*5) w.drew (dV l) h (by omega);rw [hW1];have e:dV (iR l i)=(dV l).take (0+i*5)++news++(dV l).drop (0+i*5+news.length):=by
   rw [show 0+i*5+news.length=(l.length - 1)*5 by omega,oT,cy,lF,hnews,iR,gw,gw]
  rw [e];exact this
 have ho1:Only [g] w W1:=by
  rw [hW1];exact nv g (by simp) _ _ _ (vV (Only.refl [g] w) rfl rfl rfl rfl)
 have hcl:=λty=>(sn hrow (l7 l i hi) (show l.length - 1<l.length by omega) ty (cap - (l.length - 1))).1;have hfin:=(sn hrow (l7 l i hi) (show l.length - 1<l.length by omega) 0 0).2;rw [pJ l i hi] at hfin;have ho2:Only [g] w (W1.setCells g ((l.length - 1)*5) (gI (l.length - (l.length - 1)))):=nv g (by simp) _ _ _ ho1;have HF:=ab hfin;have HO:=ab ho2;have hW:Hid (W1=w.drew.setCells g (0+i*5) news):=hW1;have HNL:=ab hnl;clear hfin ho2 ho1 hrow hW1 hnews hnl hrl h;generalize hn:l.length=n at *;have k1:¬cap=n - 1:=by omega
 have k2:(i:Int)+1=((i+1:Nat):Int):=by omega
 have k3:n - (n - 1)=1:=by omega
 rw [k2];rw [k3] at hcl;have hxx:((i:Int)==((i+1:Nat):Int))=false:=by simp;omega
 have HN:=ab hn;clear hn k2;have k5:i<=cap:=by omega
 have k6:i+1<=cap:=by omega
 have k7:(0:Int)<=(i:Int)+1/\(i:Int)+1<=(n:Int):=by omega
 have mixed:Tryz.prog.follows Departure.mixedOrders=true:=by kernel_rfl
 go_enter Tryz.func42,Tryz.ntmps42
 go_wp2_with fail
 go_region_law_o (refine step_append_room rfl (.tmp 22) (.tmp 25) 64 rfl 83 i0 5 Tryz.underlying64 hi0 hz1 g 0 i cap (by simp [Act.eval,Act.put]) A (n - (i+1)) (cap - (i+1)) news (by simp [Act.eval,Act.put]) HNL.out hsrc.out s2.out (by omega) s3.out ?_;rw [<-hW.out])
 have k4:i+(n - (i+1))=n - 1:=by omega
 rw [k4];go_wp2_with fail
 go_ret
 refine ⟨rfl,?_,?_⟩
 ·have:=HF.out
  rwa [k3] at this
 ·have:=HO.out
  rwa [k3] at this
end Go.Proofs.YtnhefallmioefaaGreat
