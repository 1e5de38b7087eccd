/-
  What the proof of the law leans on: contracts of the program's functions, one behind another. No condition.
-/
import Derived.Test.YtnicaicjgaoolaaU0
import Derived.Test.YtnicaicjgaoolaaU13
import Derived.Test.YtnicaicjgaoolaaU14
import Derived.Test.YtnicaicjgaoolaaU3
set_option linter.unusedVariables false
set_option linter.unusedSimpArgs false
namespace Go.Proofs.Ytnicaicjgaoolaa
open Go.RowKit Go.ChangeMaps Go.WideMaps Go.Maps
set_option maxRecDepth 20000
theorem gP {P:Program} (w:World) (t ty e:TypeId) (i:TypeInfo) (ht:P.underlying t=some (.slice e)) (hi:P.info? e=some i)
  (g off sLen sCap:Nat) (cur:Array Value) (hg:w.heap[g]? = some (.cells cur e (0,0)))
  (a:Addr) (m c:Nat) (news:List Value) (hl:news.length=m*i.size) (hnews:∀j u,news[j]? = some u->w.cell? (a.add j)=some u) (h1:∀u∈news,u.oneCell'=true)
  (hroom:sLen+m<=sCap) (hfit:off+sLen*i.size+news.length<=cur.size) :
  (Builtin.append_ #[t,t] ty #[.slice (some ⟨g,off,none⟩) sLen sCap,.slice (some a) m c]).run P w =
   .ok (.slice (some ⟨g,off,none⟩) (sLen+m) sCap) (w.setRow g (cur.toList.take (off+sLen*i.size)++news++cur.toList.drop (off+sLen*i.size+news.length)).toArray):=by
 have hf:=run_firstCells_some (P:=P) w i.size m a m c news hl hnews;have hst:=run_storeCells_at P g (off+sLen*i.size) e news 0 cur w hg (by simpa using hfit) h1;simp only [eK] at hst;simp [Builtin.append_,run_underlying ht,sizeOf,typeInfo,hi,Builtin.lenOf,hroom,hf,Addr.add_lit,hst]
structure QAt (w:World) (A:List Nat) (cur:Array Value) (i:Nat) (m:Msg):Prop where
 ex:∃v u,cur[i*5]? = some (.int .i64 m.frm)/\cur[i*5+1]? = some (.int .i64 m.dst)/\cur[i*5+2]? = some (.int .i64 m.kind)/\cur[i*5+3]? = some v/\cur[i*5+4]? = some u/\IsMsg w A m v u
def IsQ (w:World) (A Y:List Nat) (v:Value) (ms:List Msg):Prop :=
 (v = .slice none 0 0/\ms=[])\/∃g off c cur,v = .slice (some ⟨g,off*5,none⟩) ms.length c/\ms.length<=c/\c<=9223372036854775807/\g∈Y/\w.heap[g]? = some (.cells cur 51 (0,0))/\(off+c)*5<=cur.size/\∀i,(h:i<ms.length)->QAt w A cur (off+i) ms[i]
section
variable {w w':World} {A A' Y Y':List Nat} {v:Value} {ms:List Msg}
theorem QAt.step {cur:Array Value} {i:Nat} {m:Msg} {S:List Nat} (h:QAt w A cur i m) (ho:Only S w w') (hS:∀b∈S,b∈A) (he:Ext A A' w):QAt w' A' cur i m:=by
 obtain ⟨v,u,h1,h2,h3,h4,h5,h6⟩:=h;exact ⟨v,u,h1,h2,h3,h4,h5,h6.step ho hS he⟩
theorem IsQ.keep {S:List Nat} (h:IsQ w A Y v ms) (ho:Only S w w') (hS:∀b∈S,b∈A) (hd:∀b∈Y,∀cur,w.heap[b]? = some (.cells cur 51 (0,0))->b∉S) (he:Ext A A' w) (hY:∀b∈Y,b∈Y'):IsQ w' A' Y' v ms:=by
 rcases h with h | ⟨g,off,c,cur,h1,h2,h3,h4,h5,h6,h7⟩
 ·exact .inl h
 ·exact .inr ⟨g,off,c,cur,h1,h2,h3,hY g h4,ho.keeps h5 (hd g h4 cur h5),h6,λi hi=>(h7 i hi).step ho hS he⟩
theorem IsQ.shape (h:IsQ w A Y v ms):∃ao c,v = .slice ao ms.length c/\ms.length<=c/\c<=9223372036854775807/\(ao=none->c=0)/\∀p,ao=some p->∃g off,p=⟨g,off,none⟩:=by
 rcases h with ⟨rfl,rfl⟩ | ⟨g,off,c,cur,h1,h2,h3,_⟩
 ·exact ⟨none,0,rfl,ah _,by decide,λ_=>rfl,(λp hp=>by cases hp)⟩
 ·exact ⟨_,c,h1,h2,h3,(λe=>by cases e),(λp hp=>by cases hp;exact ⟨g,off*5,rfl⟩)⟩
theorem IsQ.tail {m:Msg} {p:Addr} {n c:Nat} (h:IsQ w A Y (.slice (some p) n c) (m::ms)):IsQ w A Y (.slice (some (if c=1 then p else p.add 5)) (n - 1) (c - 1)) ms:=by
 rcases h with ⟨h,_⟩ | ⟨g,off,c',cur,h1,h2,h3,h4,h5,h6,h7⟩
 ·cases h
 ·simp only [Value.slice.injEq,aX] at h1 h2;obtain ⟨e1,rfl,rfl⟩:=h1;cases e1;by_cases hc:c=1
  ·subst hc;have hm:ms=[]:=bC.1 (by omega);subst hm;exact .inr ⟨g,off,0,cur,rfl,ah _,by omega,h4,h5,by omega,λi hi=>by cases hi⟩
  ·rw [aw hc];refine .inr ⟨g,off+1,c - 1,cur,?_,by omega,by omega,h4,h5,by omega,λi hi=>?_⟩
   ·simp only [Nat.add_sub_cancel];rw [Addr.add_lit];congr 3;omega
   ·have:=h7 (i+1) (by simp;omega);simp only [List.getElem_cons_succ] at this;rw [show off+1+i=off+(i+1) by omega];exact this
structure QP (w w':World) (A Y:List Nat) (v':Value) (ms:List Msg):Prop where
 ex:∃A' Y',IsQ w' A' Y' v' ms/\Mv A A' Y Y' w w'/\(∀b∈A',b<w'.heap.size)/\(∀b∈Y',b∈A')/\(∀b∈Y',b∈Y\/(w.heap.size<=b/\∃cur,w'.heap[b]? = some (.cells cur 51 (0,0))))/\∃T,Only T w w'/\∀b∈T,b∈Y/\∃cur,w.heap[b]? = some (.cells cur 51 (0,0))
theorem zf {m:Msg} {mv mu:Value} (h:IsMsg w A m mv mu):∀y∈[Value.int .i64 m.frm,.int .i64 m.dst,.int .i64 m.kind,mv,mu],y.oneCell'=true:=by
 intro y hy;simp only [bG,iZ,or_false] at hy;rcases hy with rfl | rfl | rfl | rfl | rfl
 ·rfl
 ·rfl
 ·rfl
 ·exact h.one.1
 ·exact h.one.2
theorem QP.fresh {n cap:Nat} {cells:List Value} {ms':List Msg} (hYA:∀b∈Y,b∈A) (hA:∀b∈A,b<w.heap.size) (rest:Array Value) (hn:n=ms'.length) (hcap:n<=cap) (hc9:cap<=9223372036854775807) (hsz:cap*5<=cells.length+rest.size)
  (hq:∀i,(h:i<ms'.length)->∃v u,cells[i*5]? = some (.int .i64 ms'[i].frm)/\cells[i*5+1]? = some (.int .i64 ms'[i].dst)/\cells[i*5+2]? = some (.int .i64 ms'[i].kind)/\cells[i*5+3]? = some v/\cells[i*5+4]? = some u/\IsMsg w A ms'[i] v u) :
  QP w (w.drew.alloc (.cells (cells.toArray++rest) 51)) A Y (.slice (some ⟨w.heap.size,0,none⟩) n cap) ms':=by
 have hb:Below w.heap.size w (w.drew.alloc (.cells (cells.toArray++rest) 51)):=(ap w 1).alloc (ah _) _;have hnew:(w.drew.alloc (.cells (cells.toArray++rest) 51)).heap[w.heap.size]? = some (.cells (cells.toArray++rest) 51 (0,0)):=aJ w.drew _;have hext:Ext A (A++[w.heap.size]) w:=λb hb=>by
  rcases av.1 hb with h | h
  ·exact .inl h
  ·exact .inr (by rw [aj.1 h];exact ah _)
 refine ⟨A++[w.heap.size],Y++[w.heap.size],.inr ⟨w.heap.size,0,cap,_,by rw [Nat.zero_mul,hn],by omega,hc9,by simp,hnew,by simp;omega,λi hi=>?_⟩,⟨⟨Only.ofBelow hb Y,λb hb=>?_,λb hb=>aD _ hb⟩,hext,λb hb=>aD _ hb⟩,λb hb=>?_,λb hb=>?_,λb hb=>?_,[],Only.ofBelow hb [],(λb hb=>by cases hb)⟩
 ·obtain ⟨v,u,h1,h2,h3,h4,h5,h6⟩:=hq i hi;have hg:∀{j:Nat} {x:Value},cells[j]? = some x->(cells.toArray++rest)[j]? = some x:=λ{j x} hj=>by
   have hlt:=(sF.1 hj).1;rw [dI (by simpa using hlt)];simpa using hj
  rw [dg];exact ⟨v,u,hg h1,hg h2,hg h3,hg h4,hg h5,h6.step (Only.ofBelow hb []) (λb hb=>by cases hb) hext⟩
 ·rcases av.1 hb with h | h
  ·exact .inl h
  ·exact .inr (by rw [aj.1 h];exact ah _)
 ·rcases av.1 hb with h | h
  ·exact aH (hA b h) (by simp)
  ·rw [aj.1 h];simp
 ·rcases av.1 hb with h | h
  ·exact aD _ (hYA b h)
  ·exact aG _ h
 ·rcases av.1 hb with h | h
  ·exact .inl h
  ·rw [aj.1 h];exact .inr ⟨ah _,_,hnew⟩
theorem Ax (h:IsQ w A Y v ms) (hYA:∀b∈Y,b∈A) (hA:∀b∈A,b<w.heap.size) {H:Nat} {m:Msg} {mv mu:Value} (hH:w.heap[H]? = some (.cells #[.int .i64 m.frm,.int .i64 m.dst,.int .i64 m.kind,mv,mu] 51 (0,0))) (hm:IsMsg w A m mv mu) (hb:ms.length<=1000000) (ty:TypeId) :
  ∃v' w',(Builtin.append_ #[35,35] ty #[v,.slice (some ⟨H,0,none⟩) 1 1]).run Try.prog w = .ok v' w'/\QP w w' A Y v' (ms++[m]):=by
 obtain ⟨i0,hi0,hz0,hz1,hz2⟩:=info_parts tK;have hnews:∀j x,([Value.int .i64 m.frm,.int .i64 m.dst,.int .i64 m.kind,mv,mu]:List Value)[j]? = some x->w.cell? ((⟨H,0,none⟩:Addr).add j)=some x:=by
  intro j x hj;rw [Addr.add_lit,dg,af hH]
  match j,hj with
  | 0,hj=>simpa using hj
  | 1,hj=>simpa using hj
  | 2,hj=>simpa using hj
  | 3,hj=>simpa using hj
  | 4,hj=>simpa using hj
  | j+5,hj=>simp at hj
 rcases h with ⟨rfl,rfl⟩ | ⟨g,off,c,cur,rfl,h2,h3,h4,h5,h6,h7⟩
 ·have hr:=run_append_nil (P:=Try.prog) (w:=w) 35 ty 51 i0 (.agg #[.int .i64 0,.int .i64 0,.int .i64 0,.slice none 0 0,.slice none 0 0]) Try.underlying35 hi0 hz0 ⟨H,0,none⟩ 1 1 [.int .i64 m.frm,.int .i64 m.dst,.int .i64 m.kind,mv,mu] (by rw [hz1];rfl) hnews (by omega) (by omega) (by rw [hz2];omega);refine ⟨_,_,hr,QP.fresh hYA hA _ rfl (by simpa using grownCap_ge w 1 0 51) (aF (grownCap_le_maxLen w 1 0 51 (by unfold maxLen;omega)) (by unfold maxLen;omega)) ?_ (λi hi=>?_)⟩
  ·rw [size_zeroCells];have:=grownCap_ge w 1 0 51;simp [Value.cells];omega
  ·obtain rfl:i=0:=by simp at hi;omega
   exact ⟨mv,mu,rfl,rfl,rfl,rfl,rfl,hm⟩
 ·have hcells:∀j x,((cur.toList.drop (off*5)).take (ms.length*5))[j]? = some x->cur[off*5+j]? = some x:=λj x hj=>by
   rw [bP] at hj;split at hj
   ·rw [fA,cA] at hj;exact hj
   ·cases hj
  have hcur:∀{j:Nat} {x:Value},j<ms.length*5->cur[off*5+j]? = some x->((cur.toList.drop (off*5)).take (ms.length*5))[j]? = some x:=λ{j x} hj hx=>by
   rw [bP,ax hj,fA,cA];exact hx
  have hlo:((cur.toList.drop (off*5)).take (ms.length*5)).length=ms.length*5:=by
   simp only [aE,bw,gq];omega
  by_cases hroom:ms.length+1<=c
  ·have hr:=gP (P:=Try.prog) w 35 ty 51 i0 Try.underlying35 hi0 g (off*5) ms.length c cur h5 ⟨H,0,none⟩ 1 1 [.int .i64 m.frm,.int .i64 m.dst,.int .i64 m.kind,mv,mu] (by rw [hz1];rfl) hnews (zf hm) hroom (by rw [hz1];simp;omega);rw [hz1] at hr;refine ⟨_,_,hr,⟨A,Y,.inr ⟨g,off,c,_,by simp,by simpa using hroom,h3,h4,setRow_heap _ _ _ _ _ _ h5,by simp;omega,λi hi=>?_⟩,Mv.only (du _ _ _) (λb hb=>by rw [aj.1 hb];exact h4),λb hb=>by simpa using hA b hb,hYA,λb hb=>.inl hb,[g],du _ _ _,λb hb=>by rw [aj.1 hb];exact ⟨h4,cur,h5⟩⟩⟩;have hst:Only [g] w (w.setRow g (cur.toList.take (off*5+ms.length*5)++[.int .i64 m.frm,.int .i64 m.dst,.int .i64 m.kind,mv,mu]++cur.toList.drop (off*5+ms.length*5+([.int .i64 m.frm,.int .i64 m.dst,.int .i64 m.kind,mv,mu]:List Value).length)).toArray):=du _ _ _;have hgA:∀b∈[g],b∈A:=λb hb=>by rw [aj.1 hb];exact hYA g h4
   by_cases hlt:i<ms.length
   ·have e:(ms++[m])[i]=ms[i]:=by simp [fX,hlt]
    rw [e];obtain ⟨v,u,k1,k2,k3,k4,k5,k6⟩:=h7 i hlt;have hg:∀{j:Nat} {x:Value},j<off*5+ms.length*5->cur[j]? = some x->(cur.toList.take (off*5+ms.length*5)++[.int .i64 m.frm,.int .i64 m.dst,.int .i64 m.kind,mv,mu]++cur.toList.drop (off*5+ms.length*5+([.int .i64 m.frm,.int .i64 m.dst,.int .i64 m.kind,mv,mu]:List Value).length)).toArray[j]? = some x:=λ{j x} hj hx=>by
     have hl:(cur.toList.take (off*5+ms.length*5)).length=off*5+ms.length*5:=by simp only [aE,gq];omega
     rw [eE,bH,cy (by rw [hl];exact hj),bP,ax hj,cA];exact hx
    exact ⟨v,u,hg (by omega) k1,hg (by omega) k2,hg (by omega) k3,hg (by omega) k4,hg (by omega) k5,k6.step hst hgA (Ext.refl _ _)⟩
   ·obtain rfl:i=ms.length:=by simp at hi;omega
    have e:(ms++[m])[ms.length]=m:=by simp
    rw [e];have hg:∀(j:Nat),j<5->(cur.toList.take (off*5+ms.length*5)++[.int .i64 m.frm,.int .i64 m.dst,.int .i64 m.kind,mv,mu]++cur.toList.drop (off*5+ms.length*5+([.int .i64 m.frm,.int .i64 m.dst,.int .i64 m.kind,mv,mu]:List Value).length)).toArray[(off+ms.length)*5+j]? = ([Value.int .i64 m.frm,.int .i64 m.dst,.int .i64 m.kind,mv,mu]:List Value)[j]? := λj hj=>by
     have hl:(cur.toList.take (off*5+ms.length*5)).length=off*5+ms.length*5:=by simp only [aE,gq];omega
     rw [eE,bH,dH (by rw [hl];omega),hl,show (off+ms.length)*5+j - (off*5+ms.length*5)=j by omega,cy (by simpa using hj)]
    exact ⟨mv,mu,hg 0 (by omega),hg 1 (by omega),hg 2 (by omega),hg 3 (by omega),hg 4 (by omega),hm.step hst hgA (Ext.refl _ _)⟩
  ·have hc:c=ms.length:=by omega
   subst hc;have hr:=run_append_grow (P:=Try.prog) (w:=w) 35 ty 51 i0 (.agg #[.int .i64 0,.int .i64 0,.int .i64 0,.slice none 0 0,.slice none 0 0]) Try.underlying35 hi0 hz0 ⟨g,off*5,none⟩ ms.length ms.length ((cur.toList.drop (off*5)).take (ms.length*5)) (by rw [hz1];exact hlo)
    (λj x hj=>by rw [Addr.add_lit,af h5];exact hcells j x hj) ⟨H,0,none⟩ 1 1 [.int .i64 m.frm,.int .i64 m.dst,.int .i64 m.kind,mv,mu] (by rw [hz1];rfl) hnews (by omega) (by omega) (growslice_fits (by omega) (by rw [hz2];omega))
   have eT:((cur.toList.drop (off*5)).take (ms.length*5)).toArray++([.int .i64 m.frm,.int .i64 m.dst,.int .i64 m.kind,mv,mu]:List Value).toArray=((cur.toList.drop (off*5)).take (ms.length*5)++[.int .i64 m.frm,.int .i64 m.dst,.int .i64 m.kind,mv,mu]).toArray:=by
    apply Array.ext';simp
   rw [eT] at hr;refine ⟨_,_,hr,QP.fresh (ms':=ms++[m]) hYA hA _ (by rw [ay];rfl) (grownCap_ge w (ms.length+1) ms.length 51) (aF (grownCap_le_maxLen w (ms.length+1) ms.length 51 (by unfold maxLen;omega)) (by unfold maxLen;omega)) ?_ (λi hi=>?_)⟩
   ·rw [size_zeroCells,ay,hlo];have:=grownCap_ge w (ms.length+1) ms.length 51;simp [Value.cells];omega
   ·by_cases hlt:i<ms.length
    ·have e:(ms++[m])[i]=ms[i]:=by simp [fX,hlt]
     rw [e];obtain ⟨v,u,k1,k2,k3,k4,k5,k6⟩:=h7 i hlt;have hg:∀{j:Nat} {x:Value},j<ms.length*5->cur[off*5+j]? = some x->((cur.toList.drop (off*5)).take (ms.length*5)++[.int .i64 m.frm,.int .i64 m.dst,.int .i64 m.kind,mv,mu])[j]? = some x:=λ{j x} hj hx=>by
      rw [cy (by rw [hlo];exact hj)];exact hcur hj hx
     have q:(off+i)*5=off*5+i*5:=by omega
     rw [q] at k1 k2 k3 k4 k5;exact ⟨v,u,hg (by omega) k1,hg (by omega) k2,hg (by omega) k3,hg (by omega) k4,hg (by omega) k5,k6⟩
    ·obtain rfl:i=ms.length:=by simp at hi;omega
     have e:(ms++[m])[ms.length]=m:=by simp
     rw [e];have hg:∀(j:Nat),j<5->((cur.toList.drop (off*5)).take (ms.length*5)++[.int .i64 m.frm,.int .i64 m.dst,.int .i64 m.kind,mv,mu])[ms.length*5+j]? = ([Value.int .i64 m.frm,.int .i64 m.dst,.int .i64 m.kind,mv,mu]:List Value)[j]? := λj hj=>by
      rw [dH (by rw [hlo];omega),hlo,show ms.length*5+j - ms.length*5=j by omega]
     exact ⟨mv,mu,hg 0 (by omega),hg 1 (by omega),hg 2 (by omega),hg 3 (by omega),hg 4 (by omega),hm⟩
theorem jq {ops:Array Oper} {rest:List Oper} {o:Oper} {a:Act} {Q:Exit->Act->World->Prop} (hgd:o.guard=none) (sx x:Operand)
  (ho:o.op = .call { callee:=.builtin .append,args:=#[sx,x],argTypes:=#[35,35]})
  (h:IsQ w A Y v ms) (hYA:∀b∈Y,b∈A) (hA:∀b∈A,b<w.heap.size) {H:Nat} {m:Msg} {mv mu:Value} (hH:w.heap[H]? = some (.cells #[.int .i64 m.frm,.int .i64 m.dst,.int .i64 m.kind,mv,mu] 51 (0,0))) (hm:IsMsg w A m mv mu) (hb:ms.length<=1000000)
  (hs:a.eval sx=v) (hx:a.eval x = .slice (some ⟨H,0,none⟩) 1 1)
  (hk:∀v' w',QP w w' A Y v' (ms++[m])->wpList Try.prog ops Q rest (a.put o.dst v') w'):wpList Try.prog ops Q (o::rest) a w:=by
 obtain ⟨v',w',hr,h2⟩:=Ax h hYA hA hH hm hb o.type;refine wpList_plain hgd λK hK=>?_;unfold Oper.wp;simp [execOp,ho,resolve,invoke,builtin,hs,hx,hr,Result.andThen];exact hK _ _ (hk _ _ h2)
end
section
variable {w w':World} {A A' Y Y':List Nat} {v:Value} {ms:List Msg}
theorem IsQ.drop {p:Addr} {n c:Nat} (h:IsQ w A Y (.slice (some p) n c) ms) (j:Nat) (hj:j<=n):IsQ w A Y (.slice (some (if c=j then p else p.add (j*5))) (n - j) (c - j)) (ms.drop j):=by
 rcases h with ⟨h,_⟩ | ⟨g,off,c',cur,h1,h2,h3,h4,h5,h6,h7⟩
 ·cases h
 ·simp only [Value.slice.injEq] at h1;obtain ⟨e1,rfl,rfl⟩:=h1;cases e1;by_cases hc:c=j
  ·subst hc;have hm:ms.drop c=[]:=List.drop_eq_nil_iff.2 (by omega);rw [hm];exact .inr ⟨g,off,0,cur,by simp;omega,ah _,by omega,h4,h5,by omega,λi hi=>by cases hi⟩
  ·rw [aw hc];refine .inr ⟨g,off+j,c - j,cur,?_,by simp;omega,by omega,h4,h5,by omega,λi hi=>?_⟩
   ·rw [Addr.add_lit,bw];congr 3;omega
   ·rw [bw] at hi;have:=h7 (j+i) (by omega);rw [List.getElem_drop,show off+j+i=off+(j+i) by omega];exact this
theorem IsQ.take {p:Addr} {n c:Nat} (h:IsQ w A Y (.slice (some p) n c) ms) (j:Nat) (hj:j<=n):IsQ w A Y (.slice (some p) j c) (ms.take j):=by
 rcases h with ⟨h,_⟩ | ⟨g,off,c',cur,h1,h2,h3,h4,h5,h6,h7⟩
 ·cases h
 ·simp only [Value.slice.injEq] at h1;obtain ⟨e1,rfl,rfl⟩:=h1;cases e1;refine .inr ⟨g,off,c,cur,by rw [aE,bB hj],by rw [aE];omega,h3,h4,h5,h6,λi hi=>?_⟩;rw [aE] at hi;rw [List.getElem_take];exact h7 i (by omega)
theorem IsQ.cells {p:Addr} {n c:Nat} (h:IsQ w A Y (.slice (some p) n c) ms):∃news:List Value,news.length=n*5/\n=ms.length/\(∀j u,news[j]? = some u->w.cell? (p.add j)=some u)/\(∀u∈news,u.oneCell'=true)/\∀i,(hi:i<ms.length)->∃v u,news[i*5]? = some (.int .i64 ms[i].frm)/\news[i*5+1]? = some (.int .i64 ms[i].dst)/\news[i*5+2]? = some (.int .i64 ms[i].kind)/\news[i*5+3]? = some v/\news[i*5+4]? = some u/\IsMsg w A ms[i] v u:=by
 rcases h with ⟨h,_⟩ | ⟨g,off,c',cur,h1,h2,h3,h4,h5,h6,h7⟩
 ·cases h
 ·simp only [Value.slice.injEq] at h1;obtain ⟨e1,rfl,rfl⟩:=h1;cases e1;have hget:∀j,((cur.toList.drop (off*5)).take (ms.length*5))[j]? = if j<ms.length*5 then cur[off*5+j]? else none:=λj=>by
   rw [bP];split
   ·rw [fA,cA]
   ·rfl
  have hat:∀i,(hi:i<ms.length)->∃v u,((cur.toList.drop (off*5)).take (ms.length*5))[i*5]? = some (.int .i64 ms[i].frm)/\((cur.toList.drop (off*5)).take (ms.length*5))[i*5+1]? = some (.int .i64 ms[i].dst)/\((cur.toList.drop (off*5)).take (ms.length*5))[i*5+2]? = some (.int .i64 ms[i].kind)/\((cur.toList.drop (off*5)).take (ms.length*5))[i*5+3]? = some v/\((cur.toList.drop (off*5)).take (ms.length*5))[i*5+4]? = some u/\IsMsg w A ms[i] v u:=λi hi=>by
   obtain ⟨v,u,k1,k2,k3,k4,k5,k6⟩:=h7 i hi;have q:(off+i)*5=off*5+i*5:=by omega
   rw [q] at k1 k2 k3 k4 k5;refine ⟨v,u,?_,?_,?_,?_,?_,k6⟩
   ·rw [hget,ax (by omega)];exact k1
   ·rw [hget,ax (by omega)];exact k2
   ·rw [hget,ax (by omega)];exact k3
   ·rw [hget,ax (by omega)];exact k4
   ·rw [hget,ax (by omega)];exact k5
  refine ⟨(cur.toList.drop (off*5)).take (ms.length*5),by simp only [aE,bw,gq];omega,rfl,λj u hj=>?_,λu hu=>?_,hat⟩
  ·rw [hget] at hj;split at hj
   ·rw [Addr.add_lit,af h5];exact hj
   ·cases hj
  ·obtain ⟨j,hj⟩:=List.getElem?_of_mem hu;have hlt:j<ms.length*5:=by
    rw [hget] at hj;split at hj
    ·assumption
    ·cases hj
   obtain ⟨v,u',k1,k2,k3,k4,k5,k6⟩:=hat (j / 5) (by omega);have e:j=j / 5*5+j % 5:=by omega
   have h9:j % 5<5:=by omega
   generalize j % 5=r at e h9;rw [e] at hj
   match r,h9,hj with
   | 0,_,hj=>rw [eK,k1] at hj;cases hj;rfl
   | 1,_,hj=>rw [k2] at hj;cases hj;rfl
   | 2,_,hj=>rw [k3] at hj;cases hj;rfl
   | 3,_,hj=>rw [k4] at hj;cases hj;exact k6.one.1
   | 4,_,hj=>rw [k5] at hj;cases hj;exact k6.one.2
end
structure RowQ (w:World) (A:List Nat) (g:Nat) (v:Value) (ms:List Msg):Prop where
 q:IsQ w A [g] v ms
 typ:∃cur,w.heap[g]? = some (.cells cur 51 (0,0))
structure GrowQ (w w':World) (A:List Nat) (g:Nat) (v:Value) (ms:List Msg):Prop where
 ex:∃g',RowQ w' (A++[g']) g' v ms/\Only [g] w w'/\(g'=g\/w.heap.size<=g')
theorem IsQ.inY {w:World} {A Y:List Nat} {p:Addr} {n c:Nat} {ms:List Msg} (h:IsQ w A Y (.slice (some p) n c) ms):p.block∈Y/\∃cur,w.heap[p.block]? = some (.cells cur 51 (0,0)):=by
 rcases h with ⟨h,_⟩ | ⟨g,off,c',cur,h1,h2,h3,h4,h5,h6,h7⟩
 ·cases h
 ·simp only [Value.slice.injEq] at h1;obtain ⟨e1,_,_⟩:=h1;cases e1;exact ⟨h4,cur,h5⟩
section
variable {w w':World} {A A' Y Y':List Nat} {v:Value} {ms:List Msg}
theorem CH {n cap:Nat} {cells:List Value} {ms':List Msg} (hA:∀b∈A,b<w.heap.size) (rest:Array Value) (hn:n=ms'.length) (hcap:n<=cap) (hc9:cap<=9223372036854775807) (hsz:cap*5<=cells.length+rest.size)
  (hq:∀i,(h:i<ms'.length)->∃v u,cells[i*5]? = some (.int .i64 ms'[i].frm)/\cells[i*5+1]? = some (.int .i64 ms'[i].dst)/\cells[i*5+2]? = some (.int .i64 ms'[i].kind)/\cells[i*5+3]? = some v/\cells[i*5+4]? = some u/\IsMsg w A ms'[i] v u) :
  RowQ (w.drew.alloc (.cells (cells.toArray++rest) 51)) (A++[w.heap.size]) w.heap.size (.slice (some ⟨w.heap.size,0,none⟩) n cap) ms':=by
 have hb:Below w.heap.size w (w.drew.alloc (.cells (cells.toArray++rest) 51)):=(ap w 1).alloc (ah _) _;have hnew:(w.drew.alloc (.cells (cells.toArray++rest) 51)).heap[w.heap.size]? = some (.cells (cells.toArray++rest) 51 (0,0)):=aJ w.drew _;have hext:Ext A (A++[w.heap.size]) w:=λb hb=>by
  rcases av.1 hb with h | h
  ·exact .inl h
  ·exact .inr (by rw [aj.1 h];exact ah _)
 refine ⟨.inr ⟨w.heap.size,0,cap,_,by rw [Nat.zero_mul,hn],by omega,hc9,by simp,hnew,by simp;omega,λi hi=>?_⟩,_,hnew⟩
 ·obtain ⟨v,u,h1,h2,h3,h4,h5,h6⟩:=hq i hi;have hg:∀{j:Nat} {x:Value},cells[j]? = some x->(cells.toArray++rest)[j]? = some x:=λ{j x} hj=>by
   have hlt:=(sF.1 hj).1;rw [dI (by simpa using hlt)];simpa using hj
  rw [dg];exact ⟨v,u,hg h1,hg h2,hg h3,hg h4,hg h5,h6.step (Only.ofBelow hb []) (λb hb=>by cases hb) hext⟩
theorem zT {Y2:List Nat} {ms2:List Msg} {p2:Addr} {n2 c2:Nat} {p1:Addr} {n1 c1:Nat} (h:IsQ w A Y (.slice (some p1) n1 c1) ms) (hs:IsQ w A Y2 (.slice (some p2) n2 c2) ms2) (hYA:∀b∈Y,b∈A) (hA:∀b∈A,b<w.heap.size) (hb:ms.length+ms2.length<=1000000) (ty:TypeId) :
  ∃p n c w',(Builtin.append_ #[35,35] ty #[.slice (some p1) n1 c1,.slice (some p2) n2 c2]).run Try.prog w = .ok (.slice (some p) n c) w'/\GrowQ w w' A p1.block (.slice (some p) n c) (ms++ms2):=by
 obtain ⟨i0,hi0,hz0,hz1,hz2⟩:=info_parts tK;obtain ⟨news,hl,e2,hnews,hones,hat⟩:=hs.cells;obtain ⟨old,hlo,e1,hold,_,hato⟩:=h.cells;subst e1 e2;rcases h with ⟨h,_⟩ | ⟨g,off,c',cur,h1,h2,h3,h4,h5,h6,h7⟩
 ·cases h
 simp only [Value.slice.injEq] at h1;obtain ⟨e1,_,rfl⟩:=h1;cases e1;by_cases hroom:ms.length+ms2.length<=c1
 ·have hr:=gP (P:=Try.prog) w 35 ty 51 i0 Try.underlying35 hi0 g (off*5) ms.length c1 cur h5 p2 ms2.length c2 news (by rw [hz1];exact hl) hnews hones hroom (by rw [hz1,hl];omega);rw [hz1] at hr;refine ⟨_,_,_,_,hr,g,⟨.inr ⟨g,off,c1,_,by simp,by simpa using hroom,h3,by simp,setRow_heap _ _ _ _ _ _ h5,by simp;omega,λi hi=>?_⟩,_,setRow_heap _ _ _ _ _ _ h5⟩,du _ _ _,.inl rfl⟩;have hst:Only [g] w (w.setRow g (cur.toList.take (off*5+ms.length*5)++news++cur.toList.drop (off*5+ms.length*5+news.length)).toArray):=du _ _ _;have hgA:∀b∈[g],b∈A:=λb hb=>by rw [aj.1 hb];exact hYA g h4
  have hx9:Ext A (A++[g]) w:=λb hb=>by
   rcases av.1 hb with h | h
   ·exact .inl h
   ·exact .inl (hgA b h)
  have hl9:(cur.toList.take (off*5+ms.length*5)).length=off*5+ms.length*5:=by simp only [aE,gq];omega
  by_cases hlt:i<ms.length
  ·have e:(ms++ms2)[i]=ms[i]:=by simp [fX,hlt]
   rw [e];obtain ⟨v,u,k1,k2,k3,k4,k5,k6⟩:=h7 i hlt;have hg:∀{j:Nat} {x:Value},j<off*5+ms.length*5->cur[j]? = some x->(cur.toList.take (off*5+ms.length*5)++news++cur.toList.drop (off*5+ms.length*5+news.length)).toArray[j]? = some x:=λ{j x} hj hx=>by
    rw [eE,bH,cy (by rw [hl9];exact hj),bP,ax hj,cA];exact hx
   exact ⟨v,u,hg (by omega) k1,hg (by omega) k2,hg (by omega) k3,hg (by omega) k4,hg (by omega) k5,k6.step hst hgA hx9⟩
  ·rw [ay] at hi;obtain ⟨k,rfl⟩:∃k,i=ms.length+k:=⟨i - ms.length,by omega⟩
   have e:(ms++ms2)[ms.length+k]=ms2[k]:=by simp
   rw [e];obtain ⟨v,u,k1,k2,k3,k4,k5,k6⟩:=hat k (by omega);have hg:∀{j:Nat} {x:Value},news[k*5+j]? = some x->(cur.toList.take (off*5+ms.length*5)++news++cur.toList.drop (off*5+ms.length*5+news.length)).toArray[(off+(ms.length+k))*5+j]? = some x:=λ{j x} hx=>by
    have hlt:=(sF.1 hx).1;rw [eE,bH,dH (by rw [hl9];omega),hl9,show (off+(ms.length+k))*5+j - (off*5+ms.length*5)=k*5+j by omega,cy hlt];exact hx
   exact ⟨v,u,hg (j:=0) k1,hg k2,hg k3,hg k4,hg k5,k6.step hst hgA hx9⟩
 ·have hr:=run_append_grow (P:=Try.prog) (w:=w) 35 ty 51 i0 (.agg #[.int .i64 0,.int .i64 0,.int .i64 0,.slice none 0 0,.slice none 0 0]) Try.underlying35 hi0 hz0 ⟨g,off*5,none⟩ ms.length c1 old (by rw [hz1];exact hlo) hold p2 ms2.length c2 news (by rw [hz1];exact hl) hnews (by omega) (by omega) (growslice_fits (by omega) (by rw [hz2];omega));have eT:old.toArray++news.toArray=(old++news).toArray:=by
   apply Array.ext';simp
  rw [eT] at hr;refine ⟨_,_,_,_,hr,w.heap.size,CH (ms':=ms++ms2) hA _ (by rw [ay]) (grownCap_ge w (ms.length+ms2.length) c1 51) (aF (grownCap_le_maxLen w (ms.length+ms2.length) c1 51 (by unfold maxLen;omega)) (by unfold maxLen;omega)) ?_ (λi hi=>?_),Only.ofBelow ((ap w 1).alloc (ah _) _) _,.inr (ah _)⟩
  ·rw [size_zeroCells,ay,hlo,hl];have:=grownCap_ge w (ms.length+ms2.length) c1 51;simp [Value.cells];omega
  ·by_cases hlt:i<ms.length
   ·have e:(ms++ms2)[i]=ms[i]:=by simp [fX,hlt]
    rw [e];obtain ⟨v,u,k1,k2,k3,k4,k5,k6⟩:=hato i hlt;have hg:∀{j:Nat} {x:Value},old[j]? = some x->(old++news)[j]? = some x:=λ{j x} hx=>by
     rw [cy (sF.1 hx).1];exact hx
    exact ⟨v,u,hg k1,hg k2,hg k3,hg k4,hg k5,k6⟩
   ·rw [ay] at hi;obtain ⟨k,rfl⟩:∃k,i=ms.length+k:=⟨i - ms.length,by omega⟩
    have e:(ms++ms2)[ms.length+k]=ms2[k]:=by simp
    rw [e];obtain ⟨v,u,k1,k2,k3,k4,k5,k6⟩:=hat k (by omega);have hg:∀{j:Nat} {x:Value},news[k*5+j]? = some x->(old++news)[(ms.length+k)*5+j]? = some x:=λ{j x} hx=>by
     rw [dH (by rw [hlo];omega),hlo,show (ms.length+k)*5+j - ms.length*5=k*5+j by omega];exact hx
    exact ⟨v,u,hg (j:=0) k1,hg k2,hg k3,hg k4,hg k5,k6⟩
end
theorem xR {p:Prop} (h:p:=by
 refine hK.out _ _ trivial (λam=>?_);clear hK K;refine bu ?_;refine az 7 ?_;refine cf 8 λK hK=>?_;go_simp
 refine (HP.out _ HB4.out _ HI4.out).mono ?_;rintro e w5 ⟨rfl,hn5⟩;have HN5:=ab hn5;clear hn5;go_wp2_with fail
 refine hK.out _ _ trivial (λam=>?_);clear hK K;refine bu ?_;refine az 9 ?_;refine fc ?_;go_wp2_with fail
 go_meet
 exact ⟨by rfl,HN5.out⟩):p:=h
structure SbP (w w':World) (A X:List Nat) (r d l:Nat) (e:Ending) (p:List Msg×Int×Rp×Dk):Prop where
 ex:∃v A' X',e = .returned (.tuple #[v,.int .i64 p.2.1])/\Nd w' A' X' r d l p.2.2.1 p.2.2.2/\OwnMs w' A' w.heap.size v p.1/\Mv A A' X X' w w'/\∀b,v.ownBlock=some b->b∉A'
section
variable {w w':World} {A A' X X':List Nat} {r d l:Nat} {s s':Rp} {k k':Dk}
theorem SbP.none {z:Int} (h:NdP w w' A X r d l s' k'):SbP w w' A X r d l (.returned (.tuple #[.slice none 0 0,.int .i64 z])) ([],z,s',k'):=by
 obtain ⟨A',X',h,m⟩:=h;exact ⟨_,A',X',rfl,h,OwnMs.nil _ _ _,m,(λb hb=>by cases hb)⟩
set_option maxHeartbeats 4000000 in
theorem te (h:Nd w A X r d l s k) (hw:Wf s k) (ao:Option Addr) (n c:Nat) (rec:List UInt8) (hi:Imm w A (.slice ao n c) rec) (hn:n=rec.length) (hnb:n<=1000000):Calls Try.prog 16 #[.pointer (some ⟨r,0,none⟩),.slice ao n c] w λe w'=>SbP w w' A X r d l e (bJ s k rec):=by
 have HD:=ab (iV h);have HXR:=ab h.rX;have HRL:Hid (rec.length=n):=ab hn.symm;have HXA:=ab (h.xA r h.rX);have HW:=ab (gx hw);have HIM:=ab hi;have H:=ab h;by_cases h0:n=0
 ·have HE:Hid (bJ s k rec=([],1,s,k)):=ab (by unfold bJ;rw [ax (by omega)]);clear h hw hi;go_enter Try.func16,Try.ntmps16
  go_wp2_with fail
  go_ret2
  rw [HE.out];exact SbP.none (H.out.ndp (Mv.refl _ _ _))
 ·by_cases h8:8000<n
  ·have HE:Hid (bJ s k rec=([],2,s,k)):=ab (by unfold bJ;rw [aw (by omega),ax (by omega)]);have g8:(8000:Int)<(n:Int):=by omega
   have g0:((n:Int)==0)=false:=by simp;omega
   clear h hw hi;go_enter Try.func16,Try.ntmps16
   go_wp2_with fail
   go_ret2
   rw [HE.out];exact SbP.none (H.out.ndp (Mv.refl _ _ _))
  ·have HE:Hid (bJ s k rec=(let s1:=aY s k
    if s1.done then ([],10,s1,k) else if !s1.leads then ([],15,s1,k) else if 200<=ik s1\/2000<=s1.many then ([],9,s1,k) else
    let p:=fy s1 k ⟨s1.term,rec⟩
    if p.1 then (let s2:=(bS p.2.1).2;(dc s2 (cw s2),0,s2,p.2.2)) else ([],10,p.2))):=ab (by unfold bJ;rw [aw (by omega),aw (by omega)])
   have g8:¬(8000:Int)<(n:Int):=by omega
   have g0:((n:Int)==0)=false:=by simp;omega
   (try simp only at HE)
   have hdd:(aY s k).done=ew s k:=rfl;clear h hw hi hn;generalize aY s k=s1 at *;go_enter Try.func16,Try.ntmps16
   go_wp2_with fail
   refine HD.out.mono ?_;rintro e w2 ⟨rfl,hn2,ho2⟩;have H2:=ab hn2;have M2:=ab (Mv.only (A:=A) ho2 (by simpa using HXR.out));have HI2:=ab (HIM.out.step ho2 (by simpa using HXA.out) (Ext.refl _ _));obtain ⟨vl,gv,gn,gm,gh,hcell⟩:=hn2.cells;have hc11:w2.cell? ⟨r,11,none⟩=some (.bool s1.leads):=by rw [af hcell];rfl
   have hc10:w2.cell? ⟨r,10,none⟩=some (.int .i64 (s1.many:Int)):=by rw [af hcell];rfl
   have hc6:w2.cell? ⟨r,6,none⟩=some (.int .i64 s1.term):=by rw [af hcell];rfl
   clear hn2 ho2 hcell;cases hdn:ew s k with
   | true =>
    rw [ax (by rw [hdd,hdn])] at HE;go_wp2_with fail
    go_ret2
    rw [HE.out];exact SbP.none (H2.out.ndp M2.out)
   | false =>
    rw [aw (by rw [hdd,hdn];decide)] at HE;cases hld:s1.leads with
    | false =>
     rw [hld] at hc11 HE;rw [ax (by decide)] at HE;go_wp2_with fail
     go_ret2
     rw [HE.out];exact SbP.none (H2.out.ndp M2.out)
    | true =>
     rw [hld] at hc11 HE;rw [aw (by decide)] at HE;have HOP:=ab (yZ H2.out HW.out.agr (by have:=HW.out.logb;omega));generalize ik s1=om at *;by_cases hfull:200<=om\/2000<=s1.many
     ·rw [ax hfull] at HE;by_cases ho:200<=om
      ·have g2:(200:Int)<=(om:Int):=by omega
       clear hfull;go_wp2_with fail
       refine HOP.out.mono ?_;rintro e w3 ⟨rfl,hb3⟩;have HB3:=ab hb3;clear hb3;go_wp2_with fail
       go_ret2
       rw [HE.out];exact SbP.none ((H2.out.below HB3.out).ndp (M2.out.trans (Mv.below HB3.out)))
      ·have g2:¬(200:Int)<=(om:Int):=by omega
       have g3:(2000:Int)<=(s1.many:Int):=by omega
       clear hfull;go_wp2_with fail
       refine HOP.out.mono ?_;rintro e w3 ⟨rfl,hb3⟩;have HB3:=ab hb3;have hk10:=cell_later hb3 hc10;clear hb3;go_wp2_with fail
       go_ret2
       rw [HE.out];exact SbP.none ((H2.out.below HB3.out).ndp (M2.out.trans (Mv.below HB3.out)))
     ·rw [aw hfull] at HE;have g2:¬(200:Int)<=(om:Int):=by omega
      have g3:¬(2000:Int)<=(s1.many:Int):=by omega
      clear hfull;have HNB:=ab hnb;go_wp2_with fail
      refine HOP.out.mono ?_;rintro e W3 ⟨rfl,hb3⟩;have h3:Nd W3.drew A X r d l s1 k:=(H2.out.below hb3).below (ap W3 1);have M3:Hid (Mv A A X X w W3.drew):=ab (M2.out.trans ((Mv.below hb3).trans (Mv.below (ap W3 1))));have hi3:Imm W3.drew A (.slice ao n c) rec:=(HI2.out.below hb3).below (ap W3 1);have hk10:=cell_later hb3 hc10;have hk6:=cell_later hb3 hc6;have hkv6:W3.drew.cell? ⟨r,6,none⟩=some (.int .i64 s1.term):=hk6;have HIB:Hid (IsB W3.drew ao n c rec):=ab (by
       obtain ⟨ao',c',e,h1,_⟩:=hi3;rw [HRL.out] at e h1;cases e;exact h1)
      have HAD:=ab h3.alt;have hrl8:rec.length<=8000:=by rw [HRL.out];omega
      have HP:Hid (∀W',Below W3.drew.heap.size W3.drew W'->∀u,Imm W' A u rec->Calls Try.prog 28 #[.pointer (some ⟨r,0,none⟩),.agg #[.int .i64 s1.term,u]] W' λe w'=>e = .returned (.bool (fy s1 k ⟨s1.term,rec⟩).1)/\NdP w w' A X r d l (fy s1 k ⟨s1.term,rec⟩).2.1 (fy s1 k ⟨s1.term,rec⟩).2.2):=ab (λW' hb u hu =>
       (uy (h3.below hb) HW.out ⟨s1.term,rec⟩ hrl8 u hu).mono (by rintro e w' ⟨q1,q2⟩;exact ⟨q1,q2.trans (M3.out.trans (Mv.below hb))⟩))
      have HWP:=ab (mW HW.out ⟨s1.term,rec⟩ hrl8);have HSP:=ab (kY (s:=s1) (k:=k) ⟨s1.term,rec⟩);have hld2:s1.leads=true:=hld;have HLD:=ab hld2;clear hb3 hi3 h3 hrl8 hc10 hc11 hc6
      (try simp only at HE)
      generalize fy s1 k ⟨s1.term,rec⟩=p at *;obtain ⟨ok,s2,k2⟩:=p
      (try simp only at HE);(try simp only at HP);(try simp only at HWP);(try simp only at HSP)
      go_upto_region 11 with (fail)
      go_cut [43] (λv wx=>v = .bool (!ok)/\NdP w wx A X r d l s2 k2)
      case first =>
       as_aux_lemma =>
       refine wp_region_held_drew (S:=λ_=>True) (by kernel_rfl) trivial (λam=>?_);refine az 0 ?_;refine az 1 ?_;refine az 2 ?_;refine az 3 ?_;refine az 5 ?_;generalize W3.drew=V3 at *;refine gJ 4 6 (λK hK=>?_) λK hK=>?_
       ·go_simp
        refine hK.out _ _ trivial (λam=>?_);clear hK K;refine bu ?_;refine cf 6 λK hK=>?_;go_simp
        refine (F.dJ ao n c rec _ HIB.out (by have:=HNB.out;omega)).mono ?_;rintro e w4 ⟨v4,rfl,ho4,hb4⟩;have HI4:=ab (Imm.new ho4 HAD.out);have HB4:=ab hb4;have hk4:=cell_later hb4 hkv6;obtain ⟨a4,c4,e4,_⟩:=id HI4.out;rw [HRL.out] at e4;subst e4;clear ho4 hb4;go_wp2_with fail
        exact xR
       ·go_simp
        refine (F.dJ ao n c rec _ HIB.out (by have:=HNB.out;omega)).mono ?_;rintro e w4 ⟨v4,rfl,ho4,hb4⟩;have HI4:=ab (Imm.new ho4 HAD.out);have HB4:=ab hb4;have hk4:=cell_later hb4 hkv6;obtain ⟨a4,c4,e4,_⟩:=id HI4.out;rw [HRL.out] at e4;subst e4;clear ho4 hb4;go_wp2_with fail
        refine hK.out _ _ trivial (λam=>?_);clear hK K;refine bu ?_;refine cf 4 λK hK=>?_;go_simp
        exact xR
      case rest =>
      obtain ⟨rfl,hn5⟩:=hcut;have HN5:=ab hn5;clear hn5;cases ok with
      | false =>
       rw [aw (by simp)] at HE;go_wp2_with fail
       go_ret2
       rw [HE.out];exact SbP.none HN5.out
      | true =>
       rw [ax rfl] at HE;obtain ⟨A2,X2,h5,m5⟩:=HN5.out;have H5:=ab h5;have M5:=ab m5;clear h5 m5;go_wp2_with fail
       refine (kx H5.out HWP.out).mono ?_;rintro e w6 ⟨rfl,A3,X3,h6,m6⟩;have H6:=ab h6;have M6:=ab (M5.out.trans m6);have HW6:=ab (fJ HWP.out);have HL6:Hid ((bS s2).2.leads=true):=ab (by
         obtain ⟨w0,d0,l0,e0⟩:=HSP.out;rw [ja,e0];exact HLD.out)
       clear h6 m6;generalize (bS s2).1=ob at *;generalize (bS s2).2=s3 at *;go_wp2_with fail
       refine (gw H6.out HW6.out.n5 HW6.out (λi _=>(HW6.out.lead HL6.out i).1)).mono ?_;rintro e w7 ⟨v7,rfl,ho7,hb7⟩;have HF:Hid (SbP w w7 A X r d l (.returned (.tuple #[v7,.int .i64 0])) (dc s3 (cw s3),0,s3,k2)):=ab ⟨v7,A3,X3,rfl,H6.out.below hb7,ho7.mono M6.out.mv.only.size,M6.out.trans (Mv.below hb7),λb hb8 hm8=>by have:=(ho7.lt b (by simp [hb8])).1;have:=H6.out.alt b hm8;omega⟩;clear ho7 hb7;go_wp2_with fail
       go_ret2
       rw [HE.out];exact HF.out
end
end Go.Proofs.Ytnicaicjgaoolaa
