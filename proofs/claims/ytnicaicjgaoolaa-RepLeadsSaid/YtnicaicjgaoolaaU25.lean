/-
  What the proof of the law leans on: contracts of the program's functions, one behind another. No condition.
-/
import Derived.Test.YtnicaicjgaoolaaU0
import Derived.Test.YtnicaicjgaoolaaU24
import Derived.Test.YtnicaicjgaoolaaU18
import Derived.Test.YtnicaicjgaoolaaU14
import Derived.Test.YtnicaicjgaoolaaU17
set_option linter.unusedVariables false
set_option linter.unusedSimpArgs false
namespace Go.Proofs.Ytnicaicjgaoolaa
open Go.RowKit Go.ChangeMaps Go.WideMaps Go.Maps
set_option maxRecDepth 20000
section
variable {w w' w2:World} {A A' Y Z Z':List Nat} {c n cl:Nat} {S:Mn} {rs ds ls:Nat->Nat} {Xs:Nat->List Nat} {vr vd:Value} {gu:Nat} {qv gv lv:Value}
theorem SyC.sbp {i:Nat} {e:Ending} {p:List Msg×Int×Rp×Dk} (h:SyC w A Y c n S rs ds ls Xs vr vd gu qv gv lv) (hz:∀b,b∈Z↔b∈Y\/∃i,i<n/\b∈Xs i) (hi:i<n) (hu:(S.at i).up=true) (hp:SbP w w' A (Xs i) (rs i) (ds i) (ls i) e p) :
  ∃v A' Z',e = .returned (.tuple #[v,.int .i64 p.2.1])/\Sy w' A' Z' c n (S.set i ⟨p.2.2.1,p.2.2.2,true⟩)/\MsRow w' A' v p.1/\Mv A A' Z Z' w w':=by
 obtain ⟨v,A',X',he,hn,ho,hm,hv⟩:=hp;obtain ⟨Z',hz',hmz⟩:=j6 (Y:=Y) hi hz hm;have hs:=h.call (nd:=⟨p.2.2.1,p.2.2.2,true⟩) hi hm ⟨λ_=>hn,(λe=>by cases e),hn.xA⟩ hu.symm hn.alt;exact ⟨v,A',Z',he,⟨Y,rs,ds,ls,gH Xs i X',vr,vd,gu,qv,gv,lv,hs,hz'⟩,ho.row hv,hmz⟩
theorem SyC.setg {v':Value} {vs:List Value} (h:SyC w A Y c n S rs ds ls Xs vr vd gu qv gv lv) (hz:∀b,b∈Z↔b∈Y\/∃i,i<n/\b∈Xs i) (hr:w'.ownsRow 0 29 1 v' (S.gn+1) vs) (hoT:Only gv.ownBlock.toList w w') (hf:∀k,v'.ownBlock=some k->gv.ownBlock=some k\/w.heap.size<=k) :
  SyP w (w'.setCell ⟨c,4,none⟩ v') A Z c n { S with gn:=S.gn+1 }:=by
 obtain ⟨vs0,hg0⟩:=h.gave;have hTY:∀b∈gv.ownBlock.toList,b∈Y:=λb hb=>h.gY b (by simpa using hb);have hTA:∀b∈gv.ownBlock.toList,b∈A:=λb hb=>h.yA b (hTY b hb);have hne:∀{b:Nat} {cs:Array Value} {t:TypeId},w.heap[b]? = some (.cells cs t (0,0))->t≠29->b∉gv.ownBlock.toList:=λ{b cs t} hb ht hm=>by
  have:=bU hg0 (show gv.ownBlock=some b by simpa using hm);rw [hb] at this;simp at this;exact ht this
 have hlt:∀b,v'.ownBlock=some b->b<w'.heap.size:=λb hb=>(World.ownsRow.lt hr b hb).2;have hext:Ext A (A++v'.ownBlock.toList) w:=λb hb=>by
  rcases av.1 hb with h1 | h1
  ·exact .inl h1
  ·rcases hf b (by simpa using h1) with h2 | h2
   ·exact .inl (h.yA b (h.gY b h2))
   ·exact .inr h2
 have hsub:∀b∈A,b∈A++v'.ownBlock.toList:=λb hb=>aD _ hb;have ha:∀b∈A++v'.ownBlock.toList,b<w'.heap.size:=λb hb=>by
  rcases av.1 hb with h1 | h1
  ·exact aH (h.alt b h1) hoT.size
  ·exact hlt b (by simpa using h1)
 have hc1:=hoT.keeps h.cell (hne h.cell (by decide));have hon:Only [c] w' (w'.setCell ⟨c,4,none⟩ v'):=(Only.refl _ _).setCell (by simp) _;have hc2:(w'.setCell ⟨c,4,none⟩ v').heap[c]? = some (.cells #[vr,vd,.slice (some ⟨gu,0,none⟩) n n,qv,v',lv,.bool S.bad] 38 (0,0)):=by rw [aZ hc1];rfl
 have hrow2:∀{v:Value} {e:TypeId} {k m:Nat} {xs:List Value},w'.ownsRow 0 e k v m xs->e≠38->(w'.setCell ⟨c,4,none⟩ v').ownsRow 0 e k v m xs:=λ{v e k m xs} h1 he2=>by
  refine bg h1 hon (λb hb hm=>?_);rw [aj.1 hm] at hb;have:=bU h1 hb;rw [hc1] at this;simp at this;exact he2 this.symm
 have hrow1:∀{v:Value} {e:TypeId} {k m:Nat} {xs:List Value},w.ownsRow 0 e k v m xs->e≠29->w'.ownsRow 0 e k v m xs:=λ{v e k m xs} h1 he=>bg h1 hoT (λb hb=>hne (bU h1 hb) he);have hupT:=hoT.keeps h.up (hne h.up (by decide));have hcA':c∈A++v'.ownBlock.toList:=hsub c (h.yA c h.cY);have hyn:∀b∈Y++v'.ownBlock.toList,b∈Y\/w.heap.size<=b:=λb hb=>by
  rcases av.1 hb with h1 | h1
  ·exact .inl h1
  ·rcases hf b (by simpa using h1) with h2 | h2
   ·exact .inl (h.gY b h2)
   ·exact .inr h2
 have hYX:∀i,i<n->Dis (Y++v'.ownBlock.toList) (Xs i):=λi hi b hb hx=>by
  rcases hyn b hb with h1 | h1
  ·exact h.yx i hi b h1 hx
  ·have:=h.alt b ((h.node i hi).xA b hx);omega
 have hcX:∀i,i<n->∀b∈Xs i,b∉[c]:=λi hi b hb hm=>by
  rw [aj.1 hm] at hb;exact h.yx i hi c h.cY hb
 have ha2:∀b∈A++v'.ownBlock.toList,b<(w'.setCell ⟨c,4,none⟩ v').heap.size:=λb hb=>by simpa using ha b hb
 have hq1:=h.q.keep (Y':=Y++v'.ownBlock.toList) hoT hTA (λb _ cur hc=>hne hc (by decide)) hext (λb hb=>aD _ hb);refine ⟨A++v'.ownBlock.toList,(Y++v'.ownBlock.toList)++Z,⟨Y++v'.ownBlock.toList,rs,ds,ls,Xs,vr,vd,gu,qv,v',lv,⟨hc2,hrow2 (hrow1 h.rr (by decide)) (by decide),hrow2 (hrow1 h.dr (by decide)) (by decide),?_,λi hi=>?_,hq1.keep hon (λb hb=>by rw [aj.1 hb];exact hcA') (λb _ cur hcur hm=>by
   rw [aj.1 hm,hc1] at hcur;simp at hcur) (Ext.refl _ _) (λb hb=>hb),⟨vs,hrow2 hr (by decide)⟩,?_,h.nl,h.n5,aD _ h.cY,λb hb=>aD _ (h.rY b hb),λb hb=>aD _ (h.dY b hb),aD _ h.uY,λb hb=>aG _ (by simp [hb]),hYX,h.xx,λb hb=>?_,ha2⟩,λb=>?_⟩,?_⟩
 ·exact hon.keeps hupT (λhm=>by
   rw [aj.1 hm,hc1] at hupT;simp at hupT)
 ·have h1:=(h.node i hi).keep hoT hTA (λb hb hm=>h.yx i hi b (hTY b hm) hb) hext hsub ha;exact h1.keep hon (λb hb=>by rw [aj.1 hb];exact hcA') (hcX i hi) (Ext.refl _ _) (λb hb=>hb) ha2
 ·exact (h.long.step hoT hTA hext).step hon (λb hb=>by rw [aj.1 hb];exact hcA') (Ext.refl _ _)
 ·rcases av.1 hb with h1 | h1
  ·exact hsub b (h.yA b h1)
  ·exact aG _ h1
 ·rw [av,hz b];constructor
  ·rintro (h1 | h1 | h1)
   ·exact .inl h1
   ·exact .inl (aD _ h1)
   ·exact .inr h1
  ·rintro (h1 | h1)
   ·exact .inl h1
   ·exact .inr (.inr h1)
 ·have ho5:Only Z w (w'.setCell ⟨c,4,none⟩ v'):=(hoT.mono (λb hb=>(hz b).2 (.inl (hTY b hb)))).trans (hon.mono (λb hb=>by rw [aj.1 hb];exact (hz c).2 (.inl h.cY)));refine ⟨⟨ho5,λb hb=>?_,λb hb=>aG _ hb⟩,hext,hsub⟩;rcases av.1 hb with h1 | h1
  ·rcases hyn b h1 with h2 | h2
   ·exact .inl ((hz b).2 (.inl h2))
   ·exact .inr h2
  ·exact .inl h1
end
def gG (K:Int) (n:Nat):Nat:=((bits .and .i64 K 65535).tmod (n:Int)).toNat
theorem qk (K:Int) (n:Nat) (hn:1<=n):(bits .and .i64 K 65535).tmod (n:Int)=((gG K n:Nat):Int)/\gG K n<n:=by
 obtain ⟨x,h1,h2⟩:=su K 65535 (by omega);have h1:bits .and .i64 K 65535=(x:Int):=h1;unfold gG;rw [h1,<-Int.ofNat_tmod,dj];exact ⟨rfl,Nat.mod_lt _ (by omega)⟩
def Mn.lose (S:Mn) (K:Int):Mn:={ S with q:=S.q.take (gG K S.q.length)++S.q.drop (gG K S.q.length+1)}
def Mn.fetch (S:Mn) (K:Int):Mn:=match S.q[gG K S.q.length]? with
 | none=>S
 | some m=>(S.lose K).bring m
def Mn.twice (S:Mn) (K:Int):Mn:=match S.q[gG K S.q.length]? with
 | none=>S
 | some m=>{ S with q:=gM S.q m }
theorem zm {S:Mn} (K:Int) (h:S.q.length=0):S.lose K=S:=by
 obtain ⟨a,q,b,c,d⟩:=S;cases q with
 | nil=>simp [Mn.lose]
 | cons m q=>simp at h
theorem wI {S:Mn} (K:Int) (h:S.q.length=0):S.fetch K=S:=by
 unfold Mn.fetch;rw [bC.1 h];simp
theorem vi {S:Mn} (K:Int) (h:S.q.length=0):S.twice K=S:=by
 unfold Mn.twice;rw [bC.1 h];simp
section
variable {w w':World} {A A' Y Z Z':List Nat} {c n cl:Nat} {S:Mn}
theorem IsQ.at {v:Value} {ms:List Msg} (h:IsQ w A Y v ms) (j:Nat) (hj:j<ms.length):∃g off c mv mu,v = .slice (some ⟨g,off,none⟩) ms.length c/\ms.length<=c/\w.cell? ⟨g,off+j*5,none⟩=some (.int .i64 ms[j].frm)/\w.cell? ⟨g,off+j*5+1,none⟩=some (.int .i64 ms[j].dst)/\w.cell? ⟨g,off+j*5+2,none⟩=some (.int .i64 ms[j].kind)/\w.cell? ⟨g,off+j*5+3,none⟩=some mv/\w.cell? ⟨g,off+j*5+4,none⟩=some mu/\IsMsg w A ms[j] mv mu:=by
 rcases h with ⟨rfl,rfl⟩ | ⟨g,off,c,cur,h1,h2,h3,h4,h5,h6,h7⟩
 ·cases hj
 ·obtain ⟨v,u,k1,k2,k3,k4,k5,k6⟩:=h7 j hj;have q:(off+j)*5=off*5+j*5:=by omega
  rw [q] at k1 k2 k3 k4 k5;exact ⟨g,off*5,c,v,u,h1,h2,by rw [af h5];exact k1,by rw [af h5];exact k2,by rw [af h5];exact k3,by rw [af h5];exact k4,by rw [af h5];exact k5,k6⟩
theorem SInv.lose (h:SInv n cl S) (K:Int):SInv n cl (S.lose K):=⟨h.nl,h.id,h.wf,λm hm=>h.q m (by
 rcases av.1 hm with h1 | h1
 ·exact eS h1
 ·exact List.mem_of_mem_drop h1),by
 have:=h.ql;show (S.q.take _++S.q.drop _).length<=2000;simp only [ay,aE,bw];omega⟩
end
section
variable {w w':World} {A A' Y Y':List Nat} {v:Value} {ms:List Msg}
theorem QAt.less {cur:Array Value} {i:Nat} {m:Msg} (h:QAt w A' cur i m) (hs:∀b∈A,b∈A'):QAt w A cur i m:=by
 obtain ⟨v,u,h1,h2,h3,h4,h5,h6⟩:=h;exact ⟨v,u,h1,h2,h3,h4,h5,h6.less hs⟩
theorem IsQ.less (h:IsQ w A' Y v ms) (hs:∀b∈A,b∈A') (hY:∀b∈Y,b∈Y'):IsQ w A Y' v ms:=by
 rcases h with h | ⟨g,off,c,cur,h1,h2,h3,h4,h5,h6,h7⟩
 ·exact .inl h
 ·exact .inr ⟨g,off,c,cur,h1,h2,h3,hY g h4,h5,h6,λi hi=>(h7 i hi).less hs⟩
structure LoseP (w W1:World) (A Y:List Nat) (ty ty2:TypeId) (p:Addr) (n c:Nat) (ms:List Msg) (j:Nat):Prop where
 ex:∃p1 n1 c1 W2,(Builtin.append_ #[35,35] ty #[.slice (some ⟨w.heap.size,0,none⟩) 0 0,.slice (some p) j c]).run Try.prog W1 = .ok (.slice (some p1) n1 c1) W2/\Only [w.heap.size] W1 W2 /\
  ∃p2 n2 c2 W3,(Builtin.append_ #[35,35] ty2 #[.slice (some p1) n1 c1,.slice (some (if c=j+1 then p else p.add ((j+1)*5))) (n - (j+1)) (c - (j+1))]).run Try.prog W2 = .ok (.slice (some p2) n2 c2) W3/\Only [] w W3/\QP w W3 A Y (.slice (some p2) n2 c2) (ms.take j++ms.drop (j+1))
theorem zl {p:Addr} {n c:Nat} (h:IsQ w A Y (.slice (some p) n c) ms) (hYA:∀b∈Y,b∈A) (hA:∀b∈A,b<w.heap.size) (j:Nat) (hj:j<n) (hb:ms.length<=2000) (ty ty2:TypeId) (cs:Array Value) :
  LoseP w (w.alloc (.cells cs 51)) A Y ty ty2 p n c ms j:=by
 have hb1:Below w.heap.size w (w.alloc (.cells cs 51)):=(aB _ _).alloc (ah _) _;have hnew:=aJ w (.cells cs 51);have hsz:(w.alloc (.cells cs 51)).heap.size=w.heap.size+1:=by simp
 have hn:n=ms.length:=by
  rcases h with ⟨h,_⟩ | ⟨g,off,c',cur,h1,_⟩
  ·cases h
  ·simp only [Value.slice.injEq] at h1;exact h1.2.1
 generalize w.alloc (.cells cs 51)=W1 at *;have hx1:Ext A (A++[w.heap.size]) w:=λb hb=>by
  rcases av.1 hb with h | h
  ·exact .inl h
  ·exact .inr (by rw [aj.1 h];exact ah _)
 have hq1:IsQ W1 (A++[w.heap.size]) Y (.slice (some p) n c) ms:=h.keep (Only.ofBelow hb1 []) (λb hb=>by cases hb) (λb _ _ _=>by simp) hx1 (λb hb=>hb);have hr0:IsQ W1 (A++[w.heap.size]) [w.heap.size] (.slice (some ⟨w.heap.size,0,none⟩) 0 0) []:=.inr ⟨w.heap.size,0,0,cs,by simp,ah _,by omega,by simp,hnew,by omega,λi hi=>by cases hi⟩;have hA1:∀b∈A++[w.heap.size],b<W1.heap.size:=λb hb=>by
  rw [hsz];rcases av.1 hb with h | h
  ·have:=hA b h;omega
  ·rw [aj.1 h];omega
 have hlt:∀k,(ms.take k).length<=2000:=λk=>by rw [aE];omega
 obtain ⟨p1,n1,c1,W2,hr1,g1,hg1,ho1,hs1⟩:=zT hr0 (hq1.take j (by omega)) (λb hb=>aG _ hb) hA1 (by have:=hlt j;simp only [dU];omega) ty;have hs1:g1=w.heap.size\/W1.heap.size<=g1:=hs1;refine ⟨p1,n1,c1,W2,hr1,ho1,?_⟩;have hx2:Ext (A++[w.heap.size]) ((A++[w.heap.size])++[g1]) W1:=λb hb=>by
  rcases av.1 hb with h | h
  ·exact .inl h
  ·rw [aj.1 h];rcases hs1 with e | e
   ·exact .inl (by rw [e];simp)
   ·exact .inr e
 have hYH:∀b∈Y,b∉[w.heap.size]:=λb hb hm=>by
  have:=hA b (hYA b hb);rw [aj.1 hm] at this;omega
 have hq2:IsQ W2 ((A++[w.heap.size])++[g1]) Y (.slice (some p) n c) ms:=hq1.keep ho1 (λb hb=>aG _ hb) (λb hb _ _=>hYH b hb) hx2 (λb hb=>hb);obtain ⟨cur1,ht1⟩:=hg1.typ;have hA2:∀b∈(A++[w.heap.size])++[g1],b<W2.heap.size:=λb hb=>by
  rcases av.1 hb with h | h
  ·exact aH (hA1 b h) ho1.size
  ·rw [aj.1 h];exact aU ht1
 obtain ⟨p2,n2,c2,W3,hr2,g2,hg2,ho2,hs2⟩:=zT hg1.q (hq2.drop (j+1) (by omega)) (λb hb=>aG _ hb) hA2 (by
  simp only [bR,aE,bw];omega) ty2
 have e1:=aj.1 (hg1.q.inY.1);rw [e1] at ho2 hs2;have hon:Only [] w W3:=(((Only.ofBelow hb1 [w.heap.size,g1]).trans (ho1.mono (λb hb=>by simp at hb;simp [hb]))).trans (ho2.mono (λb hb=>by simp at hb;simp [hb]))).cut (λb hb hlt2=>by
  simp only [bG,iZ,or_false] at hb;rcases hb with rfl | rfl
  ·omega
  ·rcases hs1 with e | e<;>omega)
 have hg1n:w.heap.size<=g1:=by rcases hs1 with e | e<;>omega
 have hg2n:w.heap.size<=g2:=by
  rcases hs2 with e | e
  ·omega
  ·have:=ho1.size;omega
 obtain ⟨cur2,ht2⟩:=hg2.typ;have hx9:Ext A (A++[g2]) w:=λb hb=>by
  rcases av.1 hb with h | h
  ·exact .inl h
  ·exact .inr (by rw [aj.1 h];exact hg2n)
 refine ⟨p2,n2,c2,W3,hr2,hon,A++[g2],Y++[g2],?_,⟨⟨hon.mono (λb hb=>by cases hb),λb hb=>?_,λb hb=>aD _ hb⟩,hx9,λb hb=>aD _ hb⟩,λb hb=>?_,λb hb=>?_,λb hb=>?_,[],hon,(λb hb=>by cases hb)⟩
 ·have:=hg2.q;rw [bR] at this;exact this.less (λb hb=>by
   rcases av.1 hb with h | h
   ·simp [h]
   ·simp [aj.1 h]) (λb hb=>aG _ hb)
 ·rcases av.1 hb with h | h
  ·exact .inl h
  ·exact .inr (by rw [aj.1 h];exact hg2n)
 ·rcases av.1 hb with h | h
  ·exact aH (hA b h) hon.size
  ·rw [aj.1 h];exact aU ht2
 ·rcases av.1 hb with h | h
  ·exact aD _ (hYA b h)
  ·exact aG _ h
 ·rcases av.1 hb with h | h
  ·exact .inl h
  ·rw [aj.1 h];exact .inr ⟨hg2n,cur2,ht2⟩
theorem eo {ops:Array Oper} {rest:List Oper} {o:Oper} {a:Act} {Q:Exit->Act->World->Prop} (hgd:o.guard=none) (sx x:Operand)
  (ho:o.op = .call { callee:=.builtin .append,args:=#[sx,x],argTypes:=#[35,35]}) {va vb v':Value}
  (hs:a.eval sx=va) (hx:a.eval x=vb) (hr:(Builtin.append_ #[35,35] o.type #[va,vb]).run Try.prog w = .ok v' w')
  (hk:wpList Try.prog ops Q rest (a.put o.dst v') w'):wpList Try.prog ops Q (o::rest) a w:=by
 refine wpList_plain hgd λK hK=>?_;unfold Oper.wp;simp [execOp,ho,resolve,invoke,builtin,hs,hx,hr,Result.andThen];exact hK _ _ hk
end
theorem vF (l:List Ent) (j:Nat) (h:j<l.length):recs (l.take (j+1))=if ((l.map Ent.bs).getD j []).length=0 then recs (l.take j) else recs (l.take j)++[(l.map Ent.bs).getD j []]:=by
 have e2:(l.map Ent.bs).getD j []=l[j].bs:=by simp [List.getD,h]
 rw [e2,<-bF h];unfold recs;rw [cC,bW];generalize l[j]=x;obtain ⟨t,bs⟩:=x;cases bs<;>simp
theorem uv (l:List Ent):(recs l).length<=l.length:=by
 unfold recs;rw [aQ];exact cR _ _
section
variable {w w':World} {A A' X X':List Nat} {r d l:Nat} {s s':Rp} {k k':Dk}
set_option maxHeartbeats 4000000 in
theorem oc (h:Nd w A X r d l s k) (hw:Wf s k):Calls Try.prog 12 #[.pointer (some ⟨r,0,none⟩)] w λe w'=>∃v,e = .returned v/\OwnL w' w.heap.size v (dx s)/\Below w.heap.size w w':=by
 have hlogb:=hw.logb;have hagr:=hw.agr;have HRL:=ab hw.recl;obtain ⟨ao,c,hlr⟩:=h.logR;have hc8:=hlr.c8;have hle:=hlr.le;have hcm:=hlr.cm;have HL:=ab hlr;obtain ⟨vl,gv,gn,gm,gh,hcell⟩:=h.cells;have hc9:w.cell? ⟨r,9,none⟩=some (.int .i64 (s.agreed:Int)):=by rw [af hcell];rfl
 have HAM:Hid (dx s=recs (s.log.take s.agreed)):=ab rfl;have HST:=ab (λj (hj:j<s.log.length)=>vF s.log j hj);have HRC:=ab (λj=>uv (s.log.take j));clear hlr hcell h hw;generalize s.agreed=m at *;go_enter Try.func12,Try.ntmps12
 go_upto_region 2 with (fail)
 go_cut [14,15,16] (λv n i wx=>v = .slice ao m c/\n = .int .i64 (m:Int)/\i = .int .i64 0/\∃nq,wx=w.drewN nq)
 case first =>
  cases ao with
  | none =>
   have h0:=HL.out.nil rfl;subst h0;have hm0:m=0:=by omega
   subst hm0;have hl0:s.log.length=0:=by omega
   rw [hl0] at hc8;go_quiet (fail)
   go_wp2_with fail
   go_meet
   exact ⟨rfl,rfl,rfl,nq,rfl⟩
  | some p =>
   obtain ⟨g,rfl⟩:=HL.out.form p rfl;have q1:(m:Int)<=(c:Int):=by omega
   go_quiet (fail)
   go_wp2_with fail
   go_meet
   exact ⟨rfl,rfl,rfl,nq,rfl⟩
 case rest =>
 obtain ⟨rfl,rfl,rfl,nq,rfl⟩:=hcut;have HBQ:Hid (Below w.heap.size w (w.drewN nq)):=ab (ap w nq);go_wp2_with fail
 go_loopw [3,16] (λv i wr=>∃j:Nat,j<=m/\i = .int .i64 (j:Int)/\OwnL wr w.heap.size v (recs (s.log.take j))/\Below w.heap.size w wr) (λ_ i _=>m - (intOf i).toNat)
 case atStart=>exact ⟨0,aA _,rfl,by simpa [recs] using OwnL.nil _ _,HBQ.out⟩
 case round =>
  obtain ⟨j,hj,rfl,hB,hBV⟩:=hrel;have HBB:=ab hB;have HBV:=ab hBV;clear hB hBV;by_cases hlt:j<m
  ·have hjl:j<s.log.length:=by omega
   obtain ⟨g,rfl⟩:∃g,ao=some ⟨g,0,none⟩:=by
    cases ao with
    | none=>have:=HL.out.nil rfl;omega
    | some p=>obtain ⟨g,rfl⟩:=HL.out.form p rfl;exact ⟨g,rfl⟩
   obtain ⟨u,hu1,hu2,him⟩:=HL.out.at_ j hjl g rfl;have HSTJ:=ab (HST.out j hjl);have hblen:((s.log.map Ent.bs).getD j []).length<=8000:=by
    have e:(s.log.map Ent.bs).getD j []=s.log[j].bs:=by simp [List.getD,hjl]
    rw [e];exact HRL.out _ (dy _)
   obtain ⟨au,cu,e,_⟩:=id him;subst e;generalize hbs:(s.log.map Ent.bs).getD j []=bs at *;generalize hbl:bs.length=bl at *;have HBL:Hid (bs.length=bl):=ab hbl;have HIB:Hid (∀W',Below w.heap.size w W'->IsB W' au bl cu bs):=ab (λW' hb=>by
    obtain ⟨ao',c',e,h1,_⟩:=him.below hb;cases e;rw [hbl] at h1;exact h1)
   generalize (s.log.map Ent.term).getD j 0=t at *;have hu1:=cell_later HBV.out hu1;have hu2:=cell_later HBV.out hu2;have q5:(j:Int)<(m:Int):=by omega
   have q6:IntKind.i64.wrap ((j:Int)+1)=(j:Int)+1:=IntWalk.i64_in _ (by omega);have HRJ:Hid ((recs (s.log.take j)).length+1<=1000000):=ab (by have:=HRC.out j;rw [aE] at this;omega);have HE5:=ab (aJ wr (.cells #[.int .i64 t,.slice au bl cu] 68));have HB5:=ab (HBB.out.below ((aB _ _).alloc (ah _) (.cells #[.int .i64 t,.slice au bl cu] 68)));have HBV5:=ab (HBV.out.alloc HBV.out.size (.cells #[.int .i64 t,.slice au bl cu] 68));clear him;go_upto_region 5 with (fail)
   generalize hW5:wr.alloc (.cells #[.int .i64 t,.slice au bl cu] 68)=W5 at *;clear hW5 hu1 hu2;generalize wr.heap.size=E at *;have hk1:W5.cell? ⟨E,1,none⟩=some (.slice au bl cu):=(af HE5.out 1).trans rfl;by_cases hb0:bl=0
   ·subst hb0;have HS2:Hid (recs (s.log.take (j+1))=recs (s.log.take j)):=ab (by rw [HSTJ.out,ax rfl]);go_wp2_with fail
    go_roundw
    case rel=>exact ⟨j+1,by omega,rfl,by rw [HS2.out];exact HB5.out,HBV5.out⟩
    case measure=>simp [intOf];omega
   ·have HS2:Hid (recs (s.log.take (j+1))=recs (s.log.take j)++[bs]):=ab (by rw [HSTJ.out,aw hb0]);have q7:(0:Int)<(bl:Int):=by omega
    generalize hrj:recs (s.log.take j)=rj at *;obtain ⟨al,cl,evb,_⟩:=HB5.out.shape;subst evb;go_wp2_with fail
    refine (F.dJ au bl cu bs _ (HIB.out _ HBV5.out) (by omega)).mono ?_;rintro e W6 ⟨v5,rfl,ho5,hb5⟩;have HB6:=ab (HB5.out.below hb5);have HBV6:=ab (HBV5.out.trans (hb5.mono HBV5.out.size));have HV6:=ab (ho5.mono HBV5.out.size);obtain ⟨a5,c5,e5,_⟩:=id HV6.out.isB;rw [HBL.out] at e5;subst e5;clear ho5 hb5;go_wp2_with (at_builtin;refine en rfl (.tmp 24) (.tmp 28) rfl w.heap.size (.slice al rj.length cl) rj (by rfl) (HB6.out.below ((aB _ _).alloc (ah _) _)) W6.heap.size (.slice a5 bl c5) bs (by rfl) ((af (aJ W6 _) 0).trans rfl) (HV6.out.alloc _) HRJ.out (HBV6.out.alloc HBV6.out.size _).size ?_)
    intro a7 c7 W7 ho7 hb7 hg7;have HO7:=ab ho7;have HB7:=ab ((HBV6.out.alloc HBV6.out.size _).trans hb7);clear ho7 hb7 hg7;go_wp2_with fail
    go_roundw
    case rel=>exact ⟨j+1,by omega,rfl,by rw [HS2.out];exact HO7.out,HB7.out⟩
    case measure=>simp [intOf];omega
  ·obtain rfl:j=m:=by omega
   go_wp2_with fail
   go_ret
   exact ⟨_,rfl,by rw [HAM.out];exact HBB.out,HBV.out⟩
end
structure Gr (s s':Rp):Prop where
 agr:s.agreed<=s'.agreed
 pre:s'.log.take s.agreed=s.log.take s.agreed
 liv:s'.lives=s.lives
theorem Gr.refl (s:Rp):Gr s s:=⟨ah _,rfl,rfl⟩
theorem Gr.trans {a b c:Rp} (h:Gr a b) (g:Gr b c):Gr a c:=by
 refine ⟨aF h.agr g.agr,?_,g.liv.trans h.liv⟩;have:=congrArg (List.take a.agreed) g.pre;rw [cL,cL,bB h.agr] at this;rw [this,h.pre]
theorem Gr.of {s s':Rp} (h1:s'.agreed=s.agreed) (h2:s'.log=s.log) (h3:s'.lives=s.lives):Gr s s':=⟨by rw [h1];exact ah _,by rw [h2],h3⟩
theorem Gr.from {a b c:Rp} (h:Gr b c) (h1:b.agreed=a.agreed) (h2:b.log=a.log) (h3:b.lives=a.lives):Gr a c:=⟨by rw [<-h1];exact h.agr,by rw [<-h1,<-h2];exact h.pre,h.liv.trans h3⟩
structure Qt (s:Rp):Prop where
 log:∀x∈s.log,x.bs=[]
 dsk:∀b∈s.wl.recs,b.length<=32
def AJ (m:Msg):Prop:=∀b∈m.B,b=[]
structure St (s:Rp) (p:List Msg×Rp×Dk):Prop where
 gr:Gr s p.2.1
 qt:Qt s->Qt p.2.1/\∀m∈p.1,AJ m
section
variable {s s':Rp} {k k':Dk}
theorem St.none (h1:Gr s s') (h2:Qt s->Qt s'):St s ([],s',k'):=⟨h1,λh=>⟨h2 h,λm hm=>by cases hm⟩⟩
theorem Qt.of (h:Qt s) (h1:s'.log=s.log) (h2:s'.wl.recs=s.wl.recs):Qt s':=⟨by rw [h1];exact h.log,by rw [h2];exact h.dsk⟩
theorem St.pre {a b:Rp} {p:List Msg×Rp×Dk} (h:St b p) (h1:Gr a b) (h2:Qt a->Qt b):St a p:=⟨h1.trans h.gr,λq=>h.qt (h2 q)⟩
theorem jV (b:List UInt8):(bK s k b).1.log=s.log/\(bK s k b).1.agreed=s.agreed/\(bK s k b).1.lives=s.lives:=by
 rw [ez];exact ⟨rfl,rfl,rfl⟩
theorem hJ:(cx s k).1.log=s.log/\(cx s k).1.agreed=s.agreed/\(cx s k).1.lives=s.lives:=by
 rw [eX];exact ⟨rfl,rfl,rfl⟩
theorem uZ (h:∀b∈s.wl.recs,b.length<=32) (b:List UInt8) (hb:b.length<=32):∀x∈(bK s k b).1.wl.recs,x.length<=32:=by
 intro x hx;rcases kq (s:=s) (k:=k) b with ⟨_,_,e⟩ | ⟨_,e⟩
 ·rw [e] at hx;rcases av.1 hx with h1 | h1
  ·exact h x h1
  ·rw [aj.1 h1];exact hb
 ·rw [e] at hx;exact h x hx
theorem qT (h:Qt s) (b:List UInt8) (hb:b.length<=32):Qt (bK s k b).1:=⟨by rw [(jV b).1];exact h.log,uZ h.dsk b hb⟩
theorem pO (h:Qt s):Qt (cx s k).1:=h.of hJ.1 lM.1
theorem nP (term who:Int):Gr s (bx s k term who).2.1/\(Qt s->Qt (bx s k term who).2.1):=by
 have h1:=jV (s:=s) (k:=k) (dF term who);have h2:Qt s->Qt (bK s k (dF term who)).1:=λq=>qT q _ (by rw [iK];omega);unfold bx;generalize bK s k (dF term who)=p at *;simp only;split
 ·exact ⟨Gr.of h1.2.1 h1.1 h1.2.2,h2⟩
 ·have h3:=hJ (s:=p.1) (k:=p.2);have h4:Qt p.1->Qt (cx p.1 p.2).1:=pO;generalize cx p.1 p.2=q at *;split
  ·exact ⟨Gr.of (h3.2.1.trans h1.2.1) (h3.1.trans h1.1) (h3.2.2.trans h1.2.2),λq=>h4 (h2 q)⟩
  ·exact ⟨Gr.of (h3.2.1.trans h1.2.1) (h3.1.trans h1.1) (h3.2.2.trans h1.2.2),λq=>(h4 (h2 q)).of rfl rfl⟩
theorem qU (p:Nat) (x:Ent) (hp:s.agreed<=p) (hp2:p<=s.log.length):Gr s (cG s k p x).2.1/\(Qt s->x.bs=[]->Qt (cG s k p x).2.1)/\(cG s k p x).2.1.agreed=s.agreed:=by
 have h1:=jV (s:=s) (k:=k) (dp p x);have h2:Qt s->x.bs=[]->Qt (bK s k (dp p x)).1:=λq e=>qT q _ (by rw [gX,e];simp);unfold cG;generalize bK s k (dp p x)=q at *;simp only;split
 ·exact ⟨Gr.of h1.2.1 h1.1 h1.2.2,h2,h1.2.1⟩
 ·refine ⟨⟨by show s.agreed<=q.1.agreed;rw [h1.2.1];exact ah _,?_,h1.2.2⟩,λh e=>⟨λy hy=>?_,(h2 h e).dsk⟩,h1.2.1⟩
  ·show (q.1.log.take p++[x]).take s.agreed=_;rw [h1.1,cI (by rw [aE];omega),cL,bB hp]
  ·rcases av.1 hy with h3 | h3
   ·exact (h2 h e).log y (eS h3)
   ·rw [aj.1 h3];exact e
theorem yR (x:Ent) (ha:s.agreed<=s.log.length):Gr s (fy s k x).2.1/\(Qt s->x.bs=[]->Qt (fy s k x).2.1):=by
 have h:=qU (s:=s) (k:=k) s.log.length x ha (ah _);unfold fy;generalize cG s k s.log.length x=q at *;simp only;split
 ·have h3:=hJ (s:=q.2.1) (k:=q.2.2);exact ⟨h.1.trans (Gr.of h3.2.1 h3.1 h3.2.2),λa b=>pO (h.2.1 a b)⟩
 ·exact ⟨h.1,h.2.1⟩
theorem sB (n:Nat):Gr s (bZ s n)/\(bZ s n).log=s.log/\(bZ s n).wl=s.wl:=by
 unfold bZ;split
 ·exact ⟨⟨by show s.agreed<=n;omega,rfl,rfl⟩,rfl,rfl⟩
 ·exact ⟨Gr.refl _,rfl,rfl⟩
theorem iA:Gr s (bS s).2/\(bS s).2.log=s.log/\(bS s).2.wl=s.wl:=by
 unfold bS;simp only;split
 ·rename_i m _;have h:=sB (s:={ s with mat:=s.mat.set s.own s.log.length }) m;exact ⟨h.1.from rfl rfl rfl,h.2.1,h.2.2⟩
 ·exact ⟨Gr.of rfl rfl rfl,rfl,rfl⟩
theorem vG (h:Qt s):Qt (bS s).2:=h.of iA.2.1 (by rw [iA.2.2])
theorem kB (h:Qt s) (d:Nat):AJ (cw s d):=by
 intro b hb;have hb:b∈(((s.log.drop (s.next.getD d 0)).take 20).map Ent.bs):=hb;obtain ⟨x,hx,rfl⟩:=gR.1 hb;exact h.log x (List.mem_of_mem_drop (eS hx))
theorem jf (d kd:Int) (N:List Int):AJ (dv s d kd N):=λb hb=>by cases hb
theorem kA (h:Qt s):∀m∈dc s (cw s),AJ m:=λm hm=>by
 obtain ⟨i,_,_,rfl⟩:=il _ _ hm;exact kB h i
theorem my (kind:Int):∀m∈dc s (bf s kind),AJ m:=λm hm=>by
 obtain ⟨i,_,_,rfl⟩:=il _ _ hm;exact jf _ _ _
theorem uq (ha:s.agreed<=s.log.length):St s (fR s k):=by
 have h:=yR (s:={ s with leads:=true,next:=List.replicate s.n s.log.length,mat:=List.replicate s.n 0 }) (k:=k) ⟨s.term,[]⟩ ha;unfold fR;simp only;generalize fy { s with leads:=true,next:=List.replicate s.n s.log.length,mat:=List.replicate s.n 0 } k ⟨s.term,[]⟩=p at *;have h0:Gr s p.2.1:=h.1.from rfl rfl rfl;split
 ·refine ⟨h0.trans iA.1,λq=>?_⟩;have q2:=vG (h.2 (q.of rfl rfl) rfl);exact ⟨q2,kA q2⟩
 ·exact St.none h0 λq=>h.2 (q.of rfl rfl) rfl
theorem pg (term who:Int):(bx s k term who).2.1.agreed=s.agreed/\(bx s k term who).2.1.log=s.log:=by
 have h1:=jV (s:=s) (k:=k) (dF term who);unfold bx;generalize bK s k (dF term who)=p at *;simp only;split
 ·exact ⟨h1.2.1,h1.1⟩
 ·have h3:=hJ (s:=p.1) (k:=p.2);generalize cx p.1 p.2=q at *;split
  ·exact ⟨h3.2.1.trans h1.2.1,h3.1.trans h1.1⟩
  ·exact ⟨h3.2.1.trans h1.2.1,h3.1.trans h1.1⟩
theorem yy (ha:s.agreed<=s.log.length):St s (fP s k):=by
 unfold fP;split
 ·exact St.none (Gr.refl _) id
 ·have h:=nP (s:=s) (k:=k) (s.term+1) (s.own:Int);have hl:=pg (s:=s) (k:=k) (s.term+1) (s.own:Int);generalize bx s k (s.term+1) (s.own:Int)=p at *;simp only;split
  ·have e:Gr s { p.2.1 with ticks:=0,votes:=(List.replicate s.n false).set s.own true }:=h.1.trans (Gr.of rfl rfl rfl);have eq:Qt s->Qt { p.2.1 with ticks:=0,votes:=(List.replicate s.n false).set s.own true }:=λq=>(h.2 q).of rfl rfl;split
   ·exact (uq (by show p.2.1.agreed<=p.2.1.log.length;rw [hl.1,hl.2];exact ha)).pre e eq
   ·exact ⟨e,λq=>⟨eq q,my 1⟩⟩
  ·exact St.none h.1 h.2
theorem AR (h:Wf s k):St s (eh s k):=by
 unfold eh;simp only;split
 ·exact St.none (Gr.of rfl rfl rfl) (λq=>q.of rfl rfl)
 ·split
  ·exact ⟨Gr.of rfl rfl rfl,λq=>⟨q.of rfl rfl,kA (q.of rfl rfl)⟩⟩
  ·split
   ·exact (yy (by exact h.agr)).pre (Gr.of rfl rfl rfl) (λq=>q.of rfl rfl)
   ·split
    ·exact ⟨Gr.of rfl rfl rfl,λq=>⟨q.of rfl rfl,my 5⟩⟩
    ·exact St.none (Gr.of rfl rfl rfl) (λq=>q.of rfl rfl)
theorem wz (h:Wf s k) (rec:List UInt8):Gr s (bJ s k rec).2.2.1:=by
 unfold bJ;by_cases h1:rec.length=0
 ·rw [ax h1];exact Gr.refl _
 rw [aw h1];by_cases h2:8000<rec.length
 ·rw [ax h2];exact Gr.refl _
 rw [aw h2];simp only;by_cases h3:(aY s k).done=true
 ·rw [ax h3];exact Gr.of rfl rfl rfl
 rw [aw h3];by_cases h4:(!(aY s k).leads)=true
 ·rw [ax h4];exact Gr.of rfl rfl rfl
 rw [aw h4];by_cases h5:200<=ik (aY s k)\/2000<=(aY s k).many
 ·rw [ax h5];exact Gr.of rfl rfl rfl
 rw [aw h5];have hp:=yR (s:=aY s k) (k:=k) ⟨(aY s k).term,rec⟩ (by exact h.agr);generalize fy (aY s k) k ⟨(aY s k).term,rec⟩=p at *;have h0:Gr s p.2.1:=hp.1.from rfl rfl rfl;by_cases h6:p.1=true
 ·rw [ax h6];exact h0.trans iA.1
 ·rw [aw h6];exact h0
theorem yz (m:Msg):St s (dV s k m):=by
 unfold dV;split
 ·simp only;split
  ·split
   ·have h:=nP (s:=s) (k:=k) s.term m.frm;generalize bx s k s.term m.frm=p at *;split
    ·exact ⟨h.1.trans (Gr.of rfl rfl rfl),λq=>⟨(h.2 q).of rfl rfl,λx hx=>by rw [aj.1 hx];exact jf _ _ _⟩⟩
    ·exact St.none h.1 h.2
   ·exact ⟨Gr.of rfl rfl rfl,λq=>⟨q.of rfl rfl,λx hx=>by rw [aj.1 hx];exact jf _ _ _⟩⟩
  ·exact ⟨Gr.refl _,λq=>⟨q,λx hx=>by rw [aj.1 hx];exact jf _ _ _⟩⟩
 ·exact St.none (Gr.refl _) id
theorem yw (ha:s.agreed<=s.log.length) (m:Msg):St s (eM s k m):=by
 unfold eM;split
 ·exact St.none (Gr.refl _) id
 ·simp only;split
  ·exact (uq (by exact ha)).pre (Gr.of rfl rfl rfl) (λq=>q.of rfl rfl)
  ·exact St.none (Gr.of rfl rfl rfl) (λq=>q.of rfl rfl)
theorem zE (f:Nat) (l:List (Int×List UInt8)):∀(i:Nat) (s:Rp) (k:Dk),f+i<=s.log.length ->
  Gr s (bE f l i s k).2.1/\(Qt s->(∀x∈l,x.2=[])->Qt (bE f l i s k).2.1):=by
 induction l with
 | nil=>intro i s k _;exact ⟨Gr.refl _,λq _=>q⟩
 | cons a l ih =>
  intro i s k hf;obtain ⟨t,rec⟩:=a;unfold bE;by_cases h1:f+i<s.log.length/\(s.log.map Ent.term).getD (f+i) 0=t
  ·rw [ax h1];have h2:=ih (i+1) s k (by omega);exact ⟨h2.1,λq e=>h2.2 q (λx hx=>e x (aI _ hx))⟩
  ·rw [aw h1];by_cases h2:8000<rec.length\/t<1\/s.term<t\/f+i<s.agreed
   ·rw [ax h2];exact ⟨Gr.refl _,λq _=>q⟩
   ·rw [aw h2];have hs:=qU (s:=s) (k:=k) (f+i) ⟨t,rec⟩ (by omega) hf;have hg:=kC (s:=s) (k:=k) (f+i) ⟨t,rec⟩;generalize cG s k (f+i) ⟨t,rec⟩=p at *;simp only;by_cases h3:p.1=true
    ·rw [ax h3];have hlen:p.2.1.log.length=f+i+1:=by
      rw [hg h3];simp [bB hf]
     have h4:=ih (i+1) p.2.1 p.2.2 (by omega);exact ⟨hs.1.trans h4.1,λq e=>h4.2 (hs.2.1 q (e _ aP)) (λx hx=>e x (aI _ hx))⟩
    ·rw [aw h3];exact ⟨hs.1,λq e=>hs.2.1 q (e _ aP)⟩
structure StM (s:Rp) (m:Msg) (p:List Msg×Rp×Dk):Prop where
 gr:Gr s p.2.1
 qt:Qt s->AJ m->Qt p.2.1/\∀m∈p.1,AJ m
theorem St.m {p:List Msg×Rp×Dk} (h:St s p) (m:Msg):StM s m p:=⟨h.gr,λq _=>h.qt q⟩
theorem StM.pre {a b:Rp} {m:Msg} {p:List Msg×Rp×Dk} (h:StM b m p) (h1:Gr a b) (h2:Qt a->Qt b):StM a m p:=⟨h1.trans h.gr,λq e=>h.qt (h2 q) e⟩
theorem AU (m:Msg):StM s m (dK s k m):=by
 unfold dK;by_cases hb:(!(m.N.length==4+m.B.length)||decide (m.N.getD 1 0<0)||(m.N.getD 0 0==s.term&&s.leads))=true
 ·rw [ax hb];exact (St.none (Gr.refl _) id).m m
 rw [aw hb];by_cases h1:m.N.getD 0 0<s.term
 ·rw [ax h1];exact St.m (p:=([dv s m.frm 4 [s.term,0,0]],s,k)) ⟨Gr.refl _,λq=>⟨q,λx hx=>by rw [aj.1 hx];exact jf _ _ _⟩⟩ m
 rw [aw h1];simp only;by_cases hft:eW { s with ticks:=0 } (m.N.getD 1 0) (m.N.getD 2 0)=true
 ·rw [ax hft];have hfl:(m.N.getD 1 0).toNat<=s.log.length:=by
   unfold eW at hft;simp only [bk,aR] at hft;omega
  have hF:=zE (m.N.getD 1 0).toNat ((m.N.drop 4).zip m.B) 0 { s with ticks:=0 } k hfl;have hz:AJ m->∀x∈(m.N.drop 4).zip m.B,x.2=[]:=λq x hx=>q x.2 (List.of_mem_zip hx).2;generalize bE (m.N.getD 1 0).toNat ((m.N.drop 4).zip m.B) 0 { s with ticks:=0 } k=p at *;have g0:Gr s p.2.1:=hF.1.from rfl rfl rfl;have q0:Qt s->AJ m->Qt p.2.1:=λq e=>hF.2 (q.of rfl rfl) (hz e);by_cases hp:p.1=true
  ·rw [ax hp];have hq:∃q:Rp×Dk,q=(if m.B.length=0 then p.2 else cx p.2.1 p.2.2)/\Gr s q.1/\(Qt s->AJ m->Qt q.1):=by
    by_cases h2:m.B.length=0
    ·rw [ax h2];exact ⟨_,rfl,g0,q0⟩
    ·rw [aw h2];exact ⟨_,rfl,g0.trans (Gr.of hJ.2.1 hJ.1 hJ.2.2),λa b=>pO (q0 a b)⟩
   obtain ⟨q,hqe,hg,hqq⟩:=hq;rw [<-hqe];split
   ·exact ⟨hg,λa b=>⟨hqq a b,λx hx=>by cases hx⟩⟩
   ·have hag:=sB (s:=q.1) (min (m.N.getD 3 0) (((m.N.getD 1 0).toNat+m.B.length:Nat):Int)).toNat;exact ⟨hg.trans hag.1,λa b=>⟨(hqq a b).of hag.2.1 (by rw [hag.2.2]),λx hx=>by rw [aj.1 hx];exact jf _ _ _⟩⟩
  ·rw [aw hp];exact ⟨g0,λa b=>⟨q0 a b,λx hx=>by cases hx⟩⟩
 ·rw [aw hft];exact ⟨Gr.of rfl rfl rfl,λq _=>⟨q.of rfl rfl,λx hx=>by rw [aj.1 hx];exact jf _ _ _⟩⟩
theorem qG (m:Msg):St s ((ct s m).1,(ct s m).2,k):=by
 unfold ct;by_cases hb:(!s.leads || !(m.N.getD 0 0==s.term) || !(m.N.length==3)||decide (m.N.getD 2 0<0)||decide ((s.log.length:Int)<m.N.getD 2 0))=true
 ·rw [ax hb];exact St.none (Gr.refl _) id
 rw [aw hb];simp only;by_cases h1:m.N.getD 1 0=0
 ·rw [ax h1];split
  ·exact St.none (Gr.refl _) id
  ·exact ⟨Gr.of rfl rfl rfl,λq=>⟨q.of rfl rfl,λx hx=>by rw [aj.1 hx];exact kB (s:={ s with next:=s.next.set m.frm.toNat (max (m.N.getD 2 0).toNat (s.mat.getD m.frm.toNat 0))}) (q.of rfl rfl) _⟩⟩
 ·rw [aw h1];split
  ·exact St.none (Gr.refl _) id
  ·have hst:=iA (s:={ s with mat:=s.mat.set m.frm.toNat (m.N.getD 2 0).toNat,next:=s.next.set m.frm.toNat (max (m.N.getD 2 0).toNat (s.next.getD m.frm.toNat 0))});generalize bS { s with mat:=s.mat.set m.frm.toNat (m.N.getD 2 0).toNat,next:=s.next.set m.frm.toNat (max (m.N.getD 2 0).toNat (s.next.getD m.frm.toNat 0))}=p at *;have g0:Gr s p.2:=hst.1.from rfl rfl rfl;have q0:Qt s->Qt p.2:=λq=>q.of hst.2.1 (by rw [hst.2.2]);split
   ·exact ⟨g0,λq=>⟨q0 q,kA (q0 q)⟩⟩
   ·split
    ·exact ⟨g0,λq=>⟨q0 q,λx hx=>by rw [aj.1 hx];exact kB (q0 q) _⟩⟩
    ·exact St.none g0 q0
theorem Cg (h:Wf s k) (m:Msg):StM s m (fC s k m):=by
 unfold fC;by_cases hb:((aY s k).done||mh (aY s k) m)=true
 ·rw [ax hb];exact ⟨Gr.of rfl rfl rfl,λq _=>⟨q.of rfl rfl,λx hx=>by cases hx⟩⟩
 rw [aw hb];have hp:∃p:Bool×Rp×Dk,p=(if (aY s k).term<m.N.getD 0 0 then bx (aY s k) k (m.N.getD 0 0) (-1) else (true,aY s k,k))/\Gr s p.2.1/\(Qt s->Qt p.2.1)/\p.2.1.agreed<=p.2.1.log.length:=by
  by_cases ht:(aY s k).term<m.N.getD 0 0
  ·rw [ax ht];have he:=nP (s:=aY s k) (k:=k) (m.N.getD 0 0) (-1);have ha:=pg (s:=aY s k) (k:=k) (m.N.getD 0 0) (-1);exact ⟨_,rfl,he.1.from rfl rfl rfl,λq=>he.2 (q.of rfl rfl),by rw [ha.1,ha.2];exact h.agr⟩
  ·rw [aw ht];exact ⟨_,rfl,Gr.of rfl rfl rfl,λq=>q.of rfl rfl,h.agr⟩
 obtain ⟨p,hpe,hg,hq,ha⟩:=hp;simp only;rw [<-hpe];by_cases h1:p.1=true
 ·rw [ax h1];split
  ·exact ((yz m).m m).pre hg hq
  ·split
   ·exact ((yw ha m).m m).pre hg hq
   ·split
    ·exact (AU m).pre hg hq
    ·split
     ·exact ((qG m).m m).pre hg hq
     ·split
      ·split
       ·exact ⟨hg.trans (Gr.of rfl rfl rfl),λq _=>⟨(hq q).of rfl rfl,λx hx=>by cases hx⟩⟩
       ·exact (St.none hg hq).m m
      ·exact (St.none hg hq).m m
 ·rw [aw h1];exact (St.none hg hq).m m
end
end Go.Proofs.Ytnicaicjgaoolaa
