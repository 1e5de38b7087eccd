/-
  What the proof of the law leans on: contracts of the program's functions, one behind another. No condition.
-/
import Derived.Test.YtnhefallmioefaaGreatV0
import Derived.Test.YtnhefallmioefaaGreatV19
import Derived.Test.YtnhefallmioefaaGreatV14
import Derived.Test.YtnhefallmioefaaGreatV16
import Derived.Test.YtnhefallmioefaaGreatV17
set_option linter.unusedVariables false
set_option linter.unusedSimpArgs false
namespace Go.Proofs.YtnhefallmioefaaGreat
open Go.RowKit Go.ChangeMaps Go.WideMaps Go.Maps
set_option maxRecDepth 20000
structure GyC (w:World) (A Y:List Nat) (g n:Nat) (S:Mn) (es:Cuts) (os rs ds ls:Nat->Nat) (Xs:Nat->List Nat) (vl:Value) (nb mb:Nat) (qv lv:Value):Prop where
 cell:w.heap[g]? = some (.cells #[vl,eg nb,lv] 47 (0,0))
 lr:w.ownsRow 0 56 1 vl n (pV os n)
 one:∀i,i<n->w.heap[os i]? = some (.cells #[eg (ds i),eg (rs i),.bool (S.at i).up] 58 (0,0))
 net:w.heap[nb]? = some (.cells #[.int .i64 (n:Int),.int .i64 2000,qv,.map (some mb)] 66 (0,0))
 cut:IsCut w mb es
 node:∀i,i<n->NodeAt w A (Xs i) (rs i) (ds i) (ls i) (S.at i)
 q:IsQ w A Y qv S.q
 z:qy qv
 long:ImmL w A lv S.long
 nl:S.nodes.length=n
 n5:n<=5
 gY:g∈Y
 oY:∀i,i<n->os i∈Y
 lY:∀b,vl.ownBlock=some b->b∈Y
 nY:nb∈Y
 mY:mb∈Y
 oo:∀i j,i<n->j<n->os i=os j->i=j
 yx:∀i,i<n->Dis Y (Xs i)
 xx:∀i j,i<n->j<n->i≠j->Dis (Xs i) (Xs j)
 yA:∀b∈Y,b∈A
 alt:∀b∈A,b<w.heap.size
structure Gy (w:World) (A Z:List Nat) (g n:Nat) (S:Mn) (es:Cuts):Prop where
 ex:∃Y os rs ds ls Xs vl nb mb qv lv,GyC w A Y g n S es os rs ds ls Xs vl nb mb qv lv/\∀b,b∈Z↔b∈Y\/∃i,i<n/\b∈Xs i
structure GyP (w w':World) (A Z:List Nat) (g n:Nat) (S:Mn) (es:Cuts):Prop where
 ex:∃A' Z',Gy w' A' Z' g n S es/\Mv A A' Z Z' w w'
section
variable {w w':World} {A A' Y Z Z':List Nat} {g n:Nat} {S:Mn} {es:Cuts} {os rs ds ls:Nat->Nat} {Xs:Nat->List Nat} {vl:Value} {nb mb:Nat} {qv lv:Value}
theorem GyP.trans {w'':World} {S':Mn} {es':Cuts} (m:Mv A A' Z Z' w w') (h:GyP w' w'' A' Z' g n S' es'):GyP w w'' A Z g n S' es':=by
 obtain ⟨A2,Z2,h,m2⟩:=h;exact ⟨A2,Z2,h,m.trans m2⟩
theorem Gy.gyp (h:Gy w' A' Z' g n S es) (m:Mv A A' Z Z' w w'):GyP w w' A Z g n S es:=⟨A',Z',h,m⟩
theorem GyC.keep {T:List Nat} (h:GyC w A Y g n S es os rs ds ls Xs vl nb mb qv lv) (ho:Only T w w') (hT:∀b∈T,b∈A) (hY:∀b∈Y,b∉T) (hX:∀i,i<n->∀b∈Xs i,b∉T) (he:Ext A A' w) (hs:∀b∈A,b∈A') (ha:∀b∈A',b<w'.heap.size):GyC w' A' Y g n S es os rs ds ls Xs vl nb mb qv lv :=
 ⟨ho.keeps h.cell (hY _ h.gY),bu h.lr ho (λb hb=>hY _ (h.lY b hb)),λi hi=>ho.keeps (h.one i hi) (hY _ (h.oY i hi)),ho.keeps h.net (hY _ h.nY),h.cut.only ho (hY _ h.mY),λi hi=>(h.node i hi).keep ho hT (hX i hi) he hs ha,
  h.q.keep ho hT (λb hb _ _=>hY b hb) he (λb hb=>hb),h.z,h.long.step ho hT he,h.nl,h.n5,h.gY,h.oY,h.lY,h.nY,h.mY,h.oo,h.yx,h.xx,λb hb=>hs b (h.yA b hb),ha⟩
theorem GyC.below (h:GyC w A Y g n S es os rs ds ls Xs vl nb mb qv lv) (hb:Below w.heap.size w w'):GyC w' A Y g n S es os rs ds ls Xs vl nb mb qv lv :=
 h.keep (Only.ofBelow hb []) (λb hb=>by cases hb) (λb _=>by simp) (λi _ b _=>by simp) (Ext.refl _ _) (λb hb=>hb) (λb hb2=>aE (h.alt b hb2) hb.size)
theorem Gy.below (h:Gy w A Z g n S es) (hb:Below w.heap.size w w'):Gy w' A Z g n S es:=by
 obtain ⟨Y,os,rs,ds,ls,Xs,vl,nb,mb,qv,lv,h,hz⟩:=h;exact ⟨Y,os,rs,ds,ls,Xs,vl,nb,mb,qv,lv,h.below hb,hz⟩
theorem Gy.zA (h:Gy w A Z g n S es):∀b∈Z,b∈A:=by
 obtain ⟨Y,os,rs,ds,ls,Xs,vl,nb,mb,qv,lv,h,hz⟩:=h;intro b hb;rcases (hz b).1 hb with h1 | ⟨i,hi,h1⟩
 ·exact h.yA b h1
 ·exact (h.node i hi).xA b h1
theorem Gy.alt (h:Gy w A Z g n S es):∀b∈A,b<w.heap.size:=by
 obtain ⟨Y,os,rs,ds,ls,Xs,vl,nb,mb,qv,lv,h,hz⟩:=h;exact h.alt
theorem GyC.call {X':List Nat} {i:Nat} {nd:Nod} (h:GyC w A Y g n S es os rs ds ls Xs vl nb mb qv lv) (hi:i<n) (hm:Mv A A' (Xs i) X' w w') (hn:NodeAt w' A' X' (rs i) (ds i) (ls i) nd) (hu:nd.up=(S.at i).up) (ha:∀b∈A',b<w'.heap.size) :
  GyC w' A' Y g n (S.set i nd) es os rs ds ls (jU Xs i X') vl nb mb qv lv:=by
 have hT:∀b∈Xs i,b∈A:=(h.node i hi).xA;have hY:∀b∈Y,b∉Xs i:=h.yx i hi;have ho:=hm.mv.only;have hnew:∀P:List Nat,(∀b∈P,b∈A)->Dis P (Xs i)->Dis P X':=λP hP hd b hb hx=>by
  rcases hm.mv.gr b hx with h1 | h1
  ·exact hd b hb h1
  ·have:=h.alt b (hP b hb);omega
 refine ⟨ho.keeps h.cell (hY _ h.gY),bu h.lr ho (λb hb=>hY _ (h.lY b hb)),λj hj=>?_,ho.keeps h.net (hY _ h.nY),h.cut.only ho (hY _ h.mY),λj hj=>?_,
  h.q.keep ho hT (λb hb _ _=>hY b hb) hm.ext (λb hb=>hb),h.z,h.long.step ho hT hm.ext,by simp [Mn.set,h.nl],h.n5,h.gY,h.oY,h.lY,h.nY,h.mY,h.oo,λj hj=>?_,λj1 j2 h1 h2 hne=>?_,λb hb=>hm.sub b (h.yA b hb),ha⟩
 ·have e:((S.set i nd).at j).up=(S.at j).up:=by
   rw [Mn.at_set _ _ _ _ (by rw [h.nl];exact hi)];split
   ·rename_i e1;rw [e1];exact hu
   ·rfl
  rw [e];exact ho.keeps (h.one j hj) (hY _ (h.oY j hj))
 ·rw [Mn.at_set _ _ _ _ (by rw [h.nl];exact hi)];by_cases hji:j=i
  ·subst hji;rw [aA rfl,cP];exact hn
  ·rw [aw hji,co _ _ hji];exact (h.node j hj).keep ho hT (h.xx j i hj hi hji) hm.ext hm.sub ha
 ·by_cases hji:j=i
  ·subst hji;rw [cP];exact hnew Y h.yA (h.yx j hj)
  ·rw [co _ _ hji];exact h.yx j hj
 ·by_cases e1:j1=i
  ·subst e1;have e2:j2≠j1:=λe=>hne e.symm;rw [cP,co _ _ e2];exact (hnew (Xs j2) (h.node j2 h2).xA (h.xx j2 j1 h2 h1 e2)).symm
  ·by_cases e2:j2=i
   ·subst e2;rw [cP,co _ _ e1];exact hnew (Xs j1) (h.node j1 h1).xA (h.xx j1 j2 h1 h2 hne)
   ·rw [co _ _ e1,co _ _ e2];exact h.xx j1 j2 h1 h2 hne
end
section
variable {w w':World} {A A' Y Y' Z Z':List Nat} {g n:Nat} {S:Mn} {es es':Cuts} {os rs ds ls:Nat->Nat} {Xs:Nat->List Nat} {vl:Value} {nb mb mb':Nat} {qv lv qv':Value} {q':List Msg}
theorem GyC.nt (h:GyC w A Y g n S es os rs ds ls Xs vl nb mb qv lv):IsNt w A Y nb mb n qv S.q es:=⟨h.net,h.cut,h.q,h.z,h.nY,h.mY,h.yA,h.alt⟩
theorem GyC.netx (h:GyC w A Y g n S es os rs ds ls Xs vl nb mb qv lv) (hn:IsNt w' A' Y' nb mb' n qv' q' es') (x:NtX w w' A Y A' Y' nb mb mb'):GyC w' A' Y' g n { S with q:=q' } es' os rs ds ls Xs vl nb mb' qv' lv:=by
 obtain ⟨m,y,e,T,ho,ht⟩:=x;have hne:∀{b:Nat} {cs:Array Value} {t:TypeId} {fr:Nat×Nat},w.heap[b]? = some (.cells cs t fr)->t≠66->t≠83->b∉T:=λ{b cs t fr} hb h1 h2 hm=>by
  obtain ⟨_,k | k | ⟨cur,k⟩⟩:=ht b hm
  ·rw [k,h.net] at hb;simp at hb;exact h1 hb.2.1.symm
  ·obtain ⟨arr,c,h3,_⟩:=h.cut.map;rw [k,h3] at hb;cases hb
  ·rw [hb] at k;simp at k;exact h2 k.2.1
 have hTA:∀b∈T,b∈A:=λb hb=>h.yA b (ht b hb).1;refine ⟨ho.keeps h.cell (hne h.cell (by decide) (by decide)),bu h.lr ho (λb hb=>?_),λi hi=>ho.keeps (h.one i hi) (hne (h.one i hi) (by decide) (by decide)),hn.net,hn.cut,λi hi=>?_,
  hn.q,hn.z,h.long.step ho hTA m.ext,h.nl,h.n5,m.mv.sub g h.gY,λi hi=>m.mv.sub _ (h.oY i hi),λb hb=>m.mv.sub b (h.lY b hb),hn.nY,hn.mY,h.oo,λi hi b hb hx=>?_,h.xx,hn.yA,hn.alt⟩
 ·obtain ⟨_,cur,hc⟩:=eH h.lr hb;exact hne hc (by decide) (by decide)
 ·exact (h.node i hi).keep ho hTA (λb hb hm=>h.yx i hi b (ht b hm).1 hb) m.ext m.sub hn.alt
 ·rcases y b hb with h1 | h1
  ·exact h.yx i hi b h1 hx
  ·have:=h.alt b ((h.node i hi).xA b hx);omega
theorem Gy.netp {mq:List Msg} (h:GyC w A Y g n S es os rs ds ls Xs vl nb mb qv lv) (hz:∀b,b∈Z↔b∈Y\/∃i,i<n/\b∈Xs i) (p:NtP w w' A Y nb n mb mq es'):GyP w w' A Z g n { S with q:=mq } es':=by
 obtain ⟨A',Y',mb',qv',hn,x⟩:=p.open;have hc:=h.netx hn x;obtain ⟨m,y,e,T,ho,ht⟩:=x;refine ⟨A',Y'++(List.range n).flatMap Xs,⟨Y',os,rs,ds,ls,Xs,vl,nb,mb',qv',lv,hc,λb=>?_⟩,?_⟩
 ·simp [fd]
 ·refine ⟨⟨ho.mono (λb hb=>(hz b).2 (.inl (ht b hb).1)),λb hb=>?_,λb hb=>?_⟩,m.ext,m.sub⟩
  ·rcases ap.1 hb with h1 | h1
   ·exact (y b h1).imp (λk=>(hz b).2 (.inl k)) id
   ·obtain ⟨i,hi,hx⟩:=fd.1 h1;exact .inl ((hz b).2 (.inr ⟨i,cW.1 hi,hx⟩))
  ·rcases (hz b).1 hb with h1 | ⟨i,hi,hx⟩
   ·exact aG _ (m.mv.sub b h1)
   ·exact aO _ (fd.2 ⟨i,cW.2 hi,hx⟩)
end
section
variable {w w':World} {A A' Y Y' Z Z':List Nat} {g n:Nat} {S:Mn} {es es':Cuts} {os rs ds ls:Nat->Nat} {Xs:Nat->List Nat} {vl:Value} {nb mb mb':Nat} {qv lv qv' pn:Value} {q':List Msg}
set_option maxHeartbeats 400000 in
theorem eM {ar:Option Addr} {cr:Nat} (h:w.heap[g]? = some (.cells #[.slice ar n cr,pn,lv] 47 (0,0))) (x:Int) :
  Calls Tryz.prog 29 #[.pointer (some ⟨g,0,none⟩),.int .i64 x] w λe w'=>e = .returned (.bool (decide (0<=x)&&decide (x<(n:Int))))/\w=w':=by
 have hc0:w.cell? ⟨g,0,none⟩=some (.slice ar n cr):=by rw [af h];rfl
 clear h;by_cases hx:0<=x
 ·rw [aJ hx,mC];go_enter Tryz.func29,Tryz.ntmps29
  go_wp2_with fail
  go_ret
  exact ⟨rfl,rfl⟩
 ·have hd:decide (0<=x)=false:=aW hx;rw [hd,C0];clear hx;go_enter Tryz.func29,Tryz.ntmps29
  go_wp2_with fail
  go_ret
  exact ⟨rfl,rfl⟩
theorem AW (f:Nat->Nat) (n i:Nat) (h:i<n):(pV f n)[i]? = some (eg (f i)):=by simp [pV,h]
theorem GyC.lrow (h:GyC w A Y g n S es os rs ds ls Xs vl nb mb qv lv) (h0:0<n):∃gl cr,vl = .slice (some ⟨gl,0,none⟩) n cr/\n<=cr/\∀i,i<n->w.cell? ⟨gl,i,none⟩=some (eg (os i)):=by
 have hl:=h.lr;rcases hl.2 with ⟨rfl,h1⟩ | ⟨gl,cr,cur,rfl,hb,hh,hn,hm,hs,ht⟩
 ·omega
 ·refine ⟨gl,cr,rfl,hn,λi hi=>?_⟩;have:=World.ownsRow.cellAt h.lr i (by omega);rw [this,AW _ _ _ hi]
theorem Mn.set_self (S:Mn) (i:Nat):S.set i (S.at i)=S:=by
 unfold Mn.set Mn.at;congr 1;refine List.ext_getElem? λj=>?_;rw [hC];split
 ·rename_i e;subst e;split
  ·rename_i hl;simp [aF,hl]
  ·rename_i hl;rw [dR (by omega)]
 ·rfl
set_option maxHeartbeats 1000000 in
theorem qf (h:GyC w A Y g n S es os rs ds ls Xs vl nb mb qv lv) (x:Int) (hx:(decide (0<=x)&&decide (x<(n:Int)))=false) :
  Calls Tryz.prog 13 #[.pointer (some ⟨g,0,none⟩),.int .i64 x] w λe w'=>e = .returned (.bool false)/\w=w':=by
 obtain ⟨ar,cr,rfl,_,_⟩:=du h.lr;have HH:=ab (eM h.cell x);rw [hx] at HH;clear h hx;go_enter Tryz.func13,Tryz.ntmps13
 go_wp2_with fail
 refine HH.out.mono ?_;rintro e w1 ⟨rfl,rfl⟩;go_wp2_with fail
 go_ret
 exact ⟨rfl,rfl⟩
set_option maxHeartbeats 1000000 in
theorem gB (h:GyC w A Y g n S es os rs ds ls Xs vl nb mb qv lv) (i:Nat) (hi:i<n) (hu:(S.at i).up=false) :
  Calls Tryz.prog 13 #[.pointer (some ⟨g,0,none⟩),.int .i64 (i:Int)] w λe w'=>e = .returned (.bool false)/\w=w':=by
 obtain ⟨gl,cr,rfl,hcr,hrow⟩:=h.lrow (by omega);have HH:=ab (eM h.cell (i:Int));rw [aJ (by omega),aJ (by omega)] at HH;have c0:w.cell? ⟨g,0,none⟩=some (.slice (some ⟨gl,0,none⟩) n cr):=by rw [af h.cell];rfl
 have c1:=hrow i hi;unfold eg at c1;have c2:w.cell? ⟨os i,2,none⟩=some (.bool false):=by rw [af (h.one i hi),hu];rfl
 have hin:(i:Int)<(n:Int):=by omega
 clear h hu hrow;generalize os i=o at *;go_enter Tryz.func13,Tryz.ntmps13
 go_wp2_with fail
 refine HH.out.mono ?_;rintro e w1 ⟨rfl,rfl⟩;go_wp2_with fail
 go_ret
 exact ⟨rfl,rfl⟩
set_option maxHeartbeats 1000000 in
theorem jz (h:GyC w A Y g n S es os rs ds ls Xs vl nb mb qv lv) (i:Nat) (hi:i<n) (hu:(S.at i).up=true) (hd:dQ (S.at i).s (S.at i).k=false) :
  Calls Tryz.prog 13 #[.pointer (some ⟨g,0,none⟩),.int .i64 (i:Int)] w λe w'=>e = .returned (.bool true)/\GyC w' A Y g n S es os rs ds ls Xs vl nb mb qv lv/\Only [rs i] w w'/\rs i∈Xs i:=by
 obtain ⟨gl,cr,rfl,hcr,hrow⟩:=h.lrow (by omega);have HH:=ab (eM h.cell (i:Int));rw [aJ (by omega),aJ (by omega)] at HH;have c0:w.cell? ⟨g,0,none⟩=some (.slice (some ⟨gl,0,none⟩) n cr):=by rw [af h.cell];rfl
 have c1:=hrow i hi;unfold eg at c1;have c2:w.cell? ⟨os i,2,none⟩=some (.bool true):=by rw [af (h.one i hi),hu];rfl
 have c3:w.cell? ⟨os i,1,none⟩=some (.pointer (some ⟨rs i,0,none⟩)):=by rw [af (h.one i hi)];rfl
 have hin:(i:Int)<(n:Int):=by omega
 have hnd:=(h.node i hi).up hu;have HD:=ab (iL hnd);have hds:aV (S.at i).s (S.at i).k=(S.at i).s:=by
  unfold aV;have:(S.at i).s.done=false:=by unfold dQ at hd;simp only [eL] at hd;exact hd.1
  rw [hd,<-this]
 rw [hds,hd] at HD;have HFIN:Hid (∀w2,Nd w2 A (Xs i) (rs i) (ds i) (ls i) (S.at i).s (S.at i).k->Only [rs i] w w2->GyC w2 A Y g n S es os rs ds ls Xs (.slice (some ⟨gl,0,none⟩) n cr) nb mb qv lv/\Only [rs i] w w2/\rs i∈Xs i):=ab λw2 h2 ho=>by
  have hr:=hnd.rX;have hm:Mv A A (Xs i) (Xs i) w w2:=Mv.only ho (λb hb=>by rw [aj.1 hb];exact hr);have:=h.call hi hm (nd:=S.at i) ⟨λ_=>h2,λe=>(by rw [hu] at e;cases e),(h.node i hi).xA⟩ rfl (λb hb=>aE (h.alt b hb) ho.size);rw [Mn.set_self,oS] at this;exact ⟨this,ho,hr⟩
 clear h hu hrow hnd hds hd;generalize os i=o at *;generalize rs i=r at *;go_enter Tryz.func13,Tryz.ntmps13
 go_wp2_with fail
 refine HH.out.mono ?_;rintro e w1 ⟨rfl,rfl⟩;go_wp2_with fail
 refine HD.out.mono ?_;rintro e w2 ⟨rfl,h2,ho⟩;have HR:=ab (HFIN.out w2 h2 ho);clear h2 ho;go_wp2_with fail
 go_ret
 exact ⟨rfl,HR.out⟩
end
theorem vH (l:List Ent) (j:Nat) (h:j<l.length):recs (l.take (j+1))=if ((l.map Ent.bs).getD j []).length=0 then recs (l.take j) else recs (l.take j)++[(l.map Ent.bs).getD j []]:=by
 have e2:(l.map Ent.bs).getD j []=l[j].bs:=by simp [List.getD,h]
 rw [e2,<-bf h];unfold recs;rw [cT,bS];generalize l[j]=x;obtain ⟨t,bs⟩:=x;cases bs<;>simp
theorem uu (l:List Ent):(recs l).length<=l.length:=by
 unfold recs;rw [aP];exact di _ _
section
variable {w w':World} {A A' X X':List Nat} {r d l:Nat} {s s':Rp} {k k':Dk}
set_option maxHeartbeats 4000000 in
theorem og (h:Nd w A X r d l s k) (hw:Wf s k):Calls Tryz.prog 28 #[.pointer (some ⟨r,0,none⟩)] w λe w'=>∃v,e = .returned v/\OwnL w' w.heap.size v (cU s)/\Below w.heap.size w w':=by
 have hlogb:=hw.logb;have hagr:=hw.agr;have HRL:=ab hw.recl;obtain ⟨ao,c,hlr⟩:=h.logR;have hc8:=hlr.c8;have hle:=hlr.le;have hcm:=hlr.cm;have HL:=ab hlr;obtain ⟨vl,gv,gn,gm,gh,hcell⟩:=h.cells;have hc9:w.cell? ⟨r,9,none⟩=some (.int .i64 (s.agreed:Int)):=by rw [af hcell];rfl
 have HAM:Hid (cU s=recs (s.log.take s.agreed)):=ab rfl;have HST:=ab (λj (hj:j<s.log.length)=>vH s.log j hj);have HRC:=ab (λj=>uu (s.log.take j));clear hlr hcell h hw;generalize s.agreed=m at *;go_enter Tryz.func28,Tryz.ntmps28
 go_upto_region 2 with (fail)
 go_cut [14,15,16] (λv n i wx=>v = .slice ao m c/\n = .int .i64 (m:Int)/\i = .int .i64 0/\∃nq,wx=w.drewN nq)
 case first =>
  cases ao with
  | none =>
   have h0:=HL.out.nil rfl;subst h0;have hm0:m=0:=by omega
   subst hm0;have hl0:s.log.length=0:=by omega
   rw [hl0] at hc8;go_quiet (fail)
   go_wp2_with fail
   go_meet
   exact ⟨rfl,rfl,rfl,nq,rfl⟩
  | some p =>
   obtain ⟨g,rfl⟩:=HL.out.form p rfl;have q1:(m:Int)<=(c:Int):=by omega
   go_quiet (fail)
   go_wp2_with fail
   go_meet
   exact ⟨rfl,rfl,rfl,nq,rfl⟩
 case rest =>
 obtain ⟨rfl,rfl,rfl,nq,rfl⟩:=hcut;have HBQ:Hid (Below w.heap.size w (w.drewN nq)):=ab (ak w nq);go_wp2_with fail
 go_loopw [3,16] (λv i wr=>∃j:Nat,j<=m/\i = .int .i64 (j:Int)/\OwnL wr w.heap.size v (recs (s.log.take j))/\Below w.heap.size w wr) (λ_ i _=>m - (intOf i).toNat)
 case atStart=>exact ⟨0,aH _,rfl,by simpa [recs] using OwnL.nil _ _,HBQ.out⟩
 case round =>
  obtain ⟨j,hj,rfl,hB,hBV⟩:=hrel;have HBB:=ab hB;have HBV:=ab hBV;clear hB hBV;by_cases hlt:j<m
  ·have hjl:j<s.log.length:=by omega
   obtain ⟨g,rfl⟩:∃g,ao=some ⟨g,0,none⟩:=by
    cases ao with
    | none=>have:=HL.out.nil rfl;omega
    | some p=>obtain ⟨g,rfl⟩:=HL.out.form p rfl;exact ⟨g,rfl⟩
   obtain ⟨u,hu1,hu2,him⟩:=HL.out.at_ j hjl g rfl;have HSTJ:=ab (HST.out j hjl);have hblen:((s.log.map Ent.bs).getD j []).length<=8000:=by
    have e:(s.log.map Ent.bs).getD j []=s.log[j].bs:=by simp [List.getD,hjl]
    rw [e];exact HRL.out _ (bO _)
   obtain ⟨au,cu,e,_⟩:=id him;subst e;generalize hbs:(s.log.map Ent.bs).getD j []=bs at *;generalize hbl:bs.length=bl at *;have HBL:Hid (bs.length=bl):=ab hbl;have HIB:Hid (∀W',Below w.heap.size w W'->IsB W' au bl cu bs):=ab (λW' hb=>by
    obtain ⟨ao',c',e,h1,_⟩:=him.below hb;cases e;rw [hbl] at h1;exact h1)
   generalize (s.log.map Ent.term).getD j 0=t at *;have hu1:=cell_later HBV.out hu1;have hu2:=cell_later HBV.out hu2;have q5:(j:Int)<(m:Int):=by omega
   have q6:IntKind.i64.wrap ((j:Int)+1)=(j:Int)+1:=IntWalk.i64_in _ (by omega);have HRJ:Hid ((recs (s.log.take j)).length+1<=1000000):=ab (by have:=HRC.out j;rw [aI] at this;omega);have HE5:=ab (aK wr (.cells #[.int .i64 t,.slice au bl cu] 94));have HB5:=ab (HBB.out.below ((az _ _).alloc (ah _) (.cells #[.int .i64 t,.slice au bl cu] 94)));have HBV5:=ab (HBV.out.alloc HBV.out.size (.cells #[.int .i64 t,.slice au bl cu] 94));clear him;go_upto_region 5 with (fail)
   generalize hW5:wr.alloc (.cells #[.int .i64 t,.slice au bl cu] 94)=W5 at *;clear hW5 hu1 hu2;generalize wr.heap.size=E at *;have hk1:W5.cell? ⟨E,1,none⟩=some (.slice au bl cu):=(af HE5.out 1).trans rfl;by_cases hb0:bl=0
   ·subst hb0;have HS2:Hid (recs (s.log.take (j+1))=recs (s.log.take j)):=ab (by rw [HSTJ.out,aA rfl]);go_wp2_with fail
    go_roundw
    case rel=>exact ⟨j+1,by omega,rfl,by rw [HS2.out];exact HB5.out,HBV5.out⟩
    case measure=>simp [intOf];omega
   ·have HS2:Hid (recs (s.log.take (j+1))=recs (s.log.take j)++[bs]):=ab (by rw [HSTJ.out,aw hb0]);have q7:(0:Int)<(bl:Int):=by omega
    generalize hrj:recs (s.log.take j)=rj at *;obtain ⟨al,cl,evb,_⟩:=HB5.out.shape;subst evb;go_wp2_with fail
    refine (F.dd au bl cu bs _ (HIB.out _ HBV5.out) (by omega)).mono ?_;rintro e W6 ⟨v5,rfl,ho5,hb5⟩;have HB6:=ab (HB5.out.below hb5);have HBV6:=ab (HBV5.out.trans (hb5.mono HBV5.out.size));have HV6:=ab (ho5.mono HBV5.out.size);obtain ⟨a5,c5,e5,_⟩:=id HV6.out.isB;rw [HBL.out] at e5;subst e5;clear ho5 hb5;go_wp2_with (at_builtin;refine dc rfl (.tmp 24) (.tmp 28) rfl w.heap.size (.slice al rj.length cl) rj (by rfl) (HB6.out.below ((az _ _).alloc (ah _) _)) W6.heap.size (.slice a5 bl c5) bs (by rfl) ((af (aK W6 _) 0).trans rfl) (HV6.out.alloc _) HRJ.out (HBV6.out.alloc HBV6.out.size _).size ?_)
    intro a7 c7 W7 ho7 hb7 hg7;have HO7:=ab ho7;have HB7:=ab ((HBV6.out.alloc HBV6.out.size _).trans hb7);clear ho7 hb7 hg7;go_wp2_with fail
    go_roundw
    case rel=>exact ⟨j+1,by omega,rfl,by rw [HS2.out];exact HO7.out,HB7.out⟩
    case measure=>simp [intOf];omega
  ·obtain rfl:j=m:=by omega
   go_wp2_with fail
   go_ret
   exact ⟨_,rfl,by rw [HAM.out];exact HBB.out,HBV.out⟩
end
def fq (S:Mn):Nat->Nat->List (List UInt8)->List (List UInt8)
 | 0,_,lg=>lg
 | m+1,i,lg=>fq S m (i+1) (if (S.at i).up then (if lg.length<(S.at i).s.many then cU (S.at i).s else lg) else lg)
theorem tE (S:Mn) (n t:Nat) (lg:List (List UInt8)) (h:t<n):fq S (n - t) t lg=fq S (n - (t+1)) (t+1) (if (S.at t).up then (if lg.length<(S.at t).s.many then cU (S.at t).s else lg) else lg):=by
 rw [show n - t=(n - (t+1))+1 by omega];rfl
section
variable {w w':World} {A A' X Y Y' Z Z':List Nat} {g n:Nat} {S:Mn} {es es':Cuts} {os rs ds ls:Nat->Nat} {Xs:Nat->List Nat} {vl:Value} {nb mb mb':Nat} {qv lv qv' pn:Value} {q':List Msg} {r d l:Nat} {s:Rp} {k:Dk}
theorem GyC.setl {v':Value} {lg:List (List UInt8)} (h:GyC w A Y g n S es os rs ds ls Xs vl nb mb qv lv) (hl:ImmL w A v' lg) :
  GyC (w.setCell ⟨g,2,none⟩ v') A Y g n { S with long:=lg } es os rs ds ls Xs vl nb mb qv v':=by
 have hon:Only [g] w (w.setCell ⟨g,2,none⟩ v'):=(Only.refl _ _).setCell (by simp) _;have hTA:∀b∈[g],b∈A:=λb hb=>by rw [aj.1 hb];exact h.yA _ h.gY
 have hne:∀{b:Nat} {cs:Array Value} {t:TypeId} {fr:Nat×Nat},w.heap[b]? = some (.cells cs t fr)->t≠47->b∉[g]:=λ{b cs t fr} hb h1 hm=>by
  rw [aj.1 hm,h.cell] at hb;simp at hb;exact h1 hb.2.1.symm
 have hmg:mb∉[g]:=λhm=>by
  obtain ⟨arr,c,h3,_⟩:=h.cut.map;rw [aj.1 hm,h.cell] at h3;cases h3
 refine ⟨by rw [aR h.cell];rfl,bu h.lr hon (λb hb=>?_),λi hi=>hon.keeps (h.one i hi) (hne (h.one i hi) (by decide)),hon.keeps h.net (hne h.net (by decide)),h.cut.only hon hmg,λi hi=>?_,
  h.q.keep hon hTA (λb _ cur hcur=>hne hcur (by decide)) (Ext.refl _ _) (λb hb=>hb),h.z,hl.step hon hTA (Ext.refl _ _),h.nl,h.n5,h.gY,h.oY,h.lY,h.nY,h.mY,h.oo,h.yx,h.xx,h.yA,λb hb=>by simpa using h.alt b hb⟩
 ·obtain ⟨_,cur,hc⟩:=eH h.lr hb;exact hne hc (by decide)
 ·exact (h.node i hi).keep hon hTA (λb hb hm=>h.yx i hi b (by rw [aj.1 hm];exact h.gY) hb) (Ext.refl _ _) (λb hb=>hb) (λb hb=>by simpa using h.alt b hb)
theorem GyC.netc {mq:List Msg} (h:GyC w A Y g n S es os rs ds ls Xs vl nb mb qv lv) (hz:∀b,b∈Z↔b∈Y\/∃i,i<n/\b∈Xs i) (p:NtP w w' A Y nb n mb mq es') :
  ∃A' Y' mb' qv' Z',GyC w' A' Y' g n { S with q:=mq } es' os rs ds ls Xs vl nb mb' qv' lv/\(∀b,b∈Z'↔b∈Y'\/∃i,i<n/\b∈Xs i)/\Mv A A' Z Z' w w':=by
 obtain ⟨A',Y',mb',qv',hn,x⟩:=p.open;have hc:=h.netx hn x;obtain ⟨m,y,e,T,ho,ht⟩:=x;refine ⟨A',Y',mb',qv',Y'++(List.range n).flatMap Xs,hc,λb=>by simp [fd],⟨⟨ho.mono (λb hb=>(hz b).2 (.inl (ht b hb).1)),λb hb=>?_,λb hb=>?_⟩,m.ext,m.sub⟩⟩
 ·rcases ap.1 hb with h1 | h1
  ·exact (y b h1).imp (λk=>(hz b).2 (.inl k)) id
  ·obtain ⟨i,hi,hx⟩:=fd.1 h1;exact .inl ((hz b).2 (.inr ⟨i,cW.1 hi,hx⟩))
 ·rcases (hz b).1 hb with h1 | ⟨i,hi,hx⟩
  ·exact aG _ (m.mv.sub b h1)
  ·exact aO _ (fd.2 ⟨i,cW.2 hi,hx⟩)
set_option maxHeartbeats 400000 in
theorem y9 (h:Nd w A X r d l s k):Calls Tryz.prog 61 #[.pointer (some ⟨r,0,none⟩)] w λe w'=>e = .returned (.int .i64 (s.many:Int))/\w=w':=by
 obtain ⟨vl,gv,gn,gm,gh,hcell⟩:=h.cells;have hc:w.cell? ⟨r,10,none⟩=some (.int .i64 (s.many:Int)):=by rw [af hcell];rfl
 clear hcell h;go_enter Tryz.func61,Tryz.ntmps61
 go_wp2_with fail
 go_ret
 exact ⟨rfl,rfl⟩
theorem nI {v:Value} {lg:List (List UInt8)} (h:ImmL w A v lg):∃ao c,v = .slice ao lg.length c:=by
 rcases h with ⟨rfl,rfl⟩ | ⟨g,c,cur,rfl,_⟩
 ·exact ⟨none,0,rfl⟩
 ·exact ⟨_,_,rfl⟩
set_option maxHeartbeats 8000000 in
theorem lR {ms:List Msg} (h:Gy w A Z g n S es) (hq:S.q.length<=2000) (v:Value) (hr:MsRow w A v ms) (hg:∀m∈ms,gV m/\(0<=m.frm/\m.frm<(n:Int))/\0<=m.dst/\m.dst<(n:Int))
  (hup:∀i,i<n->(S.at i).up=true->Wf (S.at i).s (S.at i).k/\dQ (S.at i).s (S.at i).k=false) (hn0:0<n) :
  Calls Tryz.prog 37 #[.pointer (some ⟨g,0,none⟩),v] w λe w'=>e = .returned (.tuple #[])/\GyP w w' A Z g n { S with q:=ms.foldl (fz (dG es)) S.q,long:=fq S n 0 S.long } es:=by
 obtain ⟨Y,os,rs,ds,ls,Xs,vl,nb,mb,qv,lv,h,hz⟩:=h;have HS:=ab (vX h.nt h.n5 hq v hr hg);have HC:=ab h;have HZ:=ab hz;have HUP:=ab hup;have c1:w.cell? ⟨g,1,none⟩=some (.pointer (some ⟨nb,0,none⟩)):=by rw [af h.cell];rfl
 clear h hz hup hq hr hg;generalize ms.foldl (fz (dG es)) S.q=Q at *;go_enter Tryz.func37,Tryz.ntmps37
 go_wp2_with fail
 refine HS.out.mono ?_;rintro e w1 ⟨⟨c,rfl⟩,hp⟩;obtain ⟨A1,Y1,mb1,qv1,Z1,h1,hz1,m1⟩:=HC.out.netc HZ.out hp;obtain ⟨gl,cr,rfl,hcr,hrow⟩:=h1.lrow hn0;have HZ1:=ab hz1;have H1:=ab h1;have M1:=ab m1;have c0:w1.cell? ⟨g,0,none⟩=some (.slice (some ⟨gl,0,none⟩) n cr):=by rw [af h1.cell];rfl
 have hn5:=h1.n5;clear h1 hz1 m1 hp hrow;go_wp2_with fail
 go_loopw [17,4,5] (λi a b wr=>∃(t:Nat) (lg:List (List UInt8)) (lv1:Value),t<=n/\i = .int .i64 (t:Int)/\GyC wr A1 Y1 g n { S with q:=Q,long:=lg } es os rs ds ls Xs (.slice (some ⟨gl,0,none⟩) n cr) nb mb1 qv1 lv1/\Mv A A1 Z Z1 w wr/\fq S n 0 S.long=fq S (n - t) t lg) (λi _ _ _=>n - (intOf i).toNat)
 case atStart=>exact ⟨0,S.long,_,aH _,rfl,H1.out,M1.out,rfl⟩
 case round =>
  obtain ⟨t,lg,lv1,ht,rfl,hc,m2,hml⟩:=hrel;by_cases hlt:t<n
  ·obtain ⟨gl',cr',e9,_,hrow⟩:=hc.lrow hn0;cases e9;have r1:=hrow t hlt;unfold eg at r1;have HML:=ab (hml.trans (tE S n t lg hlt));have q6:IntKind.i64.wrap ((t:Int)+1)=(t:Int)+1:=IntWalk.i64_in _ (by omega);have hti:(t:Int)<(n:Int):=by omega
   have HM2:=ab m2;have HC2:=ab hc;clear hrow hml m2 c0 c1;by_cases hu:(S.at t).up=true
   ·obtain ⟨hwf,hdn⟩:=HUP.out t hlt hu;have HU:=ab (jz hc t hlt hu hdn);have HU0:=ab hu;have HWF:=ab hwf;clear hc hu hdn hwf;go_wp2_with fail
    refine HU.out.mono ?_;rintro e w2 ⟨rfl,hc2,ho2,hrx⟩;have o1:w2.cell? ⟨os t,1,none⟩=some (.pointer (some ⟨rs t,0,none⟩)):=by rw [af (hc2.one t hlt)];rfl
    obtain ⟨al,cl,rfl⟩:=nI hc2.long;have g2:w2.cell? ⟨g,2,none⟩=some (.slice al lg.length cl):=by rw [af hc2.cell];rfl
    have HM:Hid (∀d,Calls Tryz.prog 61 #[.pointer (some ⟨rs t,0,none⟩)] (w2.drewN d) λe w'=>e = .returned (.int .i64 ((S.at t).s.many:Int))/\w2.drewN d=w'):=ab λd=>y9 (((hc2.below (ak w2 d)).node t hlt).up HU0.out);have HAG:Hid (∀d,Calls Tryz.prog 28 #[.pointer (some ⟨rs t,0,none⟩)] (w2.drewN d) λe w'=>∃v,e = .returned v/\OwnL w' (w2.drewN d).heap.size v (cU (S.at t).s)/\Below (w2.drewN d).heap.size (w2.drewN d) w'):=ab λd=>og (((hc2.below (ak w2 d)).node t hlt).up HU0.out) HWF.out;have HM3:Hid (Mv A A1 Z Z1 w w2):=ab (HM2.out.trans (Mv.only ho2 (λb hb=>by rw [aj.1 hb];exact (HZ1.out _).2 (.inr ⟨t,hlt,hrx⟩))));have HC3:=ab hc2;clear hc2 ho2 hrx r1;generalize (S.at t).s.many=mm at *;go_upto_region 5 with (fail)
    go_quiet ((go_at_call 61;exact i6 (HM.out _)))
    by_cases hm:lg.length<mm
    ·have hm2:decide ((lg.length:Int)<(mm:Int))=true:=aJ (by omega);have HMM:=ab hm;clear hm;go_wp2_with fail
     refine (HAG.out _).mono ?_;rintro e W ⟨va,rfl,hva,hba⟩;obtain ⟨aa,ca,rfl,_⟩:=hva.shape;have hc4:=HC3.out.below (ak w2 nq);have hlv:=ImmL.new hva hc4.alt;have hc5:=hc4.below hba;have z2:=aM hc5.cell 2;have c2:W.cell? ⟨g,2,none⟩=some (.slice al lg.length cl):=by rw [af hc5.cell];rfl
     have HF:=ab (hc5.setl hlv);have HMV:Hid (Mv A A1 Z Z1 w (W.setCell ⟨g,2,none⟩ (.slice aa (cU (S.at t).s).length ca))):=ab (((HM3.out.trans (Mv.below (ak w2 nq))).trans (Mv.below hba)).trans (Mv.only (S:=[g]) ((Only.refl _ _).setCell (by simp) _) (λb hb=>by rw [aj.1 hb];exact (HZ1.out _).2 (.inl hc5.gY))));clear hc4 hc5 hlv hva hba;go_wp2_with fail
     go_roundw
     case rel =>
      refine ⟨t+1,_,_,by omega,by simp,HF.out,HMV.out,?_⟩;rw [HML.out,aA HU0.out,aA HMM.out]
     case measure=>simp [intOf];omega
    ·have hm2:decide ((lg.length:Int)<(mm:Int))=false:=aW (by omega);have HMM:=ab hm;clear hm;have HF:=ab (HC3.out.below (ak w2 nq));have HMV:=ab (HM3.out.trans (Mv.below (ak w2 nq)));go_wp2_with fail
     go_roundw
     case rel =>
      refine ⟨t+1,_,_,by omega,by simp,HF.out,HMV.out,?_⟩;rw [HML.out,aA HU0.out,aw HMM.out]
     case measure=>simp [intOf];omega
   ·have hu2:(S.at t).up=false:=by simpa using hu
    have HU:=ab (gB hc t hlt hu2);have HU0:=ab hu;clear hc hu hu2;go_wp2_with fail
    refine HU.out.mono ?_;rintro e w2 ⟨rfl,rfl⟩;go_wp2_with fail
    go_roundw
    case rel =>
     refine ⟨t+1,lg,_,by omega,by simp,HC2.out,HM2.out,?_⟩;rw [HML.out,aw HU0.out]
    case measure=>simp [intOf];omega
  ·obtain rfl:t=n:=by omega
   have HF:Hid (GyP w wr A Z g t { S with q:=Q,long:=fq S t 0 S.long } es):=ab (by
    rw [hml,pA];exact ⟨A1,Z1,⟨_,_,_,_,_,_,_,_,_,_,_,hc,HZ1.out⟩,m2⟩)
   clear hc m2 hml;go_wp2_with fail
   go_end0
   exact ⟨rfl,HF.out⟩
end
def Mn.turnG (n:Nat) (es:Cuts) (S:Mn) (i:Nat) (p:List Msg×Rp×Dk):Mn :=
 { S.set i ⟨p.2.1,p.2.2,true⟩ with q:=p.1.foldl (fz (dG es)) S.q,long:=fq (S.set i ⟨p.2.1,p.2.2,true⟩) n 0 S.long }
section
variable {w w':World} {A A' X Y Y' Z Z':List Nat} {g n:Nat} {S:Mn} {es es':Cuts} {os rs ds ls:Nat->Nat} {Xs:Nat->List Nat} {vl:Value} {nb mb mb':Nat} {qv lv qv' pn:Value} {q':List Msg} {r d l:Nat} {s:Rp} {k:Dk}
theorem GyC.turn {p:List Msg×Rp×Dk} {e:Ending} {i:Nat} (h:GyC w A Y g n S es os rs ds ls Xs vl nb mb qv lv) (hz:∀b,b∈Z↔b∈Y\/∃i,i<n/\b∈Xs i) (hi:i<n) (hu:(S.at i).up=true) (hp:MsP w w' A (Xs i) (rs i) (ds i) (ls i) e p) :
  ∃v A' Z',e = .returned v/\Gy w' A' Z' g n (S.set i ⟨p.2.1,p.2.2,true⟩) es/\MsRow w' A' v p.1/\Mv A A' Z Z' w w':=by
 obtain ⟨v,A',X',rfl,hn,hms,m,hv⟩:=hp;have hx:=hn.xA;have ha:=hn.alt;have hc:=h.call hi m (nd:=⟨p.2.1,p.2.2,true⟩) ⟨λ_=>hn,(λe=>by cases e),hx⟩ hu.symm ha;obtain ⟨Z',hz',m'⟩:=mH hi hz m;exact ⟨v,A',Z',rfl,⟨Y,os,rs,ds,ls,_,vl,nb,mb,qv,lv,hc,hz'⟩,hms.row hv,m'⟩
def uY (n:Nat) (ms:List Msg):Prop:=∀m∈ms,gV m/\(0<=m.frm/\m.frm<(n:Int))/\0<=m.dst/\m.dst<(n:Int)
def mA (n:Nat) (S:Mn):Prop:=∀i,i<n->(S.at i).up=true->Wf (S.at i).s (S.at i).k/\dQ (S.at i).s (S.at i).k=false
set_option maxHeartbeats 4000000 in
theorem zE (h:Gy w A Z g n S es) (i:Nat) (hi:i<n) (hq:S.q.length<=2000) (hU:mA n S) (hu:(S.at i).up=true) (hck:(S.at i).s.clock+1<=1000000)
  (hg:uY n (dX (S.at i).s (S.at i).k).1) (hU2:mA n (S.set i ⟨(dX (S.at i).s (S.at i).k).2.1,(dX (S.at i).s (S.at i).k).2.2,true⟩)) :
  Calls Tryz.prog 19 #[.pointer (some ⟨g,0,none⟩),.int .i64 (i:Int)] w λe w'=>e = .returned (.bool true)/\GyP w w' A Z g n (S.turnG n es i (dX (S.at i).s (S.at i).k)) es:=by
 obtain ⟨Y,os,rs,ds,ls,Xs,vl,nb,mb,qv,lv,h,hz⟩:=h;have HU:=ab (jz h i hi hu (hU i hi hu).2);obtain ⟨gl,cr,rfl,hcr,hrow⟩:=h.lrow (by omega);have HZ:=ab hz;have HTK:Hid (∀w2,GyC w2 A Y g n S es os rs ds ls Xs (.slice (some ⟨gl,0,none⟩) n cr) nb mb qv lv->Calls Tryz.prog 38 #[.pointer (some ⟨rs i,0,none⟩)] w2 λe w'=>MsP w2 w' A (Xs i) (rs i) (ds i) (ls i) e (dX (S.at i).s (S.at i).k)):=ab λw2 h2=>yg ((h2.node i hi).up hu) (hU i hi hu).1 hck;have HTURN:Hid (∀w2 w3 e,GyC w2 A Y g n S es os rs ds ls Xs (.slice (some ⟨gl,0,none⟩) n cr) nb mb qv lv->MsP w2 w3 A (Xs i) (rs i) (ds i) (ls i) e (dX (S.at i).s (S.at i).k)->∃v A' Z',e = .returned v/\Gy w3 A' Z' g n (S.set i ⟨(dX (S.at i).s (S.at i).k).2.1,(dX (S.at i).s (S.at i).k).2.2,true⟩) es/\MsRow w3 A' v (dX (S.at i).s (S.at i).k).1/\Mv A A' Z Z' w2 w3):=ab λw2 w3 e h2 hp=>h2.turn HZ.out hi hu hp;have HSEND:Hid (∀w3 A' Z' v,Gy w3 A' Z' g n (S.set i ⟨(dX (S.at i).s (S.at i).k).2.1,(dX (S.at i).s (S.at i).k).2.2,true⟩) es->MsRow w3 A' v (dX (S.at i).s (S.at i).k).1->Calls Tryz.prog 37 #[.pointer (some ⟨g,0,none⟩),v] w3 λe w'=>e = .returned (.tuple #[])/\GyP w3 w' A' Z' g n (S.turnG n es i (dX (S.at i).s (S.at i).k)) es):=ab λw3 A' Z' v h3 hr=>lR h3 hq v hr hg hU2 (by omega);have HLR:Hid (∀w2,GyC w2 A Y g n S es os rs ds ls Xs (.slice (some ⟨gl,0,none⟩) n cr) nb mb qv lv->w2.cell? ⟨g,0,none⟩=some (.slice (some ⟨gl,0,none⟩) n cr)/\w2.cell? ⟨gl,i,none⟩=some (.pointer (some ⟨os i,0,none⟩))/\w2.cell? ⟨os i,1,none⟩=some (.pointer (some ⟨rs i,0,none⟩))):=ab λw2 h2=>by
  obtain ⟨gl',cr',e9,_,hr2⟩:=h2.lrow (by omega);cases e9;exact ⟨by rw [af h2.cell];rfl,hr2 i hi,by rw [af (h2.one i hi)];rfl⟩
 have hin:(i:Int)<(n:Int):=by omega
 clear h hz hrow hU hu hg hU2 hck hq;go_enter Tryz.func19,Tryz.ntmps19
 go_wp2_with fail
 refine HU.out.mono ?_;rintro e w2 ⟨rfl,hc2,ho2,hrx⟩;have HMV:Hid (Mv A A Z Z w w2):=ab (Mv.only ho2 (λb hb=>by rw [aj.1 hb];exact (HZ.out _).2 (.inr ⟨i,hi,hrx⟩)));obtain ⟨k0,k1,k2⟩:=HLR.out w2 hc2;have HT2:=ab (HTK.out w2 hc2);have HTU:=ab (HTURN.out w2 · · hc2);clear hc2 ho2 hrx;go_wp2_with fail
 refine HT2.out.mono ?_;intro e w3 hp;obtain ⟨v,A3,Z3,rfl,h3,hr3,m3⟩:=HTU.out _ _ hp;have HS3:=ab (HSEND.out w3 A3 Z3 v h3 hr3);have HM3:=ab (HMV.out.trans m3);clear h3 hr3 m3 hp;go_wp2_with fail
 refine HS3.out.mono ?_;rintro e w4 ⟨rfl,hG⟩;have HG:=ab (GyP.trans HM3.out hG);clear hG;go_wp2_with fail
 go_ret
 exact ⟨rfl,HG.out⟩
set_option maxHeartbeats 1000000 in
theorem rQ (h:Gy w A Z g n S es) (x:Int) (hx:(decide (0<=x)&&decide (x<(n:Int)))=false\/∃i:Nat,i<n/\x=(i:Int)/\(S.at i).up=false) :
  Calls Tryz.prog 19 #[.pointer (some ⟨g,0,none⟩),.int .i64 x] w λe w'=>e = .returned (.bool false)/\w=w':=by
 obtain ⟨Y,os,rs,ds,ls,Xs,vl,nb,mb,qv,lv,h,hz⟩:=h;have HU:Hid (Calls Tryz.prog 13 #[.pointer (some ⟨g,0,none⟩),.int .i64 x] w λe w'=>e = .returned (.bool false)/\w=w'):=ab (by
  rcases hx with hx | ⟨i,hi,rfl,hu⟩
  ·exact qf h x hx
  ·exact gB h i hi hu)
 clear h hz hx;go_enter Tryz.func19,Tryz.ntmps19
 go_wp2_with fail
 refine HU.out.mono ?_;rintro e w1 ⟨rfl,rfl⟩;go_wp2_with fail
 go_ret
 exact ⟨rfl,rfl⟩
end
section
variable {w w' w2:World} {A A' X Y Y' Z Z':List Nat} {g n:Nat} {S:Mn} {es es':Cuts} {os rs ds ls:Nat->Nat} {Xs:Nat->List Nat} {vl:Value} {nb mb mb':Nat} {qv lv qv' pn:Value} {q':List Msg} {r d l:Nat} {s:Rp} {k:Dk}
theorem GyC.callO {X':List Nat} {i r' l':Nat} {nd:Nod} (h:GyC w A Y g n S es os rs ds ls Xs vl nb mb qv lv) (hi:i<n) (hm:Mv A A' (Xs i) X' w w') (hn:NodeAt w' A' X' r' (ds i) l' nd) (ha:∀b∈A',b<w'.heap.size)
  (ho2:Only [os i] w' w2) (hone:w2.heap[os i]? = some (.cells #[eg (ds i),eg r',.bool nd.up] 58 (0,0))) :
  GyC w2 A' Y g n (S.set i nd) es os (jU rs i r') ds (jU ls i l') (jU Xs i X') vl nb mb qv lv:=by
 have hT:∀b∈Xs i,b∈A:=(h.node i hi).xA;have hY:∀b∈Y,b∉Xs i:=h.yx i hi;have ho:=hm.mv.only;have hnew:∀P:List Nat,(∀b∈P,b∈A)->Dis P (Xs i)->Dis P X':=λP hP hd b hb hx=>by
  rcases hm.mv.gr b hx with h1 | h1
  ·exact hd b hb h1
  ·have:=h.alt b (hP b hb);omega
 have hoi:=ho.keeps (h.one i hi) (hY _ (h.oY i hi));have hTA:∀b∈[os i],b∈A':=λb hb=>by rw [aj.1 hb];exact hm.sub _ (h.yA _ (h.oY i hi))
 have hne:∀{b:Nat} {cs:Array Value} {t:TypeId} {fr:Nat×Nat},w'.heap[b]? = some (.cells cs t fr)->t≠58->b∉[os i]:=λ{b cs t fr} hb h1 hm=>by
  rw [aj.1 hm,hoi] at hb;simp at hb;exact h1 hb.2.1.symm
 have hyx':=hnew Y h.yA (h.yx i hi);have ha2:∀b∈A',b<w2.heap.size:=λb hb=>aE (ha b hb) ho2.size;have hc1:=ho.keeps h.cell (hY _ h.gY);have hl1:=bu h.lr ho (λb hb=>hY _ (h.lY b hb));have hn1:=ho.keeps h.net (hY _ h.nY);have hcut1:=h.cut.only ho (hY _ h.mY);have hmg:mb∉[os i]:=λhm=>by
  obtain ⟨arr,c,h3,_⟩:=hcut1.map;rw [aj.1 hm,hoi] at h3;cases h3
 have hq1:=h.q.keep ho hT (λb hb _ _=>hY b hb) hm.ext (λb hb=>hb);refine ⟨ho2.keeps hc1 (hne hc1 (by decide)),bu hl1 ho2 (λb hb=>?_),λj hj=>?_,ho2.keeps hn1 (hne hn1 (by decide)),hcut1.only ho2 hmg,λj hj=>?_,
  hq1.keep ho2 hTA (λb _ cur hc=>hne hc (by decide)) (Ext.refl _ _) (λb hb=>hb),h.z,(h.long.step ho hT hm.ext).step ho2 hTA (Ext.refl _ _),by simp [Mn.set,h.nl],h.n5,h.gY,h.oY,h.lY,h.nY,h.mY,h.oo,λj hj=>?_,λj1 j2 h1 h2 hnj=>?_,λb hb=>hm.sub b (h.yA b hb),ha2⟩
 ·obtain ⟨_,cur,hc⟩:=eH hl1 hb;exact hne hc (by decide)
 ·rw [Mn.at_set _ _ _ _ (by rw [h.nl];exact hi)];by_cases hji:j=i
  ·subst hji;rw [aA rfl,cP];exact hone
  ·rw [aw hji,co _ _ hji];exact ho2.keeps (ho.keeps (h.one j hj) (hY _ (h.oY j hj))) (λhm=>hji (h.oo j i hj hi (aj.1 hm)))
 ·rw [Mn.at_set _ _ _ _ (by rw [h.nl];exact hi)];by_cases hji:j=i
  ·subst hji;rw [aA rfl,cP,cP,cP];exact hn.keep ho2 hTA (λb hb hb2=>hyx' b (by rw [aj.1 hb2];exact h.oY j hj) hb) (Ext.refl _ _) (λb hb=>hb) ha2
  ·rw [aw hji,co _ _ hji,co _ _ hji,co _ _ hji];exact ((h.node j hj).keep ho hT (h.xx j i hj hi hji) hm.ext hm.sub ha).keep ho2 hTA (λb hb hb2=>h.yx j hj b (by rw [aj.1 hb2];exact h.oY i hi) hb) (Ext.refl _ _) (λb hb=>hb) ha2
 ·by_cases hji:j=i
  ·subst hji;rw [cP];exact hyx'
  ·rw [co _ _ hji];exact h.yx j hj
 ·by_cases e1:j1=i
  ·subst e1;have e2:j2≠j1:=λe=>hnj e.symm;rw [cP,co _ _ e2];exact (hnew (Xs j2) (h.node j2 h2).xA (h.xx j2 j1 h2 h1 e2)).symm
  ·by_cases e2:j2=i
   ·subst e2;rw [cP,co _ _ e1];exact hnew (Xs j1) (h.node j1 h1).xA (h.xx j1 j2 h1 h2 hnj)
   ·rw [co _ _ e1,co _ _ e2];exact h.xx j1 j2 h1 h2 hnj
theorem NodeAt.dk {X:List Nat} {r d l:Nat} {nd:Nod} (h:NodeAt w A X r d l nd):∃D,IsDk w D d nd.k/\∀b∈D,b∈X:=by
 cases hu:nd.up with
 | true =>
  obtain ⟨D,L,R,vl,gv,gn,gm,gh,hn,hX⟩:=h.up hu;exact ⟨D,hn.wd.dk,λb hb=>(hX b).2 (.inl hb)⟩
 | false=>exact ⟨X,h.dn hu,λb hb=>hb⟩
theorem Bd {D D' X:List Nat} (hD:∀b∈D,b∈X) (hDA:∀b∈D,b∈A) (hm:Moves D D' w w'):Mv A (A++D') X (X++D') w w'/\((∀b∈X,b∈A)->∀b∈X++D',b∈A++D') :=
 ⟨⟨⟨hm.only.mono hD,λb hb=>by
  rcases ap.1 hb with h1 | h1
  ·exact .inl h1
  ·exact (hm.gr b h1).imp (hD b) id,λb hb=>aG _ hb⟩,λb hb=>by
  rcases ap.1 hb with h1 | h1
  ·exact .inl h1
  ·rcases hm.gr b h1 with h2 | h2
   ·exact .inl (hDA b h2)
   ·exact .inr h2,λb hb=>aG _ hb⟩,λhX b hb=>by
  rcases ap.1 hb with h1 | h1
  ·exact aG _ (hX b h1)
  ·exact aO _ h1⟩
theorem IsDk.grow {D D2:List Nat} {d:Nat} {k:Dk} (h:IsDk w D d k) (hs:∀b∈D,b∈D2) (hl:∀b∈D2,b<w.heap.size):IsDk w D2 d k:=by
 obtain ⟨⟨mb,h1,h2,h3⟩,h4,h5⟩:=h;refine ⟨⟨mb,h1,hs mb h2,?_⟩,hs d h4,hl⟩;cases hf:k.file with
 | none=>rw [hf] at h3;exact h3
 | some p =>
  obtain ⟨l,sf⟩:=p;rw [hf] at h3;obtain ⟨c,fb,b0,v,k1,k2,k3,k4,k5,k6⟩:=h3;exact ⟨c,fb,b0,v,k1,k2,hs fb k3,k4,k5,λb hb=>hs b (k6 b hb)⟩
theorem GyC.crashed {i:Nat} {D D':List Nat} {k':Dk} (h:GyC w A Y g n S es os rs ds ls Xs vl nb mb qv lv) (hz:∀b,b∈Z↔b∈Y\/∃i,i<n/\b∈Xs i) (hi:i<n) (hD:∀b∈D,b∈Xs i) (hk:IsDk w' D' (ds i) k') (hm:Moves D D' w w') :
  GyP w (w'.setCell ⟨os i,2,none⟩ (.bool false)) A Z g n (S.set i ⟨(S.at i).s,k',false⟩) es:=by
 have hXA:=(h.node i hi).xA;obtain ⟨hmv,hxA⟩:=Bd (A:=A) hD (λb hb=>hXA b (hD b hb)) hm;have hal:∀b∈A++D',b<w'.heap.size:=λb hb=>by
  rcases ap.1 hb with h1 | h1
  ·exact aE (h.alt b h1) hm.only.size
  ·exact hk.lt b h1
 have hoi:=hm.only.keeps (h.one i hi) (λhd=>h.yx i hi _ (h.oY i hi) (hD _ hd));have hon:Only [os i] w' (w'.setCell ⟨os i,2,none⟩ (.bool false)):=(Only.refl _ _).setCell (by simp) _;have hs:=h.callO (nd:=⟨(S.at i).s,k',false⟩) hi hmv ⟨(λe=>by cases e),λ_=>hk.grow (λb hb=>aO _ hb) (λb hb=>hal b (hxA hXA b hb)),hxA hXA⟩ hal hon
  (by rw [aR hoi];rfl) (l':=ls i) (r':=rs i)
 obtain ⟨Z',hz',hmz⟩:=mH (Y:=Y) hi hz hmv;exact ⟨A++D',Z',⟨_,_,_,_,_,_,_,_,_,_,_,hs,hz'⟩,hmz.trans (Mv.only hon (λb hb=>by rw [aj.1 hb];exact (hz' _).2 (.inl (h.oY i hi))))⟩
theorem GyC.backed {i r' l':Nat} {X':List Nat} {nd:Nod} (h:GyC w A Y g n S es os rs ds ls Xs vl nb mb qv lv) (hz:∀b,b∈Z↔b∈Y\/∃i,i<n/\b∈Xs i) (hi:i<n) (hm:Mv A A' (Xs i) X' w w') (hn:Nd w' A' X' r' (ds i) l' nd.s nd.k) (hu:nd.up=true) :
  GyP w ((w'.setCell ⟨os i,1,none⟩ (eg r')).setCell ⟨os i,2,none⟩ (.bool true)) A Z g n (S.set i nd) es:=by
 have hoi:=hm.mv.only.keeps (h.one i hi) (h.yx i hi _ (h.oY i hi));have ho1:Only [os i] w' (w'.setCell ⟨os i,1,none⟩ (eg r')):=(Only.refl _ _).setCell (by simp) _;have ho2:Only [os i] w' ((w'.setCell ⟨os i,1,none⟩ (eg r')).setCell ⟨os i,2,none⟩ (.bool true)):=ho1.setCell (by simp) _;have hs:=h.callO (nd:=nd) hi hm ⟨λ_=>hn,(λe=>by rw [hu] at e;cases e),hn.xA⟩ hn.alt ho2 (by rw [aR (aR hoi 1 _),hu];rfl);obtain ⟨Z',hz',hmz⟩:=mH (Y:=Y) hi hz hm;exact ⟨A',Z',⟨_,_,_,_,_,_,_,_,_,_,_,hs,hz'⟩,hmz.trans (Mv.only ho2 (λb hb=>by rw [aj.1 hb];exact (hz' _).2 (.inl (h.oY i hi))))⟩
end
end Go.Proofs.YtnhefallmioefaaGreat
