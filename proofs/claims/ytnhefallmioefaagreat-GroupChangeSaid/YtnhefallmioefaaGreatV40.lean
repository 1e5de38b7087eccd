/-
  What the proof of the law leans on: contracts of the program's functions, one behind another. No condition.
-/
import Derived.Test.YtnhefallmioefaaGreatV0
import Derived.Deep.Strs
import Derived.Test.YtnhefallmioefaaGreatV20
import Derived.Test.YtnhefallmioefaaGreatV39
import Derived.Test.YtnhefallmioefaaGreatV24
import Derived.Test.YtnhefallmioefaaGreatV26
import Derived.Test.YtnhefallmioefaaGreatV22
import Derived.Test.YtnhefallmioefaaGreatV4
import Derived.Test.YtnhefallmioefaaGreatV1
import Derived.Test.YtnhefallmioefaaGreatV34
set_option linter.unusedVariables false
set_option linter.unusedSimpArgs false
namespace Go.Proofs.YtnhefallmioefaaGreat
open Go.RowKit Go.ChangeMaps Go.WideMaps Go.Maps
set_option maxRecDepth 20000
section
variable {w w':World} {A A' X Y Y' Z Z':List Nat} {g n:Nat} {S:Mn} {es es':Cuts} {os rs ds ls:Nat->Nat} {Xs:Nat->List Nat} {vl:Value} {nb mb mb':Nat} {qv lv qv' pn:Value} {q':List Msg} {r d l:Nat} {s:Rp} {k:Dk}
theorem NtF.ntx {q:List Msg} (h:NtF w w' A Y nb mb n q es):∃qv,IsNt w' A Y nb mb n qv q es/\NtX w w' A Y A Y nb mb mb:=by
 obtain ⟨qv,h,T,hT,ht⟩:=h;exact ⟨qv,h,Mv.only hT (λb hb=>(ht b hb).1),λb hb=>.inl hb,.inl rfl,T,hT,λb hb=>⟨(ht b hb).1,(ht b hb).2.imp id .inr⟩⟩
set_option maxHeartbeats 4000000 in
theorem wP (h:Gy w A Z g n S es) (j:Nat) (hj:j<S.q.length) (m:Msg) (hm:S.q[j]=m) (i:Nat) (hi:i<n) (hdst:m.dst=(i:Int)) (hq:S.q.length<=2000) (hU:mA n S) (hu:(S.at i).up=true) (hl:gV m) (hN1:m.N.getD 1 0<=4611686018427387904)
  (hg:uY n (fw (S.at i).s (S.at i).k m).1) (hU2:mA n (S.set i ⟨(fw (S.at i).s (S.at i).k m).2.1,(fw (S.at i).s (S.at i).k m).2.2,true⟩)) :
  Calls Tryz.prog 20 #[.pointer (some ⟨g,0,none⟩),.int .i64 (j:Int)] w λe w'=>e = .returned (.bool true)/\GyP w w' A Z g n (Mn.turnG n es { S with q:=S.q.eraseIdx j } i (fw (S.at i).s (S.at i).k m)) es:=by
 obtain ⟨Y,os,rs,ds,ls,Xs,vl,nb,mb,qv,lv,h,hz⟩:=h;have HT:=ab (nw h.nt j hj (by omega) (by rw [hm];exact hl));rw [hm] at HT;have HZ:=ab hz;have HH:=ab h;have hge:(S.q.eraseIdx j).length<=2000:=by rw [List.length_eraseIdx_of_lt hj];omega
 obtain ⟨Q,hQ⟩:∃Q,Q=S.q.eraseIdx j:=⟨_,rfl⟩
 rw [<-hQ] at HT hge ⊢;obtain ⟨gl,cr,rfl,hcr,hrow⟩:=h.lrow (by omega);have HNX:Hid (∀w2,NtF w w2 A Y nb mb n Q es->∃qv2,GyC w2 A Y g n { S with q:=Q } es os rs ds ls Xs (.slice (some ⟨gl,0,none⟩) n cr) nb mb qv2 lv/\Mv A A Z Z w w2):=ab λw2 hF=>by
  obtain ⟨qv2,hn,x⟩:=hF.ntx;refine ⟨qv2,HH.out.netx hn x,?_⟩;obtain ⟨T,ho,ht⟩:=x.t;exact Mv.only ho (λb hb=>(HZ.out b).2 (.inl (ht b hb).1))
 have c1:w.cell? ⟨g,1,none⟩=some (.pointer (some ⟨nb,0,none⟩)):=by rw [af h.cell];rfl
 have HTK:Hid (∀w2 qv2 v u,GyC w2 A Y g n { S with q:=Q } es os rs ds ls Xs (.slice (some ⟨gl,0,none⟩) n cr) nb mb qv2 lv->IsMsg w2 A m v u->Calls Tryz.prog 40 #[.pointer (some ⟨rs i,0,none⟩),df m v u] w2 λe w'=>MsP w2 w' A (Xs i) (rs i) (ds i) (ls i) e (fw (S.at i).s (S.at i).k m)):=ab λw2 qv2 v u h2 hms=>BG ((h2.node i hi).up hu) (hU i hi hu).1 m v u hms hN1 (aD hl.2.1 (by decide)) (aD hl.1 (by decide));have HTURN:Hid (∀w2 w3 e qv2,GyC w2 A Y g n { S with q:=Q } es os rs ds ls Xs (.slice (some ⟨gl,0,none⟩) n cr) nb mb qv2 lv->MsP w2 w3 A (Xs i) (rs i) (ds i) (ls i) e (fw (S.at i).s (S.at i).k m)->∃v A' Z',e = .returned v/\Gy w3 A' Z' g n (Mn.set { S with q:=Q } i ⟨(fw (S.at i).s (S.at i).k m).2.1,(fw (S.at i).s (S.at i).k m).2.2,true⟩) es/\MsRow w3 A' v (fw (S.at i).s (S.at i).k m).1/\Mv A A' Z Z' w2 w3):=ab λw2 w3 e qv2 h2 hp=>h2.turn HZ.out hi hu hp;have HSEND:Hid (∀w3 A' Z' v,Gy w3 A' Z' g n (Mn.set { S with q:=Q } i ⟨(fw (S.at i).s (S.at i).k m).2.1,(fw (S.at i).s (S.at i).k m).2.2,true⟩) es->MsRow w3 A' v (fw (S.at i).s (S.at i).k m).1->Calls Tryz.prog 37 #[.pointer (some ⟨g,0,none⟩),v] w3 λe w'=>e = .returned (.tuple #[])/\GyP w3 w' A' Z' g n (Mn.turnG n es { S with q:=Q } i (fw (S.at i).s (S.at i).k m)) es):=ab λw3 A' Z' v h3 hr=>lR h3 hge v hr hg hU2 (by omega);have HUP:Hid (∀w2 qv2,GyC w2 A Y g n { S with q:=Q } es os rs ds ls Xs (.slice (some ⟨gl,0,none⟩) n cr) nb mb qv2 lv->Calls Tryz.prog 13 #[.pointer (some ⟨g,0,none⟩),.int .i64 m.dst] w2 λe w'=>e = .returned (.bool true)/\GyC w' A Y g n { S with q:=Q } es os rs ds ls Xs (.slice (some ⟨gl,0,none⟩) n cr) nb mb qv2 lv/\Only [rs i] w2 w'/\rs i∈Xs i):=ab λw2 qv2 h2=>by
  rw [hdst];exact jz h2 i hi hu (hU i hi hu).2
 have HLR:Hid (∀w2 qv2,GyC w2 A Y g n { S with q:=Q } es os rs ds ls Xs (.slice (some ⟨gl,0,none⟩) n cr) nb mb qv2 lv->w2.cell? ⟨g,0,none⟩=some (.slice (some ⟨gl,0,none⟩) n cr)/\w2.cell? ⟨gl,i,none⟩=some (.pointer (some ⟨os i,0,none⟩))/\w2.cell? ⟨os i,1,none⟩=some (.pointer (some ⟨rs i,0,none⟩))):=ab λw2 qv2 h2=>by
  obtain ⟨gl',cr',e9,_,hr2⟩:=h2.lrow (by omega);cases e9;exact ⟨by rw [af h2.cell];rfl,hr2 i hi,by rw [af (h2.one i hi)];rfl⟩
 have HDST:=ab hdst;have hin:(i:Int)<(n:Int):=by omega
 clear h hz hrow hU hu hg hU2 hq hm hQ hge hdst hl hN1;unfold df at HT HTK;go_enter Tryz.func20,Tryz.ntmps20
 go_wp2_with fail
 refine HT.out.mono ?_;rintro e w2 ⟨v,u,rfl,hms,hF⟩;obtain ⟨⟨av,cv,rfl⟩,av2,bv,cw,rfl⟩:=hms.shapes;obtain ⟨qv2,hc2,m2⟩:=HNX.out w2 hF;obtain ⟨O,hO⟩:∃O,O=lM m (.slice av m.N.length cv) (.slice av2 bv cw):=⟨_,rfl⟩
 have hbO:Below w2.heap.size w2 (w2.alloc O):=(az _ _).alloc (ah _) O;have HC3:=ab (hc2.below hbO);have HMS:=ab (hms.below hbO);have HMV:=ab (m2.trans (Mv.below hbO));have HX:=ab (aK w2 O);have HXA:Hid (w2.heap.size∉A):=ab (λhm=>by have:=hc2.alt _ hm;omega);have HU:=ab (HUP.out _ _ HC3.out);subst hO;obtain ⟨x0,x1,x2,x3,x4⟩:=gR HX.out;unfold lM at x0 x1 x2 x3 x4 HU;clear hc2 hms m2 hF hbO;go_wp2_with fail
 refine HU.out.mono ?_;rintro e w3 ⟨rfl,hc4,ho4,hrx⟩;have hrA:rs i∈A:=(hc4.node i hi).xA _ hrx;have hX4:=ho4.keeps HX.out (λhm=>HXA.out (by rw [aj.1 hm];exact hrA));have HMV4:=ab (HMV.out.trans (Mv.only ho4 (λb hb=>by rw [aj.1 hb];exact (HZ.out _).2 (.inr ⟨i,hi,hrx⟩))));have HMS4:=ab (HMS.out.step ho4 (λb hb=>by rw [aj.1 hb];exact hrA) (Ext.refl _ _));obtain ⟨y0,y1,y2,y3,y4⟩:=gR hX4;obtain ⟨k0,k1,k2⟩:=HLR.out _ _ hc4;rw [HDST.out] at y1;have HC4:=ab hc4;have hT5:=HTK.out w3.drew qv2 _ _ (HC4.out.below (bq w3)) (HMS4.out.below (bq w3));rw [HDST.out] at hT5;have HT5:=ab hT5;have HTU5:=ab (HTURN.out w3.drew · · qv2 (HC4.out.below (bq w3)));clear hc4 ho4 hrx hrA hX4 x0 x1 x2 x3 x4 hT5;go_wp2_with fail
 go_region_with (first
  | (go_at_call 40;refine HT5.out.mono ?_;intro e w5 hp;obtain ⟨v5,A5,Z5,rfl,h5,hr5,m5⟩:=HTU5.out _ _ hp;have HS5:=ab (HSEND.out w5 A5 Z5 v5 h5 hr5);have HM5:=ab ((HMV4.out.trans (Mv.below (bq _))).trans m5);clear h5 hr5 m5 hp)
  | (go_at_call 37;refine HS5.out.mono ?_;rintro e w6 ⟨rfl,hG⟩;have HG:=ab (GyP.trans HM5.out hG);clear hG))
 all_goals
  clear y0 y1 y2 y3 y4 k0 k1 k2;go_wp2_with fail
  go_ret
  exact ⟨rfl,HG.out⟩
end
section
variable {w w':World} {A A' Z Z':List Nat} {g n cl lv:Nat} {S:Mn} {es es':Cuts}
theorem nB (S:Mn) (j:Nat):({ S with q:=S.q.eraseIdx j }:Mn)=S.loseC j:=by
 unfold Mn.loseC;rw [lx]
theorem uQ (h:Gy w A Z g n S es) (hb:BInv n cl lv S) (hd:dt n S) (j:Nat) (m:Msg) (hm:S.q[j]? = some m) (hd2:dt n ((S.loseC j).bringC n (dG es) m)) :
  Calls Tryz.prog 20 #[.pointer (some ⟨g,0,none⟩),.int .i64 (j:Int)] w λe w'=>e = .returned (.bool true)/\GyP w w' A Z g n ((S.loseC j).bringC n (dG es) m) es:=by
 obtain ⟨hj,hm2⟩:=jh.1 hm;obtain ⟨fr,hfr,hg⟩:=hb.sv.q m (fM hm);have hb0:=hb.loseC j;have hb2:=hb0.bringC (dG es) m hg.d0 hg.dn;have hu2:=hb2.upok hd2;have hdi:m.dst.toNat<n:=by have:=hg.d0;have:=hg.dn;omega
 have hdst:m.dst=(m.dst.toNat:Int):=by have:=hg.d0;omega
 cases hu:(S.at m.dst.toNat).up with
 | false =>
  have e1:(S.loseC j).bringC n (dG es) m=S.loseC j:=by
   unfold Mn.bringC;rw [show ((S.loseC j).at m.dst.toNat).up=false from hu];rfl
  rw [e1,<-nB];exact sc h j hj m hm2 hg.light hb.sv.ql (.inr ⟨_,hdi,hdst,hu⟩)
 | true =>
  have e1:(S.loseC j).bringC n (dG es) m=(S.loseC j).turnC n (dG es) m.dst.toNat (fw (S.at m.dst.toNat).s (S.at m.dst.toNat).k m):=by
   unfold Mn.bringC;rw [show ((S.loseC j).at m.dst.toNat).up=true from hu];rfl
  rw [e1] at hu2 ⊢;rw [<-mO,<-nB];exact wP h j hj m hm2 _ hdi hdst hb.sv.ql (hb.upok hd) hu hg.light (by have:=hg.n1;omega) (hb.say hdi (uB (hb.up _ hdi hu).1.wf m)) hu2
end
def fJ (n:Nat) (x:Int):Bool:=decide (0<=x)&&decide (x<(n:Int))
theorem dJ {n:Nat} {x:Int} (h:fJ n x=true):∃i:Nat,i<n/\x=(i:Int)/\x.toNat=i:=by
 unfold fJ at h;simp only [bA,bC] at h;exact ⟨x.toNat,by omega,by omega,rfl⟩
structure Act where
 op:Int
 N:Int
 K:Int
 B:List UInt8
def Mn.actG (n:Nat) (es:Cuts) (S:Mn) (a:Act):Bool×Mn×Cuts :=
 if a.op=0 then (if fJ n a.N then ((S.at a.N.toNat).up,S.tickC n (dG es) a.N.toNat,es) else (false,S,es))
 else if a.op=1 then (if fJ S.q.length a.N then (true,(S.loseC a.N.toNat).bringC n (dG es) (S.q.getD a.N.toNat kW),es) else (false,S,es))
 else if a.op=2 then (if fJ S.q.length a.N then (true,S.loseC a.N.toNat,es) else (false,S,es))
 else if a.op=3 then (if fJ S.q.length a.N then (decide (S.q.length<2000),S.copyC a.N.toNat,es) else (false,S,es))
 else if a.op=4 then (if fJ n a.N then ((S.at a.N.toNat).up,S.crashC a.N.toNat a.K,es) else (false,S,es))
 else if a.op=5 then (if fJ n a.N then (!(S.at a.N.toNat).up,S.back n a.N.toNat,es) else (false,S,es))
 else if a.op=6 then (if fJ n a.N&&fJ n a.K then (true,S,dF es (lu a.N a.K) true) else (false,S,es))
 else if a.op=7 then (if fJ n a.N&&fJ n a.K then (true,S,dF es (lu a.N a.K) false) else (false,S,es))
 else if a.op=8 then (if fJ n a.N then ((S.at a.N.toNat).up&&((bw (S.at a.N.toNat).s (S.at a.N.toNat).k a.B).2.1==0),S.submC n (dG es) a.N.toNat a.B,es) else (false,S,es))
 else (false,S,es)
section
variable {w w':World} {A A' Z Z':List Nat} {g n cl lv:Nat} {S:Mn} {es es':Cuts}
theorem BI (h:Gy w A Z g n S es) (hb:BInv n cl lv S) (i:Nat) (hi:i<n) (P:Int) (hP1 : -9223372036854775808<=P) (hP2:P<=9223372036854775807) :
  Calls Tryz.prog 23 #[.pointer (some ⟨g,0,none⟩),.int .i64 (i:Int),.int .i64 P] w λe w'=>e = .returned (.bool (S.at i).up)/\GyP w w' A Z g n (S.crashC i P) es:=by
 unfold Mn.crashC;cases hu:(S.at i).up with
 | false =>
  refine (pr h (i:Int) P (.inr ⟨i,hi,rfl,hu⟩)).mono ?_;rintro e w1 ⟨rfl,rfl⟩;exact ⟨rfl,h.gyp (Mv.refl _ _ _)⟩
 | true =>
  have h1:=(hb.up i hi hu).1;exact wO h i hi hu P hP1 hP2 ⟨h1.sf,by have:=h1.wf.room;have:=h1.wf.tot;omega⟩
theorem CN (h:Gy w A Z g n S es) (hb:BInv n cl lv S) (hd:dt n S) (hlv:lv<=1000000) (i:Nat) (hi:i<n) :
  Calls Tryz.prog 24 #[.pointer (some ⟨g,0,none⟩),.int .i64 (i:Int)] w λe w'=>e = .returned (.bool (!(S.at i).up))/\GyP w w' A Z g n (S.back n i) es:=by
 unfold Mn.back;cases hu:(S.at i).up with
 | false=>exact tU h i hi hu (hb.dn i hi hu) (hb.sv.id i hi).2 (hb.liv i hi).1 (by have:=(hb.liv i hi).2;omega)
 | true=>exact zV h (hb.upok hd) i hi hu
theorem CE (h:Gy w A Z g n S es) (nb:Nat) (hn:w.cell? ⟨g,1,none⟩=some (.pointer (some ⟨nb,0,none⟩))) (hq:S.q.length<=2000) (x:Int) :
  Calls Tryz.prog 21 #[.pointer (some ⟨nb,0,none⟩),.int .i64 x] w λe w'=>e = .returned (.bool (fJ S.q.length x))/\GyP w w' A Z g n (if fJ S.q.length x then S.loseC x.toNat else S) es:=by
 obtain ⟨Y,os,rs,ds,ls,Xs,vl,nb',mb,qv,lv,h,hz⟩:=h;have e1:w.cell? ⟨g,1,none⟩=some (eg nb'):=by rw [af h.cell];rfl
 rw [hn] at e1;have:nb'=nb:=by unfold eg at e1;simpa using e1.symm
 subst this;cases hx:fJ S.q.length x with
 | false =>
  refine (tB h.nt x hx).mono ?_;rintro e w1 ⟨rfl,hp⟩;exact ⟨rfl,Gy.netp h hz hp⟩
 | true =>
  obtain ⟨j,hj,rfl,_⟩:=dJ hx;refine (nz h.nt j hj (by omega)).mono ?_;rintro e w1 ⟨rfl,hp⟩;obtain ⟨qv1,hq1,hx1⟩:=hp.ntx;obtain ⟨m1,y1,e1',T1,ho1,ht1⟩:=hx1;refine ⟨rfl,?_⟩;have e2:((j:Int)).toNat=j:=rfl;rw [e2,<-nB];exact Gy.netp h hz ⟨_,_,_,_,hq1,m1,y1,e1',T1,ho1,ht1⟩
theorem CM (h:Gy w A Z g n S es) (nb:Nat) (hn:w.cell? ⟨g,1,none⟩=some (.pointer (some ⟨nb,0,none⟩))) (hb:BInv n cl lv S) (x:Int) :
  Calls Tryz.prog 22 #[.pointer (some ⟨nb,0,none⟩),.int .i64 x] w λe w'=>e = .returned (.bool (fJ S.q.length x&&decide (S.q.length<2000)))/\GyP w w' A Z g n (if fJ S.q.length x then S.copyC x.toNat else S) es:=by
 have hgy:=h;obtain ⟨Y,os,rs,ds,ls,Xs,vl,nb',mb,qv,lv,h,hz⟩:=h;have e1:w.cell? ⟨g,1,none⟩=some (eg nb'):=by rw [af h.cell];rfl
 rw [hn] at e1;have:nb'=nb:=by unfold eg at e1;simpa using e1.symm
 subst this;cases hx:fJ S.q.length x with
 | false =>
  refine (rn h.nt x (.inl hx)).mono ?_;rintro e w1 ⟨rfl,hp⟩;exact ⟨rfl,(hgy.below hp).gyp (Mv.below hp)⟩
 | true =>
  obtain ⟨j,hj,rfl,_⟩:=dJ hx;have e2:((j:Int)).toNat=j:=rfl;have e3:S.q[j]? = some S.q[j]:=bK hj;rw [e2];unfold Mn.copyC;rw [e3];by_cases hl:S.q.length<2000
  ·rw [aJ hl];obtain ⟨fr,_,hg⟩:=hb.sv.q S.q[j] (bO hj);refine (tD h.nt j hj hl hg.light).mono ?_;rintro e w1 ⟨rfl,hp⟩;refine ⟨rfl,?_⟩;have e4:fK S.q S.q[j]=S.q++[S.q[j]]:=by unfold fK;rw [aA hl]
   simp only [if_true];rw [e4];exact Gy.netp h hz hp
  ·rw [aW hl];refine (rn h.nt (j:Int) (.inr (by omega))).mono ?_;rintro e w1 ⟨rfl,hp⟩;refine ⟨rfl,?_⟩;have e4:fK S.q S.q[j]=S.q:=by unfold fK;rw [aw hl]
   simp only [if_true];rw [e4];exact (hgy.below hp).gyp (Mv.below hp)
theorem GyP.below0 {w1:World} (hb:Below w.heap.size w w1) (h:GyP w1 w' A Z g n S es):GyP w w' A Z g n S es:=GyP.trans (Mv.below hb) h
theorem Gy.nb (h:Gy w A Z g n S es):∃nb,w.cell? ⟨g,1,none⟩=some (.pointer (some ⟨nb,0,none⟩)):=by
 obtain ⟨Y,os,rs,ds,ls,Xs,vl,nb,mb,qv,lv,h,hz⟩:=h;exact ⟨nb,by rw [af h.cell];rfl⟩
theorem zU (h:Gy w A Z g n S es) (hb:BInv n cl lv S) (hd:dt n S) (hcl:cl+1<=1000000) (hlv:lv<=1000000) (a:Act) (ba:Option Addr) (bc:Nat) (him:ImmZ w A (.slice ba a.B.length bc) a.B) (hr:a.B.length<=1000000)
  (hP1 : -9223372036854775808<=a.K) (hP2:a.K<=9223372036854775807) (hd2:dt n (S.actG n es a).2.1) :
  Calls Tryz.prog 9 #[.pointer (some ⟨g,0,none⟩),.agg #[.int .i64 a.op,.int .i64 a.N,.int .i64 a.K,.slice ba a.B.length bc]] w λe w'=>e = .returned (.bool (S.actG n es a).1)/\GyP w w' A Z g n (S.actG n es a).2.1 (S.actG n es a).2.2:=by
 obtain ⟨op,N,K,B⟩:=a;simp only at him hr hP1 hP2 ⊢;have hbr:∀w1,Below w.heap.size w w1->ImmZ w1 A (.slice ba B.length bc) B:=λw1 hb1=>him.below hb1;unfold Mn.actG at hd2 ⊢;simp only at hd2 ⊢;by_cases h0:op=0
 ·subst h0;simp only [if_true] at hd2 ⊢;refine (zO (Q:=λb w'=>b=(if fJ n N then ((S.at N.toNat).up,S.tickC n (dG es) N.toNat,es) else (false,S,es)).1/\GyP w w' A Z g n (if fJ n N then ((S.at N.toNat).up,S.tickC n (dG es) N.toNat,es) else (false,S,es)).2.1 (if fJ n N then ((S.at N.toNat).up,S.tickC n (dG es) N.toNat,es) else (false,S,es)).2.2) N K ba B.length bc (λw1 hb1=>?_)).mono (λe w' ⟨b,e1,e2,e3⟩=>⟨by rw [e1,e2],e3⟩);cases hx:fJ n N with
  | false =>
   refine (rQ (h.below hb1) N (.inl hx)).mono ?_;rintro e w2 ⟨rfl,rfl⟩;exact ⟨_,rfl,rfl,(h.below hb1).gyp (Mv.below hb1)⟩
  | true =>
   obtain ⟨i,hi,rfl,e2⟩:=dJ hx;rw [hx] at hd2;simp only [if_true] at hd2 ⊢;rw [e2] at hd2 ⊢;exact (zF (h.below hb1) hb hd hcl i hi hd2).mono (λe w2 ⟨e1,e3⟩=>⟨_,e1,rfl,GyP.below0 hb1 e3⟩)
 rw [aw h0] at hd2 ⊢;by_cases h1:op=1
 ·subst h1;simp only [if_true] at hd2 ⊢;refine (wN (Q:=λb w'=>b=(if fJ S.q.length N then (true,(S.loseC N.toNat).bringC n (dG es) (S.q.getD N.toNat kW),es) else (false,S,es)).1/\GyP w w' A Z g n (if fJ S.q.length N then (true,(S.loseC N.toNat).bringC n (dG es) (S.q.getD N.toNat kW),es) else (false,S,es)).2.1 (if fJ S.q.length N then (true,(S.loseC N.toNat).bringC n (dG es) (S.q.getD N.toNat kW),es) else (false,S,es)).2.2) N K ba B.length bc (λw1 hb1=>?_)).mono (λe w' ⟨b,e1,e2,e3⟩=>⟨by rw [e1,e2],e3⟩);cases hx:fJ S.q.length N with
  | false=>exact (sa (h.below hb1) N hx).mono (λe w2 ⟨e1,e3⟩=>⟨_,e1,rfl,GyP.below0 hb1 e3⟩)
  | true =>
   obtain ⟨i,hi,rfl,e2⟩:=dJ hx;rw [hx] at hd2;simp only [if_true] at hd2 ⊢;rw [e2] at hd2 ⊢;have em:S.q[i]? = some (S.q.getD i kW):=by rw [bK hi];simp [hi]
   exact (uQ (h.below hb1) hb hd i _ em hd2).mono (λe w2 ⟨e1,e3⟩=>⟨_,e1,rfl,GyP.below0 hb1 e3⟩)
 rw [aw h1] at hd2 ⊢;by_cases h2:op=2
 ·subst h2;simp only [if_true] at hd2 ⊢;obtain ⟨nb,hnb⟩:=h.nb;refine (zR (Q:=λb w'=>b=fJ S.q.length N/\GyP w w' A Z g n (if fJ S.q.length N then S.loseC N.toNat else S) es) N K ba B.length bc nb hnb (λw1 hb1=>?_)).mono (λe w' ⟨b,e1,e2,e3⟩=>⟨by rw [e1,e2];split<;>simp_all,by split<;>simp_all⟩);exact (CE (h.below hb1) nb (cell_later hb1 hnb) hb.sv.ql N).mono (λe w2 ⟨e1,e3⟩=>⟨_,e1,rfl,GyP.below0 hb1 e3⟩)
 rw [aw h2] at hd2 ⊢;by_cases h3:op=3
 ·subst h3;simp only [if_true] at hd2 ⊢;obtain ⟨nb,hnb⟩:=h.nb;refine (zS (Q:=λb w'=>b=(fJ S.q.length N&&decide (S.q.length<2000))/\GyP w w' A Z g n (if fJ S.q.length N then S.copyC N.toNat else S) es) N K ba B.length bc nb hnb (λw1 hb1=>?_)).mono (λe w' ⟨b,e1,e2,e3⟩=>⟨by rw [e1,e2];split<;>simp_all,by split<;>simp_all⟩);exact (CM (h.below hb1) nb (cell_later hb1 hnb) hb N).mono (λe w2 ⟨e1,e3⟩=>⟨_,e1,rfl,GyP.below0 hb1 e3⟩)
 rw [aw h3] at hd2 ⊢;by_cases h4:op=4
 ·subst h4;simp only [if_true] at hd2 ⊢;refine (wM (Q:=λb w'=>b=(if fJ n N then ((S.at N.toNat).up,S.crashC N.toNat K,es) else (false,S,es)).1/\GyP w w' A Z g n (if fJ n N then ((S.at N.toNat).up,S.crashC N.toNat K,es) else (false,S,es)).2.1 (if fJ n N then ((S.at N.toNat).up,S.crashC N.toNat K,es) else (false,S,es)).2.2) N K ba B.length bc (λw1 hb1=>?_)).mono (λe w' ⟨b,e1,e2,e3⟩=>⟨by rw [e1,e2],e3⟩);cases hx:fJ n N with
  | false =>
   refine (pr (h.below hb1) N K (.inl hx)).mono ?_;rintro e w2 ⟨rfl,rfl⟩;exact ⟨_,rfl,rfl,(h.below hb1).gyp (Mv.below hb1)⟩
  | true =>
   obtain ⟨i,hi,rfl,e2⟩:=dJ hx;simp only [if_true];rw [e2];exact (BI (h.below hb1) hb i hi K hP1 hP2).mono (λe w2 ⟨e1,e3⟩=>⟨_,e1,rfl,GyP.below0 hb1 e3⟩)
 rw [aw h4] at hd2 ⊢;by_cases h5:op=5
 ·subst h5;simp only [if_true] at hd2 ⊢;refine (zT (Q:=λb w'=>b=(if fJ n N then (!(S.at N.toNat).up,S.back n N.toNat,es) else (false,S,es)).1/\GyP w w' A Z g n (if fJ n N then (!(S.at N.toNat).up,S.back n N.toNat,es) else (false,S,es)).2.1 (if fJ n N then (!(S.at N.toNat).up,S.back n N.toNat,es) else (false,S,es)).2.2) N K ba B.length bc (λw1 hb1=>?_)).mono (λe w' ⟨b,e1,e2,e3⟩=>⟨by rw [e1,e2],e3⟩);cases hx:fJ n N with
  | false =>
   refine (zW (h.below hb1) (hb.upok hd) N hx).mono ?_;rintro e w2 ⟨rfl,rfl⟩;exact ⟨_,rfl,rfl,(h.below hb1).gyp (Mv.below hb1)⟩
  | true =>
   obtain ⟨i,hi,rfl,e2⟩:=dJ hx;simp only [if_true];rw [e2];exact (CN (h.below hb1) hb hd hlv i hi).mono (λe w2 ⟨e1,e3⟩=>⟨_,e1,rfl,GyP.below0 hb1 e3⟩)
 rw [aw h5] at hd2 ⊢;by_cases h6:op=6
 ·subst h6;simp only [if_true] at hd2 ⊢;refine (BH (Q:=λb w'=>b=(if fJ n N&&fJ n K then (true,S,dF es (lu N K) true) else (false,S,es)).1/\GyP w w' A Z g n (if fJ n N&&fJ n K then (true,S,dF es (lu N K) true) else (false,S,es)).2.1 (if fJ n N&&fJ n K then (true,S,dF es (lu N K) true) else (false,S,es)).2.2) N K ba B.length bc (λw1 hb1=>?_)).mono (λe w' ⟨b,e1,e2,e3⟩=>⟨by rw [e1,e2],e3⟩);cases hx:fJ n N&&fJ n K with
  | false =>
   refine (uP (h.below hb1) N K true hx).mono ?_;rintro e w2 ⟨rfl,rfl⟩;exact ⟨_,rfl,rfl,(h.below hb1).gyp (Mv.below hb1)⟩
  | true =>
   rw [bA] at hx;obtain ⟨i,hi,rfl,_⟩:=dJ hx.1;obtain ⟨j,hj,rfl,_⟩:=dJ hx.2;exact (rZ (h.below hb1) (i:Int) (j:Int) true (by omega) (by omega)).mono (λe w2 ⟨e1,e3⟩=>⟨_,e1,rfl,GyP.below0 hb1 e3⟩)
 rw [aw h6] at hd2 ⊢;by_cases h7:op=7
 ·subst h7;simp only [if_true] at hd2 ⊢;refine (wL (Q:=λb w'=>b=(if fJ n N&&fJ n K then (true,S,dF es (lu N K) false) else (false,S,es)).1/\GyP w w' A Z g n (if fJ n N&&fJ n K then (true,S,dF es (lu N K) false) else (false,S,es)).2.1 (if fJ n N&&fJ n K then (true,S,dF es (lu N K) false) else (false,S,es)).2.2) N K ba B.length bc (λw1 hb1=>?_)).mono (λe w' ⟨b,e1,e2,e3⟩=>⟨by rw [e1,e2],e3⟩);cases hx:fJ n N&&fJ n K with
  | false =>
   refine (uP (h.below hb1) N K false hx).mono ?_;rintro e w2 ⟨rfl,rfl⟩;exact ⟨_,rfl,rfl,(h.below hb1).gyp (Mv.below hb1)⟩
  | true =>
   rw [bA] at hx;obtain ⟨i,hi,rfl,_⟩:=dJ hx.1;obtain ⟨j,hj,rfl,_⟩:=dJ hx.2;exact (rZ (h.below hb1) (i:Int) (j:Int) false (by omega) (by omega)).mono (λe w2 ⟨e1,e3⟩=>⟨_,e1,rfl,GyP.below0 hb1 e3⟩)
 rw [aw h7] at hd2 ⊢;by_cases h8:op=8
 ·subst h8;simp only [if_true] at hd2 ⊢;refine (zP (Q:=λb w'=>b=(if fJ n N then ((S.at N.toNat).up&&((bw (S.at N.toNat).s (S.at N.toNat).k B).2.1==0),S.submC n (dG es) N.toNat B,es) else (false,S,es)).1/\GyP w w' A Z g n (if fJ n N then ((S.at N.toNat).up&&((bw (S.at N.toNat).s (S.at N.toNat).k B).2.1==0),S.submC n (dG es) N.toNat B,es) else (false,S,es)).2.1 (if fJ n N then ((S.at N.toNat).up&&((bw (S.at N.toNat).s (S.at N.toNat).k B).2.1==0),S.submC n (dG es) N.toNat B,es) else (false,S,es)).2.2) N K ba B.length bc (λw1 hb1=>?_)).mono (λe w' ⟨b,e1,e2,e3⟩=>⟨by rw [e1,e2],e3⟩);cases hx:fJ n N with
  | false =>
   refine (nJ (h.below hb1) N ba B.length bc (.inl hx)).mono ?_;rintro e w2 ⟨rfl,rfl⟩;exact ⟨_,rfl,rfl,(h.below hb1).gyp (Mv.below hb1)⟩
  | true =>
   obtain ⟨i,hi,rfl,e2⟩:=dJ hx;rw [hx] at hd2;simp only [if_true] at hd2 ⊢;rw [e2] at hd2 ⊢;exact (CC (h.below hb1) hb hd i hi ba bc B (hbr w1 hb1) hr hd2).mono (λe w2 ⟨e1,e3⟩=>⟨_,e1,rfl,GyP.below0 hb1 e3⟩)
 rw [aw h8];refine (zQ op N K ba B.length bc (by omega)).mono ?_;rintro e w2 ⟨rfl,hb2⟩;exact ⟨rfl,(h.below hb2).gyp (Mv.below hb2)⟩
end
def gU:Act:=⟨0,0,0,[]⟩
instance:Inhabited Act:=⟨gU⟩
structure AtAc (w:World) (b off:Nat) (x:Act):Prop where
 c0:w.cell? ⟨b,off,none⟩=some (.int .i64 x.op)
 c1:w.cell? ⟨b,off+1,none⟩=some (.int .i64 x.N)
 c2:w.cell? ⟨b,off+2,none⟩=some (.int .i64 x.K)
 c4:∃bo bc,w.cell? ⟨b,off+3,none⟩=some (.slice bo x.B.length bc)/\IsB w bo x.B.length bc x.B/\x.B.length<=bc
 p1 : -9223372036854775808<=x.K/\x.K<=9223372036854775807
 n1 : -9223372036854775808<=x.N/\x.N<=9223372036854775807
structure IsAx (w:World) (ao:Option Addr) (n:Nat) (l:List Act):Prop where
 len:l.length=n
 at_:n=0\/∃b off,ao=some ⟨b,off,none⟩/\∀i,i<n->AtAc w b (off+i*4) (l.getD i gU)
theorem AtAc.below {w w':World} {b off:Nat} {x:Act} (h:AtAc w b off x) (hb:Below w.heap.size w w'):AtAc w' b off x:=by
 obtain ⟨h0,h1,h2,⟨bo,bc,h4,h5,h6⟩,h7,h8⟩:=h;exact ⟨cell_later hb h0,cell_later hb h1,cell_later hb h2,⟨bo,bc,cell_later hb h4,h5.below hb,h6⟩,h7,h8⟩
theorem IsAx.below {w w':World} {ao:Option Addr} {n:Nat} {l:List Act} (h:IsAx w ao n l) (hb:Below w.heap.size w w'):IsAx w' ao n l:=by
 refine ⟨h.len,?_⟩;rcases h.at_ with h0 | ⟨b,off,h1,h2⟩
 ·exact .inl h0
 ·exact .inr ⟨b,off,h1,λi hi=>(h2 i hi).below hb⟩
section
variable {H:Type} {enc:TypeId×Value->H}
open Go.ChangeShapes Go.WideShapes Go.ChangeAt
theorem DI:Tryz.prog.cellsOf 33=4:=by kernel_rfl
theorem AY {W:World} {base:Nat} {v:Value} {d:DataW H} {ps:List MemPlace} (hv:Value.okWide Tryz.prog W .any base 22 v) (h:DataW.Trod enc Tryz.prog W 0 (λ_=>true) true 22 v d ps)
  (hsz:(DataW.weights Tryz.prog 22 d).all (· <= reachBytes)=true):∃ao n c l,v = .slice ao n c/\IsAx W ao n l/\n<=c/\n<=140737488355328:=by
 obtain ⟨a,n,c,rfl⟩:=okWide_slice Tryz.underlying22 hv;obtain ⟨fuel,hf⟩:=h;have k3:Tryz.prog.cellsOf 3=1:=by kernel_rfl
 have k31:Tryz.prog.cellsOf 31=1:=by kernel_rfl
 have kb:Tryz.prog.bytesOf 33=48:=by kernel_rfl
 rcases Deep.open_slice Tryz.underlying22 hf with ⟨hcs,hx⟩ | ⟨ad,n',c',m,k,D,Pl,hcs,_,hle,_,hm,hx,hcell⟩
 ·simp [Value.cells] at hcs;obtain ⟨rfl,rfl,rfl⟩:=hcs;exact ⟨_,_,_,[],rfl,⟨rfl,.inl rfl⟩,ah _,aH _⟩
 ·simp [Value.cells] at hcs;obtain ⟨rfl,rfl,rfl⟩:=hcs;obtain rfl:m=c:=by simpa using hm
  rw [DI] at hcell;obtain ⟨rfl,rfl⟩:=Prod.mk.inj hx;simp only [DataW.weights,Tryz.underlying22,List.all_cons,List.all_append,bA] at hsz;obtain ⟨hs1,hs2,_⟩:=hsz;have hnb:n<=140737488355328:=by
   rw [kb] at hs1;simp [reachBytes] at hs1;omega
  have hw:∀i,i<n->(DataW.weights Tryz.prog 33 (D i)).all (· <= reachBytes)=true:=λi hi=>pF hs2 (cF.2 ⟨i,cW.2 hi,rfl⟩);have hex:∀i,i<n->∃x:Act,∃bo bc,W.cell? (ad.add (i*4))=some (.int .i64 x.op)/\W.cell? ((ad.add (i*4)).add 1)=some (.int .i64 x.N)/\W.cell? ((ad.add (i*4)).add 2)=some (.int .i64 x.K)/\W.cell? ((ad.add (i*4)).add 3)=some (.slice bo x.B.length bc)/\IsB W bo x.B.length bc x.B/\x.B.length<=bc/\(-9223372036854775808<=x.K/\x.K<=9223372036854775807)/\(-9223372036854775808<=x.N/\x.N<=9223372036854775807):=by
   intro i hi;obtain ⟨cs,hcs1,htr⟩:=hcell i (by omega);obtain ⟨_,hlen,hget⟩:=World.cells?_some hcs1;obtain ⟨xs,q,_,hx,_,hlen2,hf⟩:=DataW.trod_struct Tryz.underlying33 htr;obtain ⟨c0,c1,c2,c3,rfl⟩:∃c0 c1 c2 c3,cs=[c0,c1,c2,c3]:=by
    match cs,hlen with
    | [c0,c1,c2,c3],_=>exact ⟨c0,c1,c2,c3,rfl⟩
   obtain ⟨y0,y1,y2,y3,rfl⟩:∃y0 y1 y2 y3,xs=[y0,y1,y2,y3]:=by
    match xs,hlen2 with
    | [y0,y1,y2,y3],_=>exact ⟨y0,y1,y2,y3,rfl⟩
   have f0:DataW.trod enc Tryz.prog W 0 (λ_=>true) true q 3 [c0]=some y0:=by simpa [k3] using hf 0 _ rfl
   have f1:DataW.trod enc Tryz.prog W 0 (λ_=>true) true q 3 [c1]=some y1:=by simpa [k3] using hf 1 _ rfl
   have f2:DataW.trod enc Tryz.prog W 0 (λ_=>true) true q 3 [c2]=some y2:=by simpa [k3] using hf 2 _ rfl
   have f3:DataW.trod enc Tryz.prog W 0 (λ_=>true) true q 31 [c3]=some y3:=by simpa [k31] using hf 3 _ rfl
   have hd:=hw i hi;rw [show D i = .agg [y0.1,y1.1,y2.1,y3.1] from (Prod.mk.inj hx).1] at hd;have hwe:(DataW.weightsEach Tryz.prog [3,3,3,31] [y0.1,y1.1,y2.1,y3.1]).all (· <= reachBytes)=true:=by
    simp only [DataW.weights,Tryz.underlying33] at hd;exact hd
   have hw4:=jm hwe (j:=3) (t:=31) (d:=y3.1) rfl rfl;obtain ⟨z0,e0,_,_⟩:=DataW.trod_int Tryz.underlying3 f0;obtain ⟨z1,e1,_,w1⟩:=DataW.trod_int Tryz.underlying3 f1;obtain ⟨z2,e2,_,w2⟩:=DataW.trod_int Tryz.underlying3 f2;obtain ⟨bo,bn,bc,bl,e3,i4,hle4,_⟩:=iy Tryz.underlying31 Tryz.underlying5 (by kernel_rfl) (by kernel_rfl) f3 hw4;simp only [List.cons.injEq,and_true] at e0 e1 e2 e3;subst e0 e1 e2 e3;have hq:=i4.len;subst hq;refine ⟨⟨z0,z1,z2,bl⟩,bo,bc,?_,?_,?_,?_,i4,hle4,tH w2,tH w1⟩
   ·have:=hget 0 (by omega);simpa [Addr.add] using this
   ·rw [hget 1 (by omega)];rfl
   ·rw [hget 2 (by omega)];rfl
   ·rw [hget 3 (by omega)];rfl
  obtain ⟨L,hL⟩:=Deep.choose_lt hex;refine ⟨some ad,n,m,(List.range n).map L,rfl,⟨by simp,?_⟩,hle,hnb⟩;by_cases h0:n=0
  ·exact .inl h0
  ·right;obtain ⟨b,off,spot⟩:=ad;have hspot:spot=none:=by
    obtain ⟨_,_,h1,_⟩:=hL 0 (by omega);simpa [Addr.add] using World.cell?_spot h1
   subst hspot;refine ⟨b,off,rfl,λi hi=>?_⟩;obtain ⟨bo,bc,g0,g1,g2,g4,g5,g6,g7,g8⟩:=hL i hi;simp only [Addr.add_lit] at g0 g1 g2 g4;have hgd:((List.range n).map L).getD i gU=L i:=by simp [aF,hi]
   rw [hgd];exact ⟨g0,g1,g2,⟨bo,bc,g4,g5,g6⟩,g7,g8⟩
end
def il (l:List Act) (cZ:Nat):Bool:=decide (l.length<=cZ)&&l.all λx=>decide (x.B.length<=300)
theorem pd (l:List Act) (cZ:Nat) (h:il l cZ=true):l.length<=cZ/\∀x∈l,x.B.length<=300:=by
 unfold il at h;simp only [bA,bC,dI] at h;exact h
section
variable {w:World}
set_option maxHeartbeats 4000000 in
theorem tI (ao:Option Addr) (n c:Nat) (l:List Act) (h:IsAx w ao n l) (hn:n<=140737488355328) (cZ:Nat) (hm:cZ<=1000) :
  Calls Tryz.prog 8 #[.slice ao n c,.int .i64 (cZ:Int)] w λe w'=>e = .returned (.bool (il l cZ))/\Below w.heap.size w w':=by
 have H:=ab h;have hlen:=h.len;go_enter Tryz.func8,Tryz.ntmps8
 by_cases hbig:(cZ:Int)<(n:Int)
 ·have HF:Hid (il l cZ=false):=ab (by
   unfold il;rw [show decide (l.length<=cZ)=false by simp;omega];rfl)
  clear h;go_wp2_with fail
  go_ret
  exact ⟨by rw [HF.out];rfl,az _ _⟩
 ·clear h;go_wp2_with fail
  go_loopw [5] (λi wr=>∃j:Nat,j<=n/\i = .int .i64 (j:Int)/\Below w.heap.size w wr/\∀q,q<j->(l.getD q gU).B.length<=300) (λi _=>n - (intOf i).toNat)
  case atStart=>exact ⟨0,aH _,rfl,az _ _,λq hq=>by omega⟩
  case round =>
   obtain ⟨j,hj,rfl,hbw,hB⟩:=hrel;have HB:=ab hB;have HBW:=ab hbw;clear hB;rename World=>w2;have q6:IntKind.i64.wrap ((j:Int)+1)=(j:Int)+1:=IntWalk.i64_in _ (by omega);by_cases hlt:j<n
   ·have hlt2:(j:Int)<(n:Int):=by omega
    obtain ⟨b,off,rfl,hat⟩:∃b off,ao=some ⟨b,off,none⟩/\∀i,i<n->AtAc w b (off+i*4) (l.getD i gU):=by
     rcases H.out.at_ with h0 | h0
     ·omega
     ·exact h0
    obtain ⟨bo,bc,k4,k5,k6⟩:=((hat j hlt).below hbw).c4;have HX:Hid ((l.getD j gU).B.length=(l.getD j gU).B.length):=ab rfl;have hxl:∃x,l.getD j gU=x/\x∈l:=by
     refine ⟨_,rfl,?_⟩;have e:l.getD j gU=l[j]'(by omega):=by simp [List.getD,show j<l.length by omega]
     rw [e];exact bO _
    obtain ⟨x,hx1,hx2⟩:=hxl;have HXE:=ab hx1;have HXM:=ab hx2;rw [hx1] at k4 k5 k6;have hbl:∃y,x.B.length=y:=⟨_,rfl⟩
    obtain ⟨bl,hbl⟩:=hbl;have HBL:=ab hbl;rw [hbl] at k4 k5 k6;clear hat hx1 hx2 hbl HX k5;by_cases h3:(300:Int)<(bl:Int)
    ·have HF:Hid (il l cZ=false):=ab (by
      cases h9:il l cZ with
      | false=>rfl
      | true =>
       have:=(pd l cZ h9).2 x HXM.out;have:=HBL.out;omega)
     go_wp2_with fail
     go_ret
     exact ⟨by rw [HF.out];rfl,HBW.out⟩
    ·have HB2:Hid (∀q,q<j+1->(l.getD q gU).B.length<=300):=ab (λq hq=>by
      by_cases e:q=j
      ·rw [e,HXE.out,HBL.out];omega
      ·exact HB.out q (by omega))
     go_wp2_with fail
     go_roundw
     case rel=>exact ⟨j+1,by omega,by simp,HBW.out,HB2.out⟩
     case measure=>simp [intOf];omega
   ·obtain rfl:j=n:=by omega
    have hlt2:¬(j:Int)<(j:Int):=by omega
    have HF:Hid (il l cZ=true):=ab (by
     unfold il;rw [show decide (l.length<=cZ)=true by simp;omega,mC,dI];intro x hx;obtain ⟨q,hq,rfl⟩:=List.getElem_of_mem hx;have:=HB.out q (by omega);rw [show l.getD q gU=l[q] by simp [List.getD,hq]] at this;simpa using this)
    go_wp2_with fail
    go_ret
    exact ⟨by rw [HF.out];rfl,HBW.out⟩
end
section
variable {ρ:Type} {f:ρ->List UInt8} {z:ρ->Bool} {e:ρ} {n cl lv a c:Nat} {S:Mn} {T:X.Cs ρ} {b:Int} {G:X.Gh ρ}
theorem Ar (ct:Msg->Bool) (ms:List (X.Ms ρ)):∀q:List (X.Ms ρ),∃q1:List (X.Ms ρ),(ms.map (dj f)).foldl (fz ct) (q.map (dj f))=q1.map (dj f)/\(∀x∈q1,x∈q++ms)/\q1.length<=(q++ms).length:=by
 induction ms with
 | nil=>exact λq=>⟨q,rfl,λx hx=>aG _ hx,by simp⟩
 | cons m l ih =>
  intro q;by_cases h:fz ct (q.map (dj f)) (dj f m)=q.map (dj f)
  ·obtain ⟨q1,h1,h2,h3⟩:=ih q;refine ⟨q1,by rw [dE,jJ,h,h1],λx hx=>?_,by simp at h3 ⊢;omega⟩;rcases ap.1 (h2 x hx) with g | g
   ·exact aG _ g
   ·exact aO _ (aU _ g)
  ·have h0:fz ct (q.map (dj f)) (dj f m)=(q++[m]).map (dj f):=by
    unfold fz fK at h ⊢;split
    ·rename_i h1;rw [aA h1] at h;exact absurd rfl h
    ·rename_i h1;rw [aw h1] at h;split
     ·simp
     ·rename_i h2;rw [aw h2] at h;exact absurd rfl h
   obtain ⟨q1,h1,h2,h3⟩:=ih (q++[m]);refine ⟨q1,by rw [dE,jJ,h0,h1],λx hx=>?_,by simp at h3 ⊢;omega⟩;have:=h2 x hx;simp only [bD,List.singleton_append] at this;exact this
theorem CRel.turnC (ct:Msg->Bool) (h:CRel f n S T) (i:Nat) (hi:i<n) (hu:T.up i=true) {p:List Msg×Rp×Dk} {q:List (X.Ms ρ)×X.Nd ρ} (hp:RelP f p q) (hl:(T.call i q).q.length<=2000):∃q1,CRel f n ((S.set i ⟨p.2.1,p.2.2,true⟩).sendC ct p.1) ((T.call i q).wq q1)/\(∀x∈q1,x∈(T.call i q).q)/\q1.length<=(T.call i q).q.length:=by
 obtain ⟨q1,h1,h2,h3⟩:=Ar (f:=f) ct q.1 T.q;refine ⟨q1,?_,by rw [X.np];exact h2,by rw [X.np];exact h3⟩;have h4:=(h.turn i hi hu hp hl).wq q1;rw [<-h1,<-hp.ms,<-h.q] at h4;exact h4
theorem CRel.tell (h:CRel f n S T) (lo:X.Lg ρ):CRel f n (S.tell n) (T.wlo lo):=⟨h.q,h.bad,h.len,h.up,h.nd,h.dn⟩
theorem Cv (hz:∀x,z x=(f x).isEmpty) (h:CRel f n S T) (hG:X.WkG z n b G T) (m:Nat):∀(i:Nat) (lg:X.Lg ρ),i+m<=n->(∃t,X.Agd n G t lg lg.length) ->
  fq S m i ((X.recs z lg).map f)=(X.recs z (X.lookF z T m i lg)).map f/\(∃t,X.Agd n G t (X.lookF z T m i lg) (X.lookF z T m i lg).length)/\X.recs z lg <+: X.recs z (X.lookF z T m i lg)/\∀j,i<=j->j<i+m->T.up j=true->X.recs z (X.tells (T.nd j)) <+: X.recs z (X.lookF z T m i lg):=by
 induction m with
 | zero=>intro i lg _ hl;exact ⟨rfl,hl,dZ _,λj h1 h2=>by omega⟩
 | succ m ih =>
  intro i lg hi hl;have hin:i<n:=by omega
  unfold fq X.lookF;rw [h.up i hin];cases hu:T.up i with
  | false =>
   obtain ⟨h1,h2,h3,h4⟩:=ih (i+1) lg (by omega) hl;refine ⟨h1,h2,h3,λj j1 j2 j3=>?_⟩;by_cases e1:j=i
   ·rw [e1,hu] at j3;cases j3
   ·exact h4 j (by omega) (by omega) j3
  | true =>
   have hr:=h.nd i hin hu;have hni:=hG.ni i hin;have ht:cU (S.at i).s=(X.recs z (X.tells (T.nd i))).map f:=by
    unfold cU X.tells;rw [hr.u.log,hr.u.agreed,<-gW,qT hz]
   have hm:(S.at i).s.many=(X.recs z (X.tells (T.nd i))).length:=by rw [hr.u.many,hni.many];rfl
   have ha:=X.agd_tells hni;have hcmp:X.recs z (X.tells (T.nd i)) <+: X.recs z lg\/X.recs z lg <+: X.recs z (X.tells (T.nd i)):=by
    rcases X.agd_two hG.gi ha hl with g | g
    ·exact .inl (X.recs_pre g)
    ·exact .inr (X.recs_pre g)
   have hlong:(if ((X.recs z lg).map f).length<(S.at i).s.many then cU (S.at i).s else (X.recs z lg).map f)=(X.recs z (if (X.recs z lg).length<(X.recs z (X.tells (T.nd i))).length then X.tells (T.nd i) else lg)).map f:=by
    rw [aP,hm,ht];split<;>rfl
   simp only [if_true];rw [hlong];have hp1:X.recs z lg <+: X.recs z (if (X.recs z lg).length<(X.recs z (X.tells (T.nd i))).length then X.tells (T.nd i) else lg):=by
    split
    ·rename_i g;rcases hcmp with g1 | g1
     ·have:=g1.length_le;omega
     ·exact g1
    ·exact dZ _
   have hp2:X.recs z (X.tells (T.nd i)) <+: X.recs z (if (X.recs z lg).length<(X.recs z (X.tells (T.nd i))).length then X.tells (T.nd i) else lg):=by
    split
    ·exact dZ _
    ·rename_i g;rcases hcmp with g1 | g1
     ·exact g1
     ·have h5:=g1.eq_of_length_le (by omega);rw [h5];exact dZ _
   obtain ⟨h1,h2,h3,h4⟩:=ih (i+1) (if (X.recs z lg).length<(X.recs z (X.tells (T.nd i))).length then X.tells (T.nd i) else lg) (by omega) (by split<;>assumption);refine ⟨h1,h2,hp1.trans h3,λj j1 j2 j3=>?_⟩;by_cases e1:j=i
   ·rw [e1];exact hp2.trans h3
   ·exact h4 j (by omega) (by omega) j3
end
end Go.Proofs.YtnhefallmioefaaGreat
