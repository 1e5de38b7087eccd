/- What the law leans on. No condition. -/
import Derived.Test.YtnhefallmioefaaGreatW0
import Derived.Deep.Strs
import Derived.Lib.SlBytesConst
import Derived.Test.YtnhefallmioefaaGreatW1
import Derived.Test.YtnhefallmioefaaGreatW6
import Derived.Test.YtnhefallmioefaaGreatW19
import Derived.Test.YtnhefallmioefaaGreatW7
import Derived.Test.YtnhefallmioefaaGreatW2
import Derived.Test.YtnhefallmioefaaGreatW14
import Derived.Test.YtnhefallmioefaaGreatW10
import Derived.Test.YtnhefallmioefaaGreatW4
import Derived.Test.YtnhefallmioefaaGreatW8
set_option maxHeartbeats 8000000
set_option linter.unusedVariables false
set_option linter.unusedSimpArgs false
namespace Go.Proofs.YtnhefallmioefaaGreat
open Go.RowKit Go.ChangeMaps Go.WideMaps Go.Maps
set_option maxRecDepth 20000
section
variable {w w':World} {A A' X Y Y' Z Z':List Nat} {g n:Nat} {S:Mn} {es es':Pn} {os rs ds ls:Nat->Nat} {Xs:Nat->List Nat} {vl:Value} {nb mb Q8:Nat} {qv lv TW pn:Value} {q':List OM} {r d l:Nat} {s:Rp} {k:Dk}
theorem NtF.ntx {q:List OM} (h:NtF w w' A Y nb mb n q es):∃qv,Pv w' A Y nb mb n qv q es/\NtX w w' A Y A Y nb mb mb:=by
 obtain ⟨qv,h,T,hT,ht⟩:=h;exact ⟨qv,h,Mv.only hT (λb hb=>(ht b hb).1),λb hb=>.inl hb,.inl rfl,T,hT,λb hb=>⟨(ht b hb).1,(ht b hb).2.imp id .inr⟩⟩
theorem BQ (h:Gy w A Z g n S es) (j:Nat) (hj:j<S.q.length) (m:OM) (hm:S.q[j]=m) (i:Nat) (hi:i<n) (TK:m.dst=(i:Int)) (hq:S.q.length<=2000) (hU:p9 n S) (hu:(S.at i).up=true) (hl:jt m) (Sk:m.N.getD 1 0<=4611686018427387904)
  (hg:z6 n (gJ (S.at i).s (S.at i).k m).1) (hU2:p9 n (S.set i ⟨(gJ (S.at i).s (S.at i).k m).2.1,(gJ (S.at i).s (S.at i).k m).2.2,true⟩)) :
  Calls Tryz.prog 20 #[.pointer (some ⟨g,0,none⟩),.int .i64 (j:Int)] w λe w'=>e = .returned (.bool true)/\Px w w' A Z g n (Mn.SS n es { S with q:=S.q.eraseIdx j } i (gJ (S.at i).s (S.at i).k m)) es:=by
 obtain ⟨Y,os,rs,ds,ls,Xs,vl,nb,mb,qv,lv,h,hz⟩:=h;have HT:=af (qS h.nt j hj az (by rw [hm];exact hl));rw [hm] at HT;have HZ:=af hz;have HH:=af h;have Qv:(S.q.eraseIdx j).length<=2000:=by rw [List.length_eraseIdx_of_lt hj];omega
 obtain ⟨Q,hQ⟩:∃Q,Q=S.q.eraseIdx j:=⟨_,rfl⟩
 rw [<-hQ] at HT Qv ⊢;obtain ⟨gl,cr,rfl,Vk,hrow⟩:=h.Ss az;have Wv:Hid (∀w2,NtF w w2 A Y nb mb n Q es->∃RS,PZ w2 A Y g n { S with q:=Q } es os rs ds ls Xs (.slice (some ⟨gl,0,none⟩) n cr) nb mb RS lv/\Mv A A Z Z w w2):=af λw2 hF=>by
  obtain ⟨RS,hn,x⟩:=hF.ntx;refine ⟨RS,HH.out.netx hn x,?_⟩;obtain ⟨T,ho,ht⟩:=x.t;exact IR
 have c1:w.cell? ⟨g,1,none⟩=some (.pointer (some ⟨nb,0,none⟩)):=mU;have Wq:Hid (∀w2 RS v u,PZ w2 A Y g n { S with q:=Q } es os rs ds ls Xs (.slice (some ⟨gl,0,none⟩) n cr) nb mb RS lv->OU w2 A m v u->Calls Tryz.prog 40 #[.pointer (some ⟨rs i,0,none⟩),en m v u] w2 λe w'=>PE w2 w' A (Xs i) (rs i) (ds i) (ls i) e (gJ (S.at i).s (S.at i).k m)):=af λw2 RS v u h2 Rn=>Ie ((h2.node i hi).up hu) (hU i hi hu).1 m v u Rn Sk (aF hl.2.1 dZ) (aF hl.1 dZ);have Xf:Hid (∀w2 w3 e RS,PZ w2 A Y g n { S with q:=Q } es os rs ds ls Xs (.slice (some ⟨gl,0,none⟩) n cr) nb mb RS lv->PE w2 w3 A (Xs i) (rs i) (ds i) (ls i) e (gJ (S.at i).s (S.at i).k m)->∃v A' Z',e = .returned v/\Gy w3 A' Z' g n (Mn.set { S with q:=Q } i ⟨(gJ (S.at i).s (S.at i).k m).2.1,(gJ (S.at i).s (S.at i).k m).2.2,true⟩) es/\QD w3 A' v (gJ (S.at i).s (S.at i).k m).1/\Mv A A' Z Z' w2 w3):=af λw2 w3 e RS h2 hp=>h2.turn HZ.out hi hu hp;have Xg:Hid (∀w3 A' Z' v,Gy w3 A' Z' g n (Mn.set { S with q:=Q } i ⟨(gJ (S.at i).s (S.at i).k m).2.1,(gJ (S.at i).s (S.at i).k m).2.2,true⟩) es->QD w3 A' v (gJ (S.at i).s (S.at i).k m).1->Calls Tryz.prog 37 #[.pointer (some ⟨g,0,none⟩),v] w3 λe w'=>e = .returned (.tuple #[])/\Px w3 w' A' Z' g n (Mn.SS n es { S with q:=Q } i (gJ (S.at i).s (S.at i).k m)) es):=af λw3 A' Z' v h3 hr=>pr h3 Qv v hr hg hU2 az;have XK:Hid (∀w2 RS,PZ w2 A Y g n { S with q:=Q } es os rs ds ls Xs (.slice (some ⟨gl,0,none⟩) n cr) nb mb RS lv->Calls Tryz.prog 13 #[.pointer (some ⟨g,0,none⟩),.int .i64 m.dst] w2 λe w'=>e = .returned (.bool true)/\PZ w' A Y g n { S with q:=Q } es os rs ds ls Xs (.slice (some ⟨gl,0,none⟩) n cr) nb mb RS lv/\Only [rs i] w2 w'/\rs i∈Xs i):=af λw2 RS h2=>by
  rw [TK];exact lk h2 i hi hu (hU i hi hu).2
 have Ww:Hid (∀w2 RS,PZ w2 A Y g n { S with q:=Q } es os rs ds ls Xs (.slice (some ⟨gl,0,none⟩) n cr) nb mb RS lv->w2.cell? ⟨g,0,none⟩=some (.slice (some ⟨gl,0,none⟩) n cr)/\w2.cell? ⟨gl,i,none⟩=some (.pointer (some ⟨os i,0,none⟩))/\w2.cell? ⟨os i,1,none⟩=some (.pointer (some ⟨rs i,0,none⟩))):=af λw2 RS h2=>GU;have HDST:=af TK;have O9:(i:Int)<(n:Int):=az;clear h hz hrow hU hu hg hU2 hq hm hQ Qv TK hl Sk;unfold en at HT Wq;go_enter Tryz.func20,Tryz.ntmps20
 go_wp2_with fail
 refine HT.out.mono ?_;rintro e w2 ⟨v,u,rfl,Rn,hF⟩;obtain ⟨⟨av,cv,rfl⟩,Wi,bv,cw,rfl⟩:=Rn.shapes;obtain ⟨RS,hc2,m2⟩:=Wv.out w2 hF;obtain ⟨O,hO⟩:∃O,O=ph m (.slice av m.N.length cv) (.slice Wi bv cw):=⟨_,rfl⟩
 have Tx:Below w2.heap.size w2 (w2.alloc O):=(aG _ _).alloc (ah _) O;have Zw:=af (hc2.below Tx);have HMS:=af (Rn.below Tx);have TU:=af (m2.trans (Mv.below Tx));have HX:=af (aV w2 O);have HXA:Hid (w2.heap.size∉A):=af (λhm=>by have:=hc2.alt _ hm;omega);have HU:=af (XK.out _ _ Zw.out);subst hO;obtain ⟨x0,x1,x2,x3,x4⟩:=jl HX.out;unfold ph at x0 x1 x2 x3 x4 HU;clear hc2 Rn m2 hF Tx;go_wp2_with fail
 refine HU.out.mono ?_;rintro e w3 ⟨rfl,Vl,Rb,Tt⟩;have T4:rs i∈A:=(Vl.node i hi).xA _ Tt;have TT:=Rb.keeps HX.out (λhm=>HXA.out (by rw [aj.1 hm];exact T4));have HMV4:=af (TU.out.trans (Mv.only Rb (λb hb=>by rw [aj.1 hb];exact (HZ.out _).2 (.inr ⟨i,hi,Tt⟩))));have HMS4:=af (HMS.out.step Rb (λb hb=>by rw [aj.1 hb];exact T4) (Ext.refl _ _));obtain ⟨y0,y1,y2,y3,y4⟩:=jl TT;obtain ⟨k0,k1,k2⟩:=Ww.out _ _ Vl;rw [HDST.out] at y1;have HC4:=af Vl;have hT5:=Wq.out w3.drew RS _ _ (HC4.out.below (bK w3)) (HMS4.out.below (bK w3));rw [HDST.out] at hT5;have HT5:=af hT5;have HTU5:=af (Xf.out w3.drew · · RS (HC4.out.below (bK w3)));clear Vl Rb Tt T4 TT x0 x1 x2 x3 x4 hT5;go_wp2_with fail
 go_region_with (first
  | (go_at_call 40;refine HT5.out.mono ?_;intro e w5 hp;obtain ⟨v5,A5,Z5,rfl,h5,hr5,m5⟩:=HTU5.out _ _ hp;have ZX:=af (Xg.out w5 A5 Z5 v5 h5 hr5);have HM5:=af ((HMV4.out.trans (Mv.below (bK _))).trans m5);clear h5 hr5 m5 hp)
  | (go_at_call 37;refine ZX.out.mono ?_;rintro e w6 ⟨rfl,hG⟩;have HG:=af (Px.trans HM5.out hG);clear hG))
 all_goals
  clear y0 y1 y2 y3 y4 k0 k1 k2;exact DX
end
section
variable {w w':World} {A A' Z Z':List Nat} {g n cl lv:Nat} {S:Mn} {es es':Pn}
theorem qY (S:Mn) (j:Nat):({ S with q:=S.q.eraseIdx j }:Mn)=S.Pb j:=by
 unfold Mn.Pb;rw [oM]
theorem zR (h:Gy w A Z g n S es) (hb:OO n cl lv S) (hd:dC n S) (j:Nat) (m:OM) (hm:S.q[j]? = some m) (PJ:dC n ((S.Pb j).Pt n (ey es) m)) :
  Calls Tryz.prog 20 #[.pointer (some ⟨g,0,none⟩),.int .i64 (j:Int)] w λe w'=>e = .returned (.bool true)/\Px w w' A Z g n ((S.Pb j).Pt n (ey es) m) es:=by
 obtain ⟨hj,Qb⟩:=kM.1 hm;obtain ⟨fr,T7,hg⟩:=hb.sv.q m (fL hm);have hb0:=hb.Pb j;have hb2:=hb0.Pt (ey es) m hg.d0 hg.dn;have PN:=hb2.S7 PJ;have hdi:m.dst.toNat<n:=by have:=hg.d0;have:=hg.dn;omega
 have TK:m.dst=(m.dst.toNat:Int):=by have:=hg.d0;omega
 cases hu:(S.at m.dst.toNat).up with
 | false =>
  have e1:(S.Pb j).Pt n (ey es) m=S.Pb j:=by
   unfold Mn.Pt;rw [show ((S.Pb j).at m.dst.toNat).up=false from hu];rfl
  rw [e1,<-qY];exact wM h j hj m Qb hg.WJ hb.sv.ql (.inr ⟨_,hdi,TK,hu⟩)
 | true =>
  have e1:(S.Pb j).Pt n (ey es) m=(S.Pb j).Pj n (ey es) m.dst.toNat (gJ (S.at m.dst.toNat).s (S.at m.dst.toNat).k m):=by
   unfold Mn.Pt;rw [show ((S.Pb j).at m.dst.toNat).up=true from hu];rfl
  rw [e1] at PN ⊢;rw [<-qx,<-qY];exact BQ h j hj m Qb _ hdi TK hb.sv.ql (hb.S7 hd) hu hg.WJ (by have:=hg.n1;omega) (hb.say hdi (zt (hb.up _ hdi hu).1.wf m)) PN
end
def gR (n:Nat) (x:Int):Bool:=decide (0<=x)&&decide (x<(n:Int))
theorem eC {n:Nat} {x:Int} (h:gR n x=true):∃i:Nat,i<n/\x=(i:Int)/\x.toNat=i:=by
 unfold gR at h;simp only [bu,aZ] at h;exact ⟨x.toNat,by omega,by omega,rfl⟩
structure Act where
 op:Int
 N:Int
 K:Int
 B:List UInt8
def Mn.P4 (n:Nat) (es:Pn) (S:Mn) (a:Act):Bool×Mn×Pn :=
 if a.op=0 then (if gR n a.N then ((S.at a.N.toNat).up,S.Pa n (ey es) a.N.toNat,es) else (false,S,es))
 else if a.op=1 then (if gR S.q.length a.N then (true,(S.Pb a.N.toNat).Pt n (ey es) (S.q.getD a.N.toNat og),es) else (false,S,es))
 else if a.op=2 then (if gR S.q.length a.N then (true,S.Pb a.N.toNat,es) else (false,S,es))
 else if a.op=3 then (if gR S.q.length a.N then (decide (S.q.length<2000),S.Qr a.N.toNat,es) else (false,S,es))
 else if a.op=4 then (if gR n a.N then ((S.at a.N.toNat).up,S.PM a.N.toNat a.K,es) else (false,S,es))
 else if a.op=5 then (if gR n a.N then (!(S.at a.N.toNat).up,S.back n a.N.toNat,es) else (false,S,es))
 else if a.op=6 then (if gR n a.N&&gR n a.K then (true,S,ew es (oJ a.N a.K) true) else (false,S,es))
 else if a.op=7 then (if gR n a.N&&gR n a.K then (true,S,ew es (oJ a.N a.K) false) else (false,S,es))
 else if a.op=8 then (if gR n a.N then ((S.at a.N.toNat).up&&((bF (S.at a.N.toNat).s (S.at a.N.toNat).k a.B).2.1==0),S.OT n (ey es) a.N.toNat a.B,es) else (false,S,es))
 else (false,S,es)
section
variable {w w':World} {A A' Z Z':List Nat} {g n cl lv:Nat} {S:Mn} {es es':Pn}
theorem Ih (h:Gy w A Z g n S es) (hb:OO n cl lv S) (i:Nat) (hi:i<n) (P:Int) (XG : -9223372036854775808<=P) (hP2:P<=9223372036854775807) :
  Calls Tryz.prog 23 #[.pointer (some ⟨g,0,none⟩),.int .i64 (i:Int),.int .i64 P] w λe w'=>e = .returned (.bool (S.at i).up)/\Px w w' A Z g n (S.PM i P) es:=by
 unfold Mn.PM;cases hu:(S.at i).up with
 | false =>
  refine (td h (i:Int) P (.inr ⟨i,hi,rfl,hu⟩)).mono ?_;exact Kq
 | true =>
  have h1:=(hb.up i hi hu).1;exact BP h i hi hu P XG hP2 ⟨h1.sf,by have:=h1.wf.room;have:=h1.wf.RQ;omega⟩
theorem Lr (h:Gy w A Z g n S es) (hb:OO n cl lv S) (hd:dC n S) (hlv:lv<=1000000) (i:Nat) (hi:i<n) :
  Calls Tryz.prog 24 #[.pointer (some ⟨g,0,none⟩),.int .i64 (i:Int)] w λe w'=>e = .returned (.bool (!(S.at i).up))/\Px w w' A Z g n (S.back n i) es:=by
 unfold Mn.back;cases hu:(S.at i).up with
 | false=>exact yE h i hi hu (hb.dn i hi hu) (hb.sv.id i hi).2 (hb.SC i hi).1 (by have:=(hb.SC i hi).2;omega)
 | true=>exact Fo h (hb.S7 hd) i hi hu
theorem Li (h:Gy w A Z g n S es) (nb:Nat) (hn:w.cell? ⟨g,1,none⟩=some (.pointer (some ⟨nb,0,none⟩))) (hq:S.q.length<=2000) (x:Int) :
  Calls Tryz.prog 21 #[.pointer (some ⟨nb,0,none⟩),.int .i64 x] w λe w'=>e = .returned (.bool (gR S.q.length x))/\Px w w' A Z g n (if gR S.q.length x then S.Pb x.toNat else S) es:=by
 obtain ⟨Y,os,rs,ds,ls,Xs,vl,nb',mb,qv,lv,h,hz⟩:=h;have e1:w.cell? ⟨g,1,none⟩=some (fq nb'):=mU;rw [hn] at e1;have:nb'=nb:=KR;subst this;cases hx:gR S.q.length x with
 | false =>
  refine (x9 h.nt x hx).mono ?_;rintro e w1 ⟨rfl,hp⟩;exact ⟨rfl,Gy.Yw h hz hp⟩
 | true =>
  obtain ⟨j,hj,rfl,_⟩:=eC hx;refine (qV h.nt j hj az).mono ?_;rintro e w1 ⟨rfl,hp⟩;obtain ⟨qv1,hq1,hx1⟩:=hp.ntx;obtain ⟨m1,y1,e1',T1,Vt,ht1⟩:=hx1;refine ⟨rfl,?_⟩;have e2:((j:Int)).toNat=j:=rfl;rw [e2,<-qY];exact Gy.Yw h hz ⟨_,_,_,_,hq1,m1,y1,e1',T1,Vt,ht1⟩
theorem Lp (h:Gy w A Z g n S es) (nb:Nat) (hn:w.cell? ⟨g,1,none⟩=some (.pointer (some ⟨nb,0,none⟩))) (hb:OO n cl lv S) (x:Int) :
  Calls Tryz.prog 22 #[.pointer (some ⟨nb,0,none⟩),.int .i64 x] w λe w'=>e = .returned (.bool (gR S.q.length x&&decide (S.q.length<2000)))/\Px w w' A Z g n (if gR S.q.length x then S.Qr x.toNat else S) es:=by
 have hgy:=h;obtain ⟨Y,os,rs,ds,ls,Xs,vl,nb',mb,qv,lv,h,hz⟩:=h;have e1:w.cell? ⟨g,1,none⟩=some (fq nb'):=mU;rw [hn] at e1;have:nb'=nb:=KR;subst this;cases hx:gR S.q.length x with
 | false =>
  refine (vG h.nt x (.inl hx)).mono ?_;rintro e w1 ⟨rfl,hp⟩;exact ⟨rfl,(hgy.below hp).gyp (Mv.below hp)⟩
 | true =>
  obtain ⟨j,hj,rfl,_⟩:=eC hx;have e2:((j:Int)).toNat=j:=rfl;have e3:S.q[j]? = some S.q[j]:=cf hj;rw [e2];unfold Mn.Qr;rw [e3];by_cases hl:S.q.length<2000
  ·rw [aO hl];obtain ⟨fr,_,hg⟩:=hb.sv.q S.q[j] (cW hj);refine (yb h.nt j hj hl hg.WJ).mono ?_;rintro e w1 ⟨rfl,hp⟩;refine ⟨rfl,?_⟩;have e4:gF S.q S.q[j]=S.q++[S.q[j]]:=by unfold gF;rw [ay hl]
   simp only [if_true];rw [e4];exact Gy.Yw h hz hp
  ·rw [bp hl];refine (vG h.nt (j:Int) (.inr az)).mono ?_;rintro e w1 ⟨rfl,hp⟩;refine ⟨rfl,?_⟩;have e4:gF S.q S.q[j]=S.q:=by unfold gF;rw [am hl]
   simp only [if_true];rw [e4];exact (hgy.below hp).gyp (Mv.below hp)
theorem Px.QH {w1:World} (hb:Below w.heap.size w w1) (h:Px w1 w' A Z g n S es):Px w w' A Z g n S es:=Px.trans (Mv.below hb) h
theorem Gy.nb (h:Gy w A Z g n S es):∃nb,w.cell? ⟨g,1,none⟩=some (.pointer (some ⟨nb,0,none⟩)):=by
 obtain ⟨Y,os,rs,ds,ls,Xs,vl,nb,mb,qv,lv,h,hz⟩:=h;exact ⟨nb,by rw [ap h.cell];rfl⟩
theorem Ln (h:Gy w A Z g n S es) (hb:OO n cl lv S) (hd:dC n S) (Sw:cl+1<=1000000) (hlv:lv<=1000000) (a:Act) (ba:Option Addr) (bc:Nat) (Qz:SB w A (.slice ba a.B.length bc) a.B) (hr:a.B.length<=1000000)
  (XG : -9223372036854775808<=a.K) (hP2:a.K<=9223372036854775807) (PJ:dC n (S.P4 n es a).2.1) :
  Calls Tryz.prog 9 #[.pointer (some ⟨g,0,none⟩),.agg #[.int .i64 a.op,.int .i64 a.N,.int .i64 a.K,.slice ba a.B.length bc]] w λe w'=>e = .returned (.bool (S.P4 n es a).1)/\Px w w' A Z g n (S.P4 n es a).2.1 (S.P4 n es a).2.2:=by
 obtain ⟨op,N,K,B⟩:=a;simp only at Qz hr XG hP2 ⊢;have hbr:∀w1,Below w.heap.size w w1->SB w1 A (.slice ba B.length bc) B:=λw1 hb1=>Qz.below hb1;unfold Mn.P4 at PJ ⊢;simp only at PJ ⊢;by_cases h0:op=0
 ·subst h0;simp only [if_true] at PJ ⊢;refine (Fh (Q:=λb w'=>b=(if gR n N then ((S.at N.toNat).up,S.Pa n (ey es) N.toNat,es) else (false,S,es)).1/\Px w w' A Z g n (if gR n N then ((S.at N.toNat).up,S.Pa n (ey es) N.toNat,es) else (false,S,es)).2.1 (if gR n N then ((S.at N.toNat).up,S.Pa n (ey es) N.toNat,es) else (false,S,es)).2.2) N K ba B.length bc (λw1 hb1=>?_)).mono (λe w' ⟨b,e1,e2,e3⟩=>⟨by rw [e1,e2],e3⟩);cases hx:gR n N with
  | false =>
   refine (wA (h.below hb1) N (.inl hx)).mono ?_;exact Bj
  | true =>
   obtain ⟨i,hi,rfl,e2⟩:=eC hx;rw [hx] at PJ;rw [e2] at PJ ⊢;exact (E5 (h.below hb1) hb hd Sw i hi PJ).mono (λe w2 ⟨e1,e3⟩=>⟨_,e1,rfl,Px.QH hb1 e3⟩)
 rw [am h0] at PJ ⊢;by_cases h1:op=1
 ·subst h1;simp only [if_true] at PJ ⊢;refine (BO (Q:=λb w'=>b=(if gR S.q.length N then (true,(S.Pb N.toNat).Pt n (ey es) (S.q.getD N.toNat og),es) else (false,S,es)).1/\Px w w' A Z g n (if gR S.q.length N then (true,(S.Pb N.toNat).Pt n (ey es) (S.q.getD N.toNat og),es) else (false,S,es)).2.1 (if gR S.q.length N then (true,(S.Pb N.toNat).Pt n (ey es) (S.q.getD N.toNat og),es) else (false,S,es)).2.2) N K ba B.length bc (λw1 hb1=>?_)).mono (λe w' ⟨b,e1,e2,e3⟩=>⟨by rw [e1,e2],e3⟩);cases hx:gR S.q.length N with
  | false=>exact (wL (h.below hb1) N hx).mono (λe w2 ⟨e1,e3⟩=>⟨_,e1,rfl,Px.QH hb1 e3⟩)
  | true =>
   obtain ⟨i,hi,rfl,e2⟩:=eC hx;rw [hx] at PJ;rw [e2] at PJ ⊢;have em:S.q[i]? = some (S.q.getD i og):=by rw [cf hi];simp [hi]
   exact (zR (h.below hb1) hb hd i _ em PJ).mono (λe w2 ⟨e1,e3⟩=>⟨_,e1,rfl,Px.QH hb1 e3⟩)
 rw [am h1] at PJ ⊢;by_cases h2:op=2
 ·subst h2;simp only [if_true] at PJ ⊢;obtain ⟨nb,Un⟩:=h.nb;refine (Fk (Q:=λb w'=>b=gR S.q.length N/\Px w w' A Z g n (if gR S.q.length N then S.Pb N.toNat else S) es) N K ba B.length bc nb Un (λw1 hb1=>?_)).mono (λe w' ⟨b,e1,e2,e3⟩=>⟨by rw [e1,e2];split<;>simp_all,by split<;>simp_all⟩);exact (Li (h.below hb1) nb (cell_later hb1 Un) hb.sv.ql N).mono (λe w2 ⟨e1,e3⟩=>⟨_,e1,rfl,Px.QH hb1 e3⟩)
 rw [am h2] at PJ ⊢;by_cases h3:op=3
 ·subst h3;simp only [if_true] at PJ ⊢;obtain ⟨nb,Un⟩:=h.nb;refine (Fl (Q:=λb w'=>b=(gR S.q.length N&&decide (S.q.length<2000))/\Px w w' A Z g n (if gR S.q.length N then S.Qr N.toNat else S) es) N K ba B.length bc nb Un (λw1 hb1=>?_)).mono (λe w' ⟨b,e1,e2,e3⟩=>⟨by rw [e1,e2];split<;>simp_all,by split<;>simp_all⟩);exact (Lp (h.below hb1) nb (cell_later hb1 Un) hb N).mono (λe w2 ⟨e1,e3⟩=>⟨_,e1,rfl,Px.QH hb1 e3⟩)
 rw [am h3] at PJ ⊢;by_cases h4:op=4
 ·subst h4;simp only [if_true] at PJ ⊢;refine (BN (Q:=λb w'=>b=(if gR n N then ((S.at N.toNat).up,S.PM N.toNat K,es) else (false,S,es)).1/\Px w w' A Z g n (if gR n N then ((S.at N.toNat).up,S.PM N.toNat K,es) else (false,S,es)).2.1 (if gR n N then ((S.at N.toNat).up,S.PM N.toNat K,es) else (false,S,es)).2.2) N K ba B.length bc (λw1 hb1=>?_)).mono (λe w' ⟨b,e1,e2,e3⟩=>⟨by rw [e1,e2],e3⟩);cases hx:gR n N with
  | false =>
   refine (td (h.below hb1) N K (.inl hx)).mono ?_;exact Bj
  | true =>
   obtain ⟨i,hi,rfl,e2⟩:=eC hx;rw [e2];exact (Ih (h.below hb1) hb i hi K XG hP2).mono (λe w2 ⟨e1,e3⟩=>⟨_,e1,rfl,Px.QH hb1 e3⟩)
 rw [am h4] at PJ ⊢;by_cases h5:op=5
 ·subst h5;simp only [if_true] at PJ ⊢;refine (Fn (Q:=λb w'=>b=(if gR n N then (!(S.at N.toNat).up,S.back n N.toNat,es) else (false,S,es)).1/\Px w w' A Z g n (if gR n N then (!(S.at N.toNat).up,S.back n N.toNat,es) else (false,S,es)).2.1 (if gR n N then (!(S.at N.toNat).up,S.back n N.toNat,es) else (false,S,es)).2.2) N K ba B.length bc (λw1 hb1=>?_)).mono (λe w' ⟨b,e1,e2,e3⟩=>⟨by rw [e1,e2],e3⟩);cases hx:gR n N with
  | false =>
   refine (Fp (h.below hb1) (hb.S7 hd) N hx).mono ?_;exact Bj
  | true =>
   obtain ⟨i,hi,rfl,e2⟩:=eC hx;rw [e2];exact (Lr (h.below hb1) hb hd hlv i hi).mono (λe w2 ⟨e1,e3⟩=>⟨_,e1,rfl,Px.QH hb1 e3⟩)
 rw [am h5] at PJ ⊢;by_cases h6:op=6
 ·subst h6;simp only [if_true] at PJ ⊢;refine (Ig (Q:=λb w'=>b=(if gR n N&&gR n K then (true,S,ew es (oJ N K) true) else (false,S,es)).1/\Px w w' A Z g n (if gR n N&&gR n K then (true,S,ew es (oJ N K) true) else (false,S,es)).2.1 (if gR n N&&gR n K then (true,S,ew es (oJ N K) true) else (false,S,es)).2.2) N K ba B.length bc (λw1 hb1=>?_)).mono (λe w' ⟨b,e1,e2,e3⟩=>⟨by rw [e1,e2],e3⟩);cases hx:gR n N&&gR n K with
  | false =>
   refine (zQ (h.below hb1) N K true hx).mono ?_;exact Bj
  | true =>
   rw [bu] at hx;obtain ⟨i,hi,rfl,_⟩:=eC hx.1;obtain ⟨j,hj,rfl,_⟩:=eC hx.2;exact (wK (h.below hb1) (i:Int) (j:Int) true az az).mono (λe w2 ⟨e1,e3⟩=>⟨_,e1,rfl,Px.QH hb1 e3⟩)
 rw [am h6] at PJ ⊢;by_cases h7:op=7
 ·subst h7;simp only [if_true] at PJ ⊢;refine (BM (Q:=λb w'=>b=(if gR n N&&gR n K then (true,S,ew es (oJ N K) false) else (false,S,es)).1/\Px w w' A Z g n (if gR n N&&gR n K then (true,S,ew es (oJ N K) false) else (false,S,es)).2.1 (if gR n N&&gR n K then (true,S,ew es (oJ N K) false) else (false,S,es)).2.2) N K ba B.length bc (λw1 hb1=>?_)).mono (λe w' ⟨b,e1,e2,e3⟩=>⟨by rw [e1,e2],e3⟩);cases hx:gR n N&&gR n K with
  | false =>
   refine (zQ (h.below hb1) N K false hx).mono ?_;exact Bj
  | true =>
   rw [bu] at hx;obtain ⟨i,hi,rfl,_⟩:=eC hx.1;obtain ⟨j,hj,rfl,_⟩:=eC hx.2;exact (wK (h.below hb1) (i:Int) (j:Int) false az az).mono (λe w2 ⟨e1,e3⟩=>⟨_,e1,rfl,Px.QH hb1 e3⟩)
 rw [am h7] at PJ ⊢;by_cases h8:op=8
 ·subst h8;simp only [if_true] at PJ ⊢;refine (Fi (Q:=λb w'=>b=(if gR n N then ((S.at N.toNat).up&&((bF (S.at N.toNat).s (S.at N.toNat).k B).2.1==0),S.OT n (ey es) N.toNat B,es) else (false,S,es)).1/\Px w w' A Z g n (if gR n N then ((S.at N.toNat).up&&((bF (S.at N.toNat).s (S.at N.toNat).k B).2.1==0),S.OT n (ey es) N.toNat B,es) else (false,S,es)).2.1 (if gR n N then ((S.at N.toNat).up&&((bF (S.at N.toNat).s (S.at N.toNat).k B).2.1==0),S.OT n (ey es) N.toNat B,es) else (false,S,es)).2.2) N K ba B.length bc (λw1 hb1=>?_)).mono (λe w' ⟨b,e1,e2,e3⟩=>⟨by rw [e1,e2],e3⟩);cases hx:gR n N with
  | false =>
   refine (rm (h.below hb1) N ba B.length bc (.inl hx)).mono ?_;exact Bj
  | true =>
   obtain ⟨i,hi,rfl,e2⟩:=eC hx;rw [hx] at PJ;rw [e2] at PJ ⊢;exact (Lf (h.below hb1) hb hd i hi ba bc B (hbr w1 hb1) hr PJ).mono (λe w2 ⟨e1,e3⟩=>⟨_,e1,rfl,Px.QH hb1 e3⟩)
 rw [am h8];refine (Fj op N K ba B.length bc az).mono ?_;rintro e w2 ⟨rfl,hb2⟩;exact ⟨rfl,(h.below hb2).gyp (Mv.below hb2)⟩
end
def jz:Act:=⟨0,0,0,[]⟩
instance:Inhabited Act:=⟨jz⟩
structure Vq (w:World) (b off:Nat) (x:Act):Prop where
 c0:w.cell? ⟨b,off,none⟩=some (.int .i64 x.op)
 c1:w.cell? ⟨b,off+1,none⟩=some (.int .i64 x.N)
 c2:w.cell? ⟨b,off+2,none⟩=some (.int .i64 x.K)
 c4:∃bo bc,w.cell? ⟨b,off+3,none⟩=some (.slice bo x.B.length bc)/\Pg w bo x.B.length bc x.B/\x.B.length<=bc
 p1 : -9223372036854775808<=x.K/\x.K<=9223372036854775807
 n1 : -9223372036854775808<=x.N/\x.N<=9223372036854775807
structure XJ (w:World) (ao:Option Addr) (n:Nat) (l:List Act):Prop where
 len:l.length=n
 at_:n=0\/∃b off,ao=some ⟨b,off,none⟩/\∀i,i<n->Vq w b (off+i*4) (l.getD i jz)
theorem Vq.below {w w':World} {b off:Nat} {x:Act} (h:Vq w b off x) (hb:Below w.heap.size w w'):Vq w' b off x:=by
 obtain ⟨h0,h1,h2,⟨bo,bc,h4,h5,h6⟩,h7,h8⟩:=h;exact ⟨cell_later hb h0,cell_later hb h1,cell_later hb h2,⟨bo,bc,cell_later hb h4,h5.below hb,h6⟩,h7,h8⟩
theorem XJ.below {w w':World} {ao:Option Addr} {n:Nat} {l:List Act} (h:XJ w ao n l) (hb:Below w.heap.size w w'):XJ w' ao n l:=by
 refine ⟨h.len,?_⟩;rcases h.at_ with h0 | ⟨b,off,h1,h2⟩
 ·exact .inl h0
 ·exact .inr ⟨b,off,h1,λi hi=>(h2 i hi).below hb⟩
section
variable {H:Type} {enc:TypeId×Value->H}
open Go.ChangeShapes Go.WideShapes Go.ChangeAt
theorem Ot:Tryz.prog.cellsOf 33=4:=dW
theorem GE {W:World} {base:Nat} {v:Value} {d:DataW H} {ps:List MemPlace} (hv:Value.okWide Tryz.prog W .any base 22 v) (h:DataW.Trod enc Tryz.prog W 0 (λ_=>true) true 22 v d ps)
  (hsz:(DataW.weights Tryz.prog 22 d).all (· <= reachBytes)=true):∃ao n c l,v = .slice ao n c/\XJ W ao n l/\n<=c/\n<=140737488355328:=by
 obtain ⟨a,n,c,rfl⟩:=okWide_slice Tryz.underlying22 hv;obtain ⟨fuel,hf⟩:=h;have k3:Tryz.prog.cellsOf 3=1:=dW;have k31:Tryz.prog.cellsOf 31=1:=dW;have kb:Tryz.prog.bytesOf 33=48:=dW;rcases Deep.open_slice Tryz.underlying22 hf with ⟨hcs,hx⟩ | ⟨ad,n',c',m,k,D,Pl,hcs,_,hle,_,hm,hx,hcell⟩
 ·simp [Value.cells] at hcs;obtain ⟨rfl,rfl,rfl⟩:=hcs;exact ⟨_,_,_,[],rfl,⟨rfl,.inl rfl⟩,ah _,aH _⟩
 ·simp [Value.cells] at hcs;obtain ⟨rfl,rfl,rfl⟩:=hcs;obtain rfl:m=c:=ud;rw [Ot] at hcell;obtain ⟨rfl,rfl⟩:=Prod.mk.inj hx;simp only [DataW.weights,Tryz.underlying22,List.all_cons,List.all_append,bu] at hsz;obtain ⟨hs1,hs2,_⟩:=hsz;have Un:n<=140737488355328:=by
   rw [kb] at hs1;simp [reachBytes] at hs1;omega
  have hw:∀i,i<n->(DataW.weights Tryz.prog 33 (D i)).all (· <= reachBytes)=true:=λi hi=>tD hs2 (d7.2 ⟨i,eJ.2 hi,rfl⟩);have hex:∀i,i<n->∃x:Act,∃bo bc,W.cell? (ad.add (i*4))=some (.int .i64 x.op)/\W.cell? ((ad.add (i*4)).add 1)=some (.int .i64 x.N)/\W.cell? ((ad.add (i*4)).add 2)=some (.int .i64 x.K)/\W.cell? ((ad.add (i*4)).add 3)=some (.slice bo x.B.length bc)/\Pg W bo x.B.length bc x.B/\x.B.length<=bc/\(-9223372036854775808<=x.K/\x.K<=9223372036854775807)/\(-9223372036854775808<=x.N/\x.N<=9223372036854775807):=by
   intro i hi;obtain ⟨cs,hcs1,htr⟩:=hcell i az;obtain ⟨_,hlen,hget⟩:=World.cells?_some hcs1;obtain ⟨xs,q,_,hx,_,WS,hf⟩:=DataW.trod_struct Tryz.underlying33 htr;obtain ⟨c0,c1,c2,c3,rfl⟩:∃c0 c1 c2 c3,cs=[c0,c1,c2,c3]:=by
    match cs,hlen with
    | [c0,c1,c2,c3],_=>exact ⟨c0,c1,c2,c3,rfl⟩
   obtain ⟨y0,y1,y2,y3,rfl⟩:∃y0 y1 y2 y3,xs=[y0,y1,y2,y3]:=by
    match xs,WS with
    | [y0,y1,y2,y3],_=>exact ⟨y0,y1,y2,y3,rfl⟩
   have f0:DataW.trod enc Tryz.prog W 0 (λ_=>true) true q 3 [c0]=some y0:=by simpa [k3] using hf 0 _ rfl
   have f1:DataW.trod enc Tryz.prog W 0 (λ_=>true) true q 3 [c1]=some y1:=by simpa [k3] using hf 1 _ rfl
   have f2:DataW.trod enc Tryz.prog W 0 (λ_=>true) true q 3 [c2]=some y2:=by simpa [k3] using hf 2 _ rfl
   have f3:DataW.trod enc Tryz.prog W 0 (λ_=>true) true q 31 [c3]=some y3:=by simpa [k31] using hf 3 _ rfl
   have hd:=hw i hi;rw [show D i = .agg [y0.1,y1.1,y2.1,y3.1] from (Prod.mk.inj hx).1] at hd;have hwe:(DataW.weightsEach Tryz.prog [3,3,3,31] [y0.1,y1.1,y2.1,y3.1]).all (· <= reachBytes)=true:=by
    simp only [DataW.weights,Tryz.underlying33] at hd;exact hd
   have hw4:=kU hwe (j:=3) (t:=31) (d:=y3.1) rfl rfl;obtain ⟨z0,e0,_,_⟩:=DataW.trod_int Tryz.underlying3 f0;obtain ⟨z1,e1,_,w1⟩:=DataW.trod_int Tryz.underlying3 f1;obtain ⟨z2,e2,_,w2⟩:=DataW.trod_int Tryz.underlying3 f2;obtain ⟨bo,bn,bc,bl,e3,i4,hle4,_⟩:=jW Tryz.underlying31 Tryz.underlying5 dW dW f3 hw4;simp only [List.cons.injEq,and_true] at e0 e1 e2 e3;subst e0 e1 e2 e3;have hq:=i4.len;subst hq;refine ⟨⟨z0,z1,z2,bl⟩,bo,bc,?_,?_,?_,?_,i4,hle4,Ex w2,Ex w1⟩
   ·have:=hget 0 az;simpa [Addr.add] using this
   ·rw [hget 1 az];rfl
   ·rw [hget 2 az];rfl
   ·rw [hget 3 az];rfl
  obtain ⟨L,hL⟩:=Deep.choose_lt hex;refine ⟨some ad,n,m,(List.range n).map L,rfl,⟨by simp,?_⟩,hle,Un⟩;by_cases h0:n=0
  ·exact .inl h0
  ·right;obtain ⟨b,off,spot⟩:=ad;have hspot:spot=none:=by
    obtain ⟨_,_,h1,_⟩:=hL 0 az;simpa [Addr.add] using World.cell?_spot h1
   subst hspot;refine ⟨b,off,rfl,λi hi=>?_⟩;obtain ⟨bo,bc,g0,g1,g2,g4,g5,g6,g7,g8⟩:=hL i hi;simp only [Addr.add_lit] at g0 g1 g2 g4;have hgd:((List.range n).map L).getD i jz=L i:=by simp [aL,hi]
   rw [hgd];exact ⟨g0,g1,g2,⟨bo,bc,g4,g5,g6⟩,g7,g8⟩
end
def jI (l:List Act) (dF:Nat):Bool:=decide (l.length<=dF)&&l.all λx=>decide (x.B.length<=300)
theorem sP (l:List Act) (dF:Nat) (h:jI l dF=true):l.length<=dF/\∀x∈l,x.B.length<=300:=by
 unfold jI at h;simp only [bu,aZ,eB] at h;exact h
section
variable {w:World}
theorem ym (ao:Option Addr) (n c:Nat) (l:List Act) (h:XJ w ao n l) (hn:n<=140737488355328) (dF:Nat) (hm:dF<=1000) :
  Calls Tryz.prog 8 #[.slice ao n c,.int .i64 (dF:Int)] w λe w'=>e = .returned (.bool (jI l dF))/\Below w.heap.size w w':=by
 have H:=af h;have hlen:=h.len;go_enter Tryz.func8,Tryz.ntmps8
 by_cases Y3:(dF:Int)<(n:Int)
 ·have HF:Hid (jI l dF=false):=af (by
   unfold jI;rw [show decide (l.length<=dF)=false by simp;omega];rfl)
  clear h;go_wp2_with fail
  go_ret
  exact ⟨by rw [HF.out];rfl,aG _ _⟩
 ·clear h;go_wp2_with fail
  go_loopw [5] (λi wr=>∃j:Nat,j<=n/\i = .int .i64 (j:Int)/\Below w.heap.size w wr/\∀q,q<j->(l.getD q jz).B.length<=300) (λi _=>n - (intOf i).toNat)
  case atStart=>exact ⟨0,aH _,rfl,aG _ _,λq hq=>by omega⟩
  case round =>
   obtain ⟨j,hj,rfl,Pe,hB⟩:=hrel;have HB:=af hB;have Zx:=af Pe;clear hB;rename World=>w2;have q6:IntKind.i64.wrap ((j:Int)+1)=(j:Int)+1:=IntWalk.i64_in _ az;by_cases hlt:j<n
   ·have R2:(j:Int)<(n:Int):=by omega
    obtain ⟨b,off,rfl,hat⟩:∃b off,ao=some ⟨b,off,none⟩/\∀i,i<n->Vq w b (off+i*4) (l.getD i jz):=by
     rcases H.out.at_ with h0 | h0
     ·omega
     ·exact h0
    obtain ⟨bo,bc,k4,k5,k6⟩:=((hat j hlt).below Pe).c4;have HX:Hid ((l.getD j jz).B.length=(l.getD j jz).B.length):=af rfl;have hxl:∃x,l.getD j jz=x/\x∈l:=by
     refine ⟨_,rfl,?_⟩;have e:l.getD j jz=l[j]'(by omega):=by simp [List.getD,show j<l.length by omega]
     rw [e];exact cW _
    obtain ⟨x,hx1,hx2⟩:=hxl;have HXE:=af hx1;have HXM:=af hx2;rw [hx1] at k4 k5 k6;have hbl:∃y,x.B.length=y:=⟨_,rfl⟩
    obtain ⟨bl,hbl⟩:=hbl;have Q0:=af hbl;rw [hbl] at k4 k5 k6;clear hat hx1 hx2 hbl HX k5;by_cases h3:(300:Int)<(bl:Int)
    ·have HF:Hid (jI l dF=false):=af (by
      cases h9:jI l dF with
      | false=>rfl
      | true =>
       have:=(sP l dF h9).2 x HXM.out;have:=Q0.out;omega)
     exact IY
    ·have O5:Hid (∀q,q<j+1->(l.getD q jz).B.length<=300):=af (λq hq=>by
      by_cases e:q=j
      ·rw [e,HXE.out,Q0.out];omega
      ·exact HB.out q az)
     go_wp2_with fail
     go_roundw
     case rel=>exact ⟨j+1,by omega,by simp,Zx.out,O5.out⟩
     case measure=>simp [intOf];omega
   ·obtain rfl:j=n:=by omega
    have R2:¬(j:Int)<(j:Int):=az;have HF:Hid (jI l dF=true):=af (by
     unfold jI;rw [show decide (l.length<=dF)=true by simp;omega,z9,eB];intro x hx;obtain ⟨q,hq,rfl⟩:=sn hx;have:=HB.out q az;rw [show l.getD q jz=l[q] by simp [List.getD,hq]] at this;simpa using this)
    exact IY
end
section
variable {ρ:Type} {f:ρ->List UInt8} {z:ρ->Bool} {e:ρ} {n cl lv a c:Nat} {S:Mn} {T:X.Cs ρ} {b:Int} {G:X.Gh ρ}
theorem FX (ct:OM->Bool) (ms:List (X.Ms ρ)):∀q:List (X.Ms ρ),∃q1:List (X.Ms ρ),(ms.map (du f)).foldl (fP ct) (q.map (du f))=q1.map (du f)/\(∀x∈q1,x∈q++ms)/\q1.length<=(q++ms).length:=by
 induction ms with
 | nil=>exact λq=>⟨q,rfl,λx hx=>aI _ hx,by simp⟩
 | cons m l ih =>
  intro q;by_cases h:fP ct (q.map (du f)) (du f m)=q.map (du f)
  ·obtain ⟨q1,h1,h2,h3⟩:=ih q;refine ⟨q1,by rw [bJ,gS,h,h1],λx hx=>?_,by simp at h3 ⊢;omega⟩;rcases aA.1 (h2 x hx) with g | g
   ·exact aI _ g
   ·grind
  ·have h0:fP ct (q.map (du f)) (du f m)=(q++[m]).map (du f):=by
    grind [fP,gF]
   obtain ⟨q1,h1,h2,h3⟩:=ih (q++[m]);refine ⟨q1,by rw [bJ,gS,h0,h1],λx hx=>?_,by simp at h3 ⊢;omega⟩;have:=h2 x hx;simp only [bS,List.singleton_append] at this;exact this
theorem Pq.Pj (ct:OM->Bool) (h:Pq f n S T) (i:Nat) (hi:i<n) (hu:T.up i=true) {p:List OM×Rp×Dk} {q:List (X.Ms ρ)×X.Nd ρ} (hp:Qf f p q) (hl:(T.call i q).q.length<=2000):∃q1,Pq f n ((S.set i ⟨p.2.1,p.2.2,true⟩).TB ct p.1) ((T.call i q).wq q1)/\(∀x∈q1,x∈(T.call i q).q)/\q1.length<=(T.call i q).q.length:=by
 obtain ⟨q1,h1,h2,h3⟩:=FX (f:=f) ct q.1 T.q;refine ⟨q1,?_,by rw [X.dS];exact h2,by rw [X.dS];exact h3⟩;have h4:=(h.turn i hi hu hp hl).wq q1;rw [<-h1,<-hp.ms,<-h.q] at h4;exact h4
theorem Pq.tell (h:Pq f n S T) (lo:X.Lg ρ):Pq f n (S.tell n) (T.Uj lo):=⟨h.q,h.bad,h.len,h.up,h.nd,h.dn⟩
theorem yi (hz:∀x,z x=(f x).isEmpty) (h:Pq f n S T) (hG:X.QS z n b G T) (m:Nat):∀(i:Nat) (lg:X.Lg ρ),i+m<=n->(∃t,X.Ts n G t lg lg.length) ->
  gN S m i ((X.recs z lg).map f)=(X.recs z (X.QO z T m i lg)).map f/\(∃t,X.Ts n G t (X.QO z T m i lg) (X.QO z T m i lg).length)/\X.recs z lg <+: X.recs z (X.QO z T m i lg)/\∀j,i<=j->j<i+m->T.up j=true->X.recs z (X.tells (T.nd j)) <+: X.recs z (X.QO z T m i lg):=by
 induction m with
 | zero=>intro i lg _ hl;exact ⟨rfl,hl,gk _,λj h1 h2=>by omega⟩
 | succ m ih =>
  intro i lg hi hl;have O9:i<n:=az;unfold gN X.QO;rw [h.up i O9];cases hu:T.up i with
  | false =>
   obtain ⟨h1,h2,h3,h4⟩:=ih (i+1) lg az hl;refine ⟨h1,h2,h3,λj j1 j2 j3=>?_⟩;by_cases e1:j=i
   ·rw [e1,hu] at j3;cases j3
   ·exact h4 j az az j3
  | true =>
   have hr:=h.nd i O9 hu;have OP:=hG.ni i O9;have ht:de (S.at i).s=(X.recs z (X.tells (T.nd i))).map f:=by
    unfold de X.tells;rw [hr.u.Oz,hr.u.agreed,<-jv,vn hz]
   have hm:(S.at i).s.many=(X.recs z (X.tells (T.nd i))).length:=by rw [hr.u.many,OP.many];rfl
   have ha:=X.XH OP;have hcmp:X.recs z (X.tells (T.nd i)) <+: X.recs z lg\/X.recs z lg <+: X.recs z (X.tells (T.nd i)):=by
    grind [X.agd_two,X.U7,hG.gi]
   have TH:(if ((X.recs z lg).map f).length<(S.at i).s.many then de (S.at i).s else (X.recs z lg).map f)=(X.recs z (if (X.recs z lg).length<(X.recs z (X.tells (T.nd i))).length then X.tells (T.nd i) else lg)).map f:=by
    rw [aW,hm,ht];split<;>rfl
   rw [TH];have hp1:X.recs z lg <+: X.recs z (if (X.recs z lg).length<(X.recs z (X.tells (T.nd i))).length then X.tells (T.nd i) else lg):=by
    grind
   have hp2:X.recs z (X.tells (T.nd i)) <+: X.recs z (if (X.recs z lg).length<(X.recs z (X.tells (T.nd i))).length then X.tells (T.nd i) else lg):=by
    split
    ·exact gk _
    ·rcases hcmp with g1 | g1
     ·exact g1
     ·grind [g1.eq_of_length_le]
   obtain ⟨h1,h2,h3,h4⟩:=ih (i+1) (if (X.recs z lg).length<(X.recs z (X.tells (T.nd i))).length then X.tells (T.nd i) else lg) az (by split<;>assumption);refine ⟨h1,h2,hp1.trans h3,λj j1 j2 j3=>?_⟩;by_cases e1:j=i
   ·rw [e1];exact hp2.trans h3
   ·exact h4 j az az j3
end
namespace X
structure Sp {ρ:Type} (T T':Sg ρ):Prop where
 len:T'.nodes.length=T.nodes.length
 mo:∀i,Mo (T.at i) (T'.at i)
def ju {ρ:Type} (T:Sg ρ):Prop:=∀i,i<T.nodes.length->(T.at i).bad=false/\(T.at i).cnt<=2500
section
variable {ρ:Type} {z:ρ->Bool} {e:ρ} {T T':Sg ρ}
theorem px {α:Type} (l:List α) (i j:Nat) (x d:α) (h:i<l.length):(l.set i x).getD j d=if j=i then x else l.getD j d:=by
 grind
theorem Sp.refl (T:Sg ρ):Sp T T:=⟨rfl,λ_=>Mo.refl _⟩
theorem Sp.trans {A B C:Sg ρ} (h:Sp A B) (g:Sp B C):Sp A C:=⟨g.len.trans h.len,λi=>(h.mo i).trans (g.mo i)⟩
theorem Sp.fine (h:Sp T T') (g:ju T'):ju T:=λi hi =>
 have h1:=g i (by rw [h.len];exact hi)
 ⟨(h.mo i).bad h1.1,aF (h.mo i).cnt h1.2⟩
theorem rp (i:Nat) (r:List (Ms ρ)×Nd ρ) (h:Mo (T.at i) r.2):Sp T (T.turn z i r):=by
 refine ⟨by simp [Sg.turn],λj=>?_⟩;show Mo (T.at j) ((T.nodes.set i r.2).getD j (new 0 1));by_cases hi:i<T.nodes.length
 ·rw [px _ _ _ _ _ hi];split
  ·rename_i e;subst e;exact h
  ·exact Mo.refl _
 ·rw [List.set_eq_of_length_le az];exact Mo.refl _
theorem rq (i:Nat):Sp T (T.tick z e i):=by
 grind [Sg.tick,rp,zC,Sp.refl]
theorem E9 {α:Type} (g:Sg ρ->α->Sg ρ) (hg:∀T a,Sp T (g T a)) (l:List α):∀T,Sp T (l.foldl g T):=by
 induction l with
 | nil=>exact λT=>Sp.refl T
 | cons a l ih=>exact λT=>(hg T a).trans (ih _)
theorem BH (n:Nat):Sp T (T.Ox z e n):=E9 _ (λ_ i=>rq i) _ T
theorem sX (m:Ms ρ):Sp T (T.bring z e m):=by
 grind [Sg.bring,rp,Ef,Sp.refl]
theorem j9 (k:Nat):∀T:Sg ρ,Sp T (T.drain z e k):=by
 induction k with
 | zero=>exact λT=>Sp.refl T
 | succ k ih =>
  intro T;unfold Sg.drain;split
  ·exact Sp.refl T
  ·rename_i m q _;exact Sp.trans (B:=Sg.bring z e { T with q:=q } m) (Sp.trans (B:={ T with q:=q }) ⟨rfl,λ_=>Mo.refl _⟩ (sX m)) (ih _)
theorem rt (n r:Nat):∀T:Sg ρ,Sp T (T.calm z e n r):=by
 induction r with
 | zero=>exact λT=>Sp.refl T
 | succ r ih =>
  intro T;have h1:Sp T ((T.Ox z e n).drain z e 3000):=(BH n).trans (j9 _ _);exact h1.trans (ih _)
theorem E8 (i:Nat) (x:ρ):Sp T (T.PY z i x):=by
 grind [Sg.PY,rp,Bk,Sp.refl]
end
end X
structure Pu {ρ:Type} (f:ρ->List UInt8) (S:Mn) (T:X.Sg ρ):Prop where
 q:S.q=T.q.map (du f)
 long:S.long=T.long.map f
 bad:S.bad=false
 len:T.nodes.length=S.nodes.length
 ul:T.Vr.length=S.nodes.length
 up:∀i,i<T.nodes.length->(S.at i).up=T.Qn i
 nd:∀i,i<T.nodes.length->T.Qn i=true->Rel f (S.at i).s (S.at i).k (T.at i)
 dn:∀i,i<T.nodes.length->T.Qn i=false->∃k keep,(S.at i).k=dI k keep/\Rel f (S.at i).s k (T.at i)/\XI (S.at i).s k
section
variable {ρ:Type} {f:ρ->List UInt8} {z:ρ->Bool} {e:ρ} {n cl lv:Nat} {S:Mn} {T:X.Sg ρ}
theorem FU (ms:List (X.Ms ρ)):∀q:List (X.Ms ρ),(ms.map (du f)).foldl gF (q.map (du f))=(ms.foldl X.FV q).map (du f):=by
 induction ms with
 | nil=>exact λq=>rfl
 | cons a l ih =>
  intro q;have h1:gF (q.map (du f)) (du f a)=(X.FV q a).map (du f):=by
   unfold gF X.FV;exact IV
  rw [bJ,gS,gS,h1,ih]
theorem pV (hz:∀x,z x=(f x).isEmpty) {s:Rp} {k:Dk} {c:X.Nd ρ} (h:Rel f s k c):de s=(X.oG z c).map f:=by
 unfold de X.oG;rw [h.u.Oz,h.u.agreed,<-jv,qI hz]
theorem C7 (hz:∀x,z x=(f x).isEmpty) (hl:T.nodes.length=n) (YD:T.Vr.length=n) (QW:∀i,i<n->(S.at i).up=T.Qn i) (PO:∀i,i<n->T.Qn i=true->Rel f (S.at i).s (S.at i).k (T.at i)) (m:Nat):∀(i:Nat) (lg:List ρ),i+m=n->gN S m i (lg.map f)=(X.zd z (T.nodes.drop i) (T.Vr.drop i) lg).map f:=by
 induction m with
 | zero =>
  intro i lg hi;rw [F7 az];rfl
 | succ m ih =>
  intro i lg hi;have h1:i<T.nodes.length:=az;have h2:i<T.Vr.length:=az;have e1:T.at i=T.nodes[i]:=by unfold X.Sg.at;simp [aL,h1]
  have e2:T.Qn i=T.Vr[i]:=by unfold X.Sg.Qn;simp [aL,h2]
  have hupi:=QW i az;have Xz:=PO i az;rw [e2] at hupi Xz;rw [e1] at Xz;rw [dP h1,dP h2];unfold gN X.zd;rw [hupi];have e3:(if T.Vr[i]=true then (if (lg.map f).length<(S.at i).s.many then de (S.at i).s else lg.map f) else lg.map f)=(if T.Vr[i]=true then (if lg.length<T.nodes[i].many then X.oG z T.nodes[i] else lg) else lg).map f:=by
   split
   ·rename_i hu;have hr:=Xz hu;rw [aW,hr.u.many,pV hz hr];split<;>rfl
   ·rfl
  rw [e3];exact ih (i+1) _ az
theorem Pu.turn (hz:∀x,z x=(f x).isEmpty) (h:Pu f S T) (hn:S.nodes.length=n) (i:Nat) (hi:i<n) (hu:T.Qn i=true) {p:List OM×Rp×Dk} {q:List (X.Ms ρ)×X.Nd ρ} (hp:Qf f p q):Pu f (S.Pj n co i p) (T.turn z i q):=by
 have hat:=λj=>Mn.at_set S i j ⟨p.2.1,p.2.2,true⟩ az;have hlt:T.nodes.length=n:=h.len.trans hn;have hatT:∀j,(T.turn z i q).at j=if j=i then q.2 else T.at j:=λj=>X.px _ _ _ _ _ az
 have hupT:∀j,(T.turn z i q).Qn j=T.Qn j:=λj=>rfl;have QW:∀j,j<n->((S.set i ⟨p.2.1,p.2.2,true⟩).at j).up=(T.turn z i q).Qn j:=λj hj=>by
  grind [h.up]
 have PO:∀j,j<n->(T.turn z i q).Qn j=true->Rel f ((S.set i ⟨p.2.1,p.2.2,true⟩).at j).s ((S.set i ⟨p.2.1,p.2.2,true⟩).at j).k ((T.turn z i q).at j):=λj hj PU=>by
  grind [hp.rel,h.nd]
 have hl2:(T.turn z i q).nodes.length=n:=by simp [X.Sg.turn,hlt]
 have PN:(T.turn z i q).Vr.length=n:=h.ul.trans hn;have htell:=C7 (S:=(S.set i ⟨p.2.1,p.2.2,true⟩).TB co p.1) (T:=T.turn z i q) hz hl2 PN QW PO n 0 T.long az;refine ⟨?_,?_,h.bad,?_,?_,λj hj=>QW j az,λj hj PU=>PO j az PU,λj hj PU=>?_⟩
 ·show p.1.foldl (fP co) S.q=(q.1.foldl X.FV T.q).map (du f);have e1:fP co=gF:=by funext q m;unfold fP co;simp
  rw [e1,hp.ms,h.q,FU]
 ·show gN ((S.set i ⟨p.2.1,p.2.2,true⟩).TB co p.1) n 0 S.long=_;rw [h.long];exact htell
 ·grind [Mn.Pj,Mn.tell,Mn.TB,Mn.set]
 ·grind [Mn.Pj,Mn.tell,Mn.TB,Mn.set]
 ·show ∃k keep,((S.set i ⟨p.2.1,p.2.2,true⟩).at j).k=dI k keep/\Rel f ((S.set i ⟨p.2.1,p.2.2,true⟩).at j).s k ((T.turn z i q).at j)/\XI ((S.set i ⟨p.2.1,p.2.2,true⟩).at j).s k;rw [hat,hatT];rw [hupT] at PU;split
  ·grind
  ·exact h.dn j az PU
section
variable (hz:∀x,z x=(f x).isEmpty) (he:f e=[]) (hf:∀x,(f x).length<=300)
include hz he
theorem Pu.tick (h:Pu f S T) (hn:S.nodes.length=n) (hF:X.ju T) (i:Nat) (hi:i<n):Pu f (S.Pa n co i) (T.tick z e i):=by
 have hl:T.nodes.length=n:=h.len.trans hn;unfold Mn.Pa X.Sg.tick;rw [h.up i az];cases hu:T.Qn i with
 | false=>exact h
 | true=>exact h.turn hz hn i hi hu (kX hz he (h.nd i az hu) (by have:=(hF i az).2;omega))
omit hz he in
theorem Ap (S:Mn) (i:Nat):(S.Pa n co i).nodes.length=S.nodes.length:=by
 grind [Mn.Pa,Mn.Pj,Mn.tell,Mn.TB,Mn.set]
theorem Pu.Ox (k:Nat):∀{S:Mn} {T:X.Sg ρ},Pu f S T->S.nodes.length=n->X.ju (T.Ox z e k)->k<=n->Pu f (S.OS n co k) (T.Ox z e k)/\(S.OS n co k).nodes.length=n:=by
 induction k with
 | zero=>exact λh hn _ _=>⟨h,hn⟩
 | succ k ih =>
  intro S T h hn hF hk;have e0:T.Ox z e (k+1)=(T.Ox z e k).tick z e k:=by unfold X.Sg.Ox;rw [dp,eZ];rfl
  have e1:S.OS n co (k+1)=(S.OS n co k).Pa n co k:=Ni;rw [e0] at hF ⊢;rw [e1];have hF1:=(X.rq (z:=z) (e:=e) k).fine hF;obtain ⟨h2,h3⟩:=ih h hn hF1 az;exact ⟨h2.tick hz he h3 hF1 k az,(Ap _ _).trans h3⟩
include hf
theorem Pu.bring (h:Pu f S T) (hn:S.nodes.length=n) (m:X.Ms ρ) (hF:X.ju (T.bring z e m)) (hd:m.dst.toNat<n) (hb:m.B.length<=20):Pu f (S.Pt n co (du f m)) (T.bring z e m):=by
 have hl:T.nodes.length=n:=h.len.trans hn;have ZT:=(X.sX m).fine hF;have e1:(du f m).dst=m.dst:=rfl;unfold Mn.Pt;unfold X.Sg.bring at hF ⊢;rw [e1,h.up _ az];cases hu:T.Qn m.dst.toNat with
 | false=>exact h
 | true =>
  rw [hu] at hF;refine h.turn hz hn _ hd hu (ov hz he hf (h.nd _ az hu) (by have:=(ZT m.dst.toNat az).2;omega) m hb ?_);have h1:=hF m.dst.toNat (by simp [X.Sg.turn];omega);have h2:(T.turn z m.dst.toNat (X.get z e (T.at m.dst.toNat) m)).at m.dst.toNat=(X.get z e (T.at m.dst.toNat) m).2:=by
   have:=X.px T.nodes m.dst.toNat m.dst.toNat (X.get z e (T.at m.dst.toNat) m).2 (X.new 0 1) az;rw [ay rfl] at this;exact this
  simp only [if_true] at h1;rw [h2] at h1;exact h1.1
theorem Pu.drain (k:Nat):∀{S:Mn} {T:X.Sg ρ},Pu f S T->OO n cl lv S->X.ju (T.drain z e k)->Pu f (S.Pd n co k) (T.drain z e k):=by
 induction k with
 | zero=>exact λh _ _=>h
 | succ k ih =>
  intro S T h hi hF;obtain ⟨Sn,Sq,Sl,Sb,Sg⟩:=S;obtain ⟨Tn,Tu,Tq,Tl⟩:=T;have hq:=h.q;subst hq;cases Tq with
  | nil=>exact h
  | cons m q =>
   have hF2:X.ju (X.Sg.drain z e k (X.Sg.bring z e ⟨Tn,Tu,q,Tl⟩ m)):=hF;have hF1:=(X.j9 k _).fine hF2;obtain ⟨fr,T7,hg⟩:=hi.sv.q (du f m) bd;have h0:Pu f ⟨Sn,q.map (du f),Sl,Sb,Sg⟩ (⟨Tn,Tu,q,Tl⟩:X.Sg ρ):=⟨rfl,h.long,h.bad,h.len,h.ul,h.up,h.nd,h.dn⟩
   have hb0:OO n cl lv ⟨Sn,q.map (du f),Sl,Sb,Sg⟩:=hi.ofq (q:=q.map (du f)) (λx hx=>aM _ hx) (by have:=hi.sv.ql;simp only [bJ,aX] at this;omega);have d0:=hg.d0;have dn:=hg.dn;have e1:(du f m).dst=m.dst:=rfl;rw [e1] at d0 dn;have h1:=Pu.bring hz he hf h0 hb0.sv.nl m hF1 az (by have:=hg.bl;have e1:(du f m).B.length=m.B.length:=aW _;omega);exact ih h1 (hb0.Pt co _ hg.d0 hg.dn) hF2
theorem Pu.calm (r:Nat):∀{cl:Nat} {S:Mn} {T:X.Sg ρ},Pu f S T->OO n cl lv S->X.ju (T.calm z e n r)->Pu f (Mn.OI n co r S) (T.calm z e n r):=by
 induction r with
 | zero=>exact λh _ _=>h
 | succ r ih =>
  intro cl S T h hi hF;have hF1:X.ju ((T.Ox z e n).drain z e 3000):=(X.rt n r _).fine hF;obtain ⟨h1,_⟩:=Pu.Ox hz he n h hi.sv.nl ((X.j9 3000 _).fine hF1) (ah _);have hb1:=hi.OS (ct:=co) n (ah _);exact ih (Pu.drain hz he hf 3000 h1 hb1 hF1) (hb1.Pd 3000) hF
end
end
namespace X
section
variable {ρ:Type} {z:ρ->Bool} {e:ρ}
end
theorem Ii {T:Sg Nat} (h:T.fine=true):ju T:=by
 intro i hi;unfold Sg.fine at h;rw [eB] at h;have h1:=h (T.at i) (by
  unfold Sg.at;rw [aL,cf hi];exact cW hi)
 simpa using h1
end X
section
variable {ρ:Type} {f:ρ->List UInt8} {z:ρ->Bool} {e:ρ} {n cl lv:Nat} {S:Mn} {T:X.Sg ρ}
theorem Bv (h:Pu f S T) (hn:S.nodes.length=n) (m:Nat):∀i,i+m=n->gj S m i=X.sR (T.nodes.drop i) (T.Vr.drop i) i:=by
 induction m with
 | zero =>
  intro i hi;rw [F7 (by rw [h.len];omega)];rfl
 | succ m ih =>
  intro i hi;have h1:i<T.nodes.length:=by rw [h.len];omega
  have h2:i<T.Vr.length:=by rw [h.ul];omega
  have e1:T.at i=T.nodes[i]:=by unfold X.Sg.at;simp [aL,h1]
  have e2:T.Qn i=T.Vr[i]:=by unfold X.Sg.Qn;simp [aL,h2]
  have hu:=h.up i h1;have PO:=h.nd i h1;rw [e2] at hu PO;rw [e1] at PO;rw [dP h1,dP h2];unfold gj X.sR;rw [hu];cases XY:T.Vr[i] with
  | false=>simp only [uQ,bk,if_false];exact ih (i+1) az
  | true =>
   rw [(PO XY).u.Oy];split
   ·rfl
   ·exact ih (i+1) az
theorem EA {ns:List (X.Nd ρ)}:∀{us:List Bool} {i k:Nat},X.sR ns us i=some k->i<=k/\k<i+ns.length/\us.getD (k - i) false=true:=by
 induction ns with
 | nil=>intro us i k h;cases us<;>cases h
 | cons s l ih =>
  intro us i k h;cases us with
  | nil=>cases h
  | cons u us =>
   unfold X.sR at h;split at h
   ·grind
   ·grind
theorem Pu.lead (h:Pu f S T) (hn:S.nodes.length=n):gj S n 0=T.lead:=by
 have:=Bv h hn n 0 az;exact this
theorem Pu.lead_up (h:Pu f S T) (hn:S.nodes.length=n) {k:Nat} (hk:T.lead=some k):k<n/\T.Qn k=true:=by
 obtain ⟨h1,h2,h3⟩:=EA hk;exact ⟨by rw [h.len,hn] at h2;omega,h3⟩
theorem Pu.PY (hz:∀x,z x=(f x).isEmpty) (h:Pu f S T) (hn:S.nodes.length=n) (hF:X.ju T) (i:Nat) (hi:i<n) (hu:T.Qn i=true) (x:ρ) (hx:(f x).length<=300) (hne:z x=false):Pu f (S.OT n co i (f x)) (T.PY z i x)/\((X.OH z (T.at i) x).2.1=true->(bF (S.at i).s (S.at i).k (f x)).2.1=0):=by
 have hl:T.nodes.length=n:=h.len.trans hn;obtain ⟨er,e1,e2,e3⟩:=kq hz (h.nd i az hu) (by have:=(hF i az).2;omega) x hx hne;unfold Mn.OT X.Sg.PY;rw [h.up i az,hu];refine ⟨h.turn hz hn i hi hu (p:=((bF (S.at i).s (S.at i).k (f x)).1,(bF (S.at i).s (S.at i).k (f x)).2.2.1,(bF (S.at i).s (S.at i).k (f x)).2.2.2)) (q:=((X.OH z (T.at i) x).1,(X.OH z (T.at i) x).2.2)) ⟨by simp only;rw [e1],e3⟩,λg=>?_⟩;rw [e1];exact e2.2 g
end
theorem FB {n:Nat} {f:Nat->List UInt8} (hz:∀x,X.zG x=(f x).isEmpty) {S:Mn} {T:X.Sg Nat} (h:Pu f S T) (hn:S.nodes.length=n) {j:Nat} (ht:T.told j=true) {i:Nat} (hi:i<n):(S.at i).up=true/\de (S.at i).s=(List.range j).map λx=>f (x+1):=by
 have hl:T.nodes.length=n:=h.len.trans hn;unfold X.Sg.told at ht;rw [bu,eB,eB] at ht;have hu:T.Qn i=true:=by
  have:=ht.1 (T.Qn i) (by
   unfold X.Sg.Qn;rw [aL,cf (by rw [h.ul];omega)];exact cW _)
  exact this
 have ha:=ht.2 (T.at i) (by
  unfold X.Sg.at;rw [aL,cf az];exact cW _)
 refine ⟨(h.up i az).trans hu,?_⟩;rw [pV hz (h.nd i az hu),cE.1 ha,tx];rfl
theorem uw {ρ:Type} (f:ρ->List UInt8) (n:Nat):Pu f (Mn.begun n) (X.Sg.begun n):=by
 have hl:(X.Sg.begun n:X.Sg ρ).nodes.length=n:=by simp [X.Sg.begun]
 have hat:∀i,i<n->(X.Sg.begun n:X.Sg ρ).at i=X.new i n:=λi hi=>by
  unfold X.Sg.at X.Sg.begun;simp [aL,hi]
 have QW:∀i,i<n->(X.Sg.begun n:X.Sg ρ).Qn i=true:=λi hi=>by
  unfold X.Sg.Qn X.Sg.begun;simp [aL,hi]
 refine ⟨rfl,rfl,rfl,by rw [hl];simp [Mn.begun],by simp [Mn.begun,X.Sg.begun],λi hi=>?_,λi hi _=>?_,λi hi hu=>?_⟩
 ·rw [hl] at hi;rw [ic n i hi,QW i hi];rfl
 ·rw [hl] at hi;rw [ic n i hi,hat i hi];exact MD
 ·rw [hl] at hi;rw [QW i hi] at hu;cases hu
namespace X
structure AwkOk (k:Nat) (S S2:Sg Nat):Prop where
 s:S=Sg.calm zG 0 3 60 (Sg.begun 3)
 lead:S.lead=some k
 sub:(X.OH zG (S.at k) 1).2.1=true
 s2:S2=Sg.calm zG 0 3 10 (S.PY zG k 1)
 fine:ju S2
 told:S2.told 1=true
 long:S2.long=[1]
theorem Iy:∃k S S2,AwkOk k S S2:=by
 have h:=Ly;unfold NG at h;simp only at h;cases h1:Sg.lead (Sg.calm zG 0 3 60 (Sg.begun 3)) with
 | none=>rw [h1] at h;cases h
 | some k =>
  rw [h1] at h;simp only [bu] at h;obtain ⟨a1,a2,a3,a4⟩:=h;exact ⟨k,_,_,rfl,h1,a1,rfl,Ii a2,a3,cE.1 a4⟩
end X
def sh (x:Nat):List UInt8:=if x=0 then [] else [120]
theorem pb (x:Nat):X.zG x=(sh x).isEmpty:=by
 unfold X.zG sh;by_cases h:x=0
 ·subst h;rfl
 ·rw [am h];simp [h]
theorem nZ (x:Nat):(sh x).length<=300:=by
 unfold sh;split<;>simp
structure AwkM (k:Nat) (S S2:Mn):Prop where
 s:S=Mn.OI 3 co 60 (Mn.begun 3)
 kn:k<3
 lead:gj S 3 0=some k
 up:(S.at k).up=true
 ok:(bF (S.at k).s (S.at k).k [120]).2.1=0
 s2:S2=Mn.OI 3 co 10 (S.OT 3 co k [120])
 told:∀i,i<3->(S2.at i).up=true/\de (S2.at i).s=[[120]]
 long:S2.long=[[120]]
theorem lz:ey ([]:Pn)=co:=by funext m;rfl
theorem B4 (n:Nat) (ct:OM->Bool) (t:Nat):∀S:Mn,Mn.OI n ct (t+1) S=((Mn.OI n ct t S).OS n ct n).Pd n ct 3000:=by
 induction t with
 | zero=>intro S;rfl
 | succ t ih=>intro S;exact ih ((S.OS n ct n).Pd n ct 3000)
def Mn.Rs (n:Nat) (ct:OM->Bool) (S:Mn):Mn:=match S.q with
 | []=>S
 | m::q=>({ S with q:=q }:Mn).Pt n ct m
theorem BS {n:Nat} {ct:OM->Bool} {S:Mn} (h:S.q=[]):S.Rs n ct=S:=by unfold Mn.Rs;rw [h]
theorem lx (n:Nat) (ct:OM->Bool) (f:Nat) (S:Mn):Mn.Pd n ct (f+1) S=Mn.Pd n ct f (S.Rs n ct):=by
 unfold Mn.Rs;show (match S.q with | []=>S | m::q=>Mn.Pd n ct f (({ S with q:=q }:Mn).Pt n ct m))=_;cases hq:S.q with
 | nil =>
  cases f with
  | zero=>rfl
  | succ f=>show S=(match S.q with | []=>S | m::q=>Mn.Pd n ct f (({ S with q:=q }:Mn).Pt n ct m));rw [hq]
 | cons m q=>rfl
theorem rz (n:Nat) (ct:OM->Bool) (f:Nat):∀S:Mn,Mn.Pd n ct (f+1) S=(Mn.Pd n ct f S).Rs n ct:=by
 induction f with
 | zero=>intro S;rw [lx];rfl
 | succ f ih=>intro S;rw [lx,ih,lx]
theorem yL (n:Nat) (ct:OM->Bool) (f:Nat) (S:Mn) (h:(Mn.Pd n ct f S).q=[]):∀d,Mn.Pd n ct (f+d) S=Mn.Pd n ct f S:=by
 intro d;induction d with
 | zero=>rfl
 | succ d ih=>rw [show f+(d+1)=(f+d)+1 by omega,rz,ih,BS h]
theorem uX (n:Nat) (ct:OM->Bool) (S:Mn) (k:Nat):S.OS n ct (k+1)=(S.OS n ct k).Pa n ct k:=IU
structure PR (n r:Nat) (S:Mn):Prop where
 tk:∀t,t<r->∀k,k<=n->dC n ((Mn.OI n co t S).OS n co k)
 dr:∀t,t<r->∀d,d<=3000->dC n (((Mn.OI n co t S).OS n co n).Pd n co d)
section
variable {w w' w2:World} {A A' X Y Y' Z Z':List Nat} {g n cl lvv:Nat} {S:Mn} {es es':Pn} {os rs ds ls:Nat->Nat} {Xs:Nat->List Nat} {vl:Value} {nb mb Q8:Nat} {qv lv TW pn:Value} {q':List OM} {r d l:Nat} {s:Rp} {k:Dk}
theorem Ia (h:Gy w A Z g n S []) (hb:OO n cl lvv S) (hd:dC n S) (hq:S.q≠[]) (PJ:dC n (S.Rs n co)) :
  Calls Tryz.prog 20 #[.pointer (some ⟨g,0,none⟩),.int .i64 0] w λe w'=>e = .returned (.bool true)/\Px w w' A Z g n (S.Rs n co) []:=by
 cases hS:S.q with
 | nil=>exact absurd hS hq
 | cons m q =>
  have e1:S.Rs n co=(S.Pb 0).Pt n (ey []) m:=by
   unfold Mn.Rs Mn.Pb;rw [hS,lz];rfl
  rw [e1] at PJ ⊢;exact zR h hb hd 0 m (by rw [hS];rfl) PJ
theorem N5 (h:Gy w A Z g n S es):∃nb,w.cell? ⟨g,1,none⟩=some (.pointer (some ⟨nb,0,none⟩))/\Calls Tryz.prog 32 #[.pointer (some ⟨nb,0,none⟩)] w λe w'=>e = .returned (.int .i64 (S.q.length:Int))/\w=w':=by
 obtain ⟨Y,os,rs,ds,ls,Xs,vl,nb,mb,qv,lv,h,hz⟩:=h;obtain ⟨ao,c,e1,Qk⟩:=h.nt.shape;exact ⟨nb,by rw [ap h.cell];rfl,DN Qk⟩
theorem Gy.lcell (h:Gy w A Z g n S es):∃ao cr,w.cell? ⟨g,0,none⟩=some (.slice ao n cr):=by
 obtain ⟨Y,os,rs,ds,ls,Xs,vl,nb,mb,qv,lv,h,hz⟩:=h;obtain ⟨ar,cr,e1,_,_⟩:=ej h.lr;subst e1;exact ⟨ar,cr,by rw [ap h.cell];rfl⟩
theorem Lk (h:Gy w A Z g n S es) (nb:Nat) (hn:w.cell? ⟨g,1,none⟩=some (.pointer (some ⟨nb,0,none⟩))):Calls Tryz.prog 31 #[.pointer (some ⟨nb,0,none⟩)] w λe w'=>e = .returned (.tuple #[])/\Px w w' A Z g n S []:=by
 obtain ⟨Y,os,rs,ds,ls,Xs,vl,nb',mb,qv,lv,h,hz⟩:=h;have e1:w.cell? ⟨g,1,none⟩=some (fq nb'):=mU;rw [hn] at e1;have:nb'=nb:=KR;subst this;refine (Bg h.nt).mono ?_;rintro e w1 ⟨rfl,hp⟩;exact ⟨rfl,Gy.Yw h hz hp⟩
theorem uv (h:Gy w A Z g n S es) (hb:OO n cl lvv S) (r:Nat) (hr:r<=10000) (Sw:cl+r*n<=999999) (Qo:PR n r S) :
  Calls Tryz.prog 14 #[.pointer (some ⟨g,0,none⟩),.int .i64 (r:Int)] w λe w'=>e = .returned (.tuple #[])/\Px w w' A Z g n (Mn.OI n co r S) []:=by
 have O8:=hb.n5;obtain ⟨nb,c1⟩:=h.nb;have HH:=af (Lk h nb c1);have HTN:Hid (∀t,t<r->cl+t*n+n<=999999):=af λt ht=>by
  have:=jM n (show t+1<=r by omega);rw [nD] at this;omega
 have HTICK:Hid (∀t,t<r->∀j,j<n->∀w2,Px w w2 A Z g n ((Mn.OI n co t S).OS n co j) []->Calls Tryz.prog 19 #[.pointer (some ⟨g,0,none⟩),.int .i64 (j:Int)] w2 λe w'=>(∃b,e = .returned (.bool b))/\Px w w' A Z g n ((Mn.OI n co t S).OS n co (j+1)) []):=af λt ht j hj w2 h2=>by
  obtain ⟨A2,Z2,h2,m2⟩:=h2;have hbt:=(hb.OI (ct:=co) t).OS (ct:=co) j az;have PJ:=Qo.tk t ht (j+1) az;rw [uX] at PJ ⊢;rw [<-lz] at PJ ⊢;have:=HTN.out t ht;exact (E5 h2 hbt (Qo.tk t ht j az) az j hj (by rw [lz] at PJ ⊢;exact PJ)).mono λe w3 ⟨e1,e2⟩=>⟨⟨_,e1⟩,Px.trans m2 (by rw [lz] at e2 ⊢;exact e2)⟩
 have HBR:Hid (∀t,t<r->∀f,f<3000->∀w2,Px w w2 A Z g n (((Mn.OI n co t S).OS n co n).Pd n co f) []->(((Mn.OI n co t S).OS n co n).Pd n co f).q≠[]->Calls Tryz.prog 20 #[.pointer (some ⟨g,0,none⟩),.int .i64 0] w2 λe w'=>e = .returned (.bool true)/\Px w w' A Z g n (((Mn.OI n co t S).OS n co n).Pd n co (f+1)) []):=af λt ht f hf w2 h2 hq=>by
  obtain ⟨A2,Z2,h2,m2⟩:=h2;have hbt:=((hb.OI (ct:=co) t).OS (ct:=co) n (ah _)).Pd (ct:=co) f;have PJ:=Qo.dr t ht (f+1) az;rw [rz] at PJ ⊢;exact (Ia h2 hbt (Qo.dr t ht f az) hq PJ).mono λe w3 ⟨e1,e2⟩=>⟨e1,Px.trans m2 e2⟩
 have HLEN:Hid (∀(D:Mn) w2,Px w w2 A Z g n D []->∃nb,w2.cell? ⟨g,1,none⟩=some (.pointer (some ⟨nb,0,none⟩))/\Calls Tryz.prog 32 #[.pointer (some ⟨nb,0,none⟩)] w2 λe w'=>e = .returned (.int .i64 (D.q.length:Int))/\w2=w'):=af λD w2 h2=>by
  obtain ⟨A2,Z2,h2,m2⟩:=h2;exact N5 h2
 have HGL:Hid (∀(D:Mn) w2,Px w w2 A Z g n D []->∃ao cr,w2.cell? ⟨g,0,none⟩=some (.slice ao n cr)):=af λD w2 h2=>by
  obtain ⟨A2,Z2,h2,m2⟩:=h2;exact h2.lcell
 have HQL:Hid (∀t,t<r->∀f,(((Mn.OI n co t S).OS n co n).Pd n co f).q.length<=2000):=af λt ht f=>(((hb.OI (ct:=co) t).OS (ct:=co) n (ah _)).Pd (ct:=co) f).sv.ql;have q1:min (r:Int) 10000=(r:Int):=az;clear h hb Sw Qo;go_enter Tryz.func14,Tryz.ntmps14
 go_wp2_with fail
 refine HH.out.mono ?_;rintro e w1 ⟨rfl,h1⟩;have H1:=af h1;clear h1 c1;go_wp2_with fail
 go_loopw [13] (λi wr=>∃(t:Nat),t<=r/\i = .int .i64 (t:Int)/\Px w wr A Z g n (Mn.OI n co t S) []) (λi _=>r - (intOf i).toNat)
 case atStart=>exact ⟨0,aH _,rfl,H1.out⟩
 case round =>
  obtain ⟨t,ht,rfl,hsy⟩:=hrel;have ZW:=af hsy;clear hsy;have q6:IntKind.i64.wrap ((t:Int)+1)=(t:Int)+1:=IntWalk.i64_in _ az;by_cases hlt:t<r
  ·have R2:(t:Int)<(r:Int):=by omega
   have Wq:=af (HTICK.out t hlt);have HBT:=af (HBR.out t hlt);have HQT:=af (HQL.out t hlt);have Wv:=af (B4 n co t S);generalize Mn.OI n co t S=T at *;obtain ⟨ao,cr,c0⟩:=HGL.out _ _ ZW.out;go_wp2_with fail
   go_loopw [20] (λi w2=>∃j:Nat,j<=n/\i = .int .i64 (j:Int)/\Px w w2 A Z g n (T.OS n co j) []) (λi _=>n - (intOf i).toNat)
   case atStart=>exact ⟨0,aH _,rfl,ZW.out⟩
   case round =>
    obtain ⟨j,hj,rfl,h2⟩:=hrel;have q7:IntKind.i64.wrap ((j:Int)+1)=(j:Int)+1:=IntWalk.i64_in _ az;by_cases Vv:j<n
    ·rename World=>w2;have HC:=af (Wq.out j Vv _ h2);go_wp2_with fail
     refine HC.out.mono ?_;rintro e w3 ⟨⟨b,rfl⟩,h3⟩;have H3:=af h3;go_wp2_with fail
     go_roundw
     case rel=>exact ⟨j+1,by omega,by simp,H3.out⟩
     case measure=>simp [intOf];omega
    ·obtain rfl:j=n:=by omega
     have H2:=af h2;clear h2 c0;go_wp2_with fail
     go_loopw [5] (λi w2=>∃f:Nat,f<=3000/\i = .int .i64 (f:Int)/\Px w w2 A Z g j ((T.OS j co j).Pd j co f) []) (λi _=>3000 - (intOf i).toNat)
     case atStart=>exact ⟨0,by omega,rfl,H2.out⟩
     case round =>
      obtain ⟨f,hf,rfl,h4⟩:=hrel;have q8:IntKind.i64.wrap ((f:Int)+1)=(f:Int)+1:=IntWalk.i64_in _ az;by_cases hf4:f<3000
      ·have hf5:(f:Int)<3000:=by omega
       obtain ⟨nb2,c1,hlen⟩:=HLEN.out _ _ h4;have HL:=af hlen;have H4:=af h4;have HBF:=af (HBT.out f hf4 _ h4);have HQF:=af (HQT.out f);have HST:=af (yL j co f (T.OS j co j));have HD1:Hid ((T.OS j co j).Pd j co (f+1)=(T.OS j co j).Pd j co (f+1)):=af rfl;clear h4 hlen;generalize hD:(T.OS j co j).Pd j co f=D at *;by_cases hq0:D.q.length=0
       ·have HE:=af (HST.out (bP.1 hq0) (3000 - f));rw [hq0] at HL;have HF:Hid (Px w wr A Z g j (Mn.OI j co (t+1) S) []):=af (by
         have e9:=HE.out;rw [show f+(3000 - f)=3000 by omega] at e9;rw [Wv.out,e9];exact H4.out)
        clear hq0 hD;go_wp2_with fail
        refine HL.out.mono ?_;rintro e w5 ⟨rfl,rfl⟩;exact L6
       ·have HBC:=af (HBF.out (λe=>hq0 (by rw [e];rfl)));have Vb:(0:Int)<(D.q.length:Int):=az;clear hq0 hD;generalize D.q.length=ql at *;go_wp2_with fail
        refine HL.out.mono ?_;rintro e w5 ⟨rfl,rfl⟩;go_wp2_with fail
        refine HBC.out.mono ?_;rintro e w6 ⟨rfl,h6⟩;have H6:=af h6;clear h6;go_wp2_with fail
        go_roundw
        case rel=>exact ⟨f+1,by omega,by simp,H6.out⟩
        case measure=>simp [intOf];omega
      ·obtain rfl:f=3000:=by omega
       have HF:Hid (Px w wr A Z g j (Mn.OI j co (t+1) S) []):=af (by
        rw [Wv.out];exact h4)
       clear h4;exact L6
  ·obtain rfl:t=r:=by omega
   go_wp2_with fail
   go_end0
   exact ⟨rfl,ZW.out⟩
end
namespace X
section
variable {ρ:Type} {z:ρ->Bool} {e:ρ} {T:Sg ρ}
theorem C3 (n:Nat):∀d k,k+d=n->Sp (T.Ox z e k) (T.Ox z e n):=by
 intro d;induction d generalizing n with
 | zero=>intro k h;rw [show k=n by omega];exact Sp.refl _
 | succ d ih =>
  intro k h;have h1:=ih (n - 1) k az;have h2:T.Ox z e n=(T.Ox z e (n - 1)).tick z e (n - 1):=by
   rw [show n=(n - 1)+1 by omega];unfold Sg.Ox;rw [dp,eZ];rfl
  rw [h2];exact h1.trans (rq _)
theorem mA (k:Nat) (T:Sg ρ) (h:T.q=[]):T.drain z e k=T:=by
 cases k with
 | zero=>rfl
 | succ k=>unfold Sg.drain;rw [h]
theorem xK (x:Nat):∀(d:Nat) (T:Sg ρ),T.drain z e (d+x)=(T.drain z e d).drain z e x:=by
 intro d;induction d with
 | zero=>intro T;rw [cB];rfl
 | succ d ih =>
  intro T;rw [show d+1+x=(d+x)+1 by omega];cases hq:T.q with
  | nil=>rw [mA _ T hq,mA _ T hq,mA _ T hq]
  | cons m q =>
   have e1:∀y,T.drain z e (y+1)=(Sg.bring z e { T with q:=q } m).drain z e y:=λy=>by
    grind [Sg.drain,Sg.bring]
   rw [e1,e1];exact ih _
theorem Fw (d k:Nat) (h:d<=k):Sp (T.drain z e d) (T.drain z e k):=by
 rw [show k=d+(k - d) by omega,xK];exact j9 _ _
end
end X
section
variable {ρ:Type} {f:ρ->List UInt8} {z:ρ->Bool} {e:ρ} {n cl lv:Nat} {S:Mn} {T:X.Sg ρ}
theorem Pu.Ps (h:Pu f S T) (hn:S.nodes.length=n):dC n S:=λi hi hu =>
 have hl:i<T.nodes.length:=by rw [h.len,hn];exact hi
 (h.nd i hl ((h.up i hl).symm.trans hu)).u.done
theorem Pu.Za (hz:∀x,z x=(f x).isEmpty) (he:f e=[]) (hf:∀x,(f x).length<=300) (r:Nat):∀{cl:Nat} {S:Mn} {T:X.Sg ρ},Pu f S T->OO n cl lv S->X.ju (T.calm z e n r)->PR n r S:=by
 induction r with
 | zero=>intro cl S T _ _ _;exact ⟨λt ht=>by omega,λt ht=>by omega⟩
 | succ r ih =>
  intro cl S T h hb hF;have ZT:X.ju ((T.Ox z e n).drain z e 3000):=(X.rt n r _).fine hF;have hFt:X.ju (T.Ox z e n):=(X.j9 3000 _).fine ZT;obtain ⟨h1,h2⟩:=Pu.Ox hz he n h hb.sv.nl hFt (ah _);have b1:=hb.OS (ct:=co) n (ah _);have h3:=Pu.drain hz he hf 3000 h1 b1 ZT;have b3:=b1.Pd (ct:=co) 3000;have hi:=ih h3 b3 hF;refine ⟨λt ht k hk=>?_,λt ht d hd=>?_⟩
  ·cases t with
   | zero =>
    obtain ⟨g1,g2⟩:=Pu.Ox hz he k h hb.sv.nl ((X.C3 n (n - k) k az).fine hFt) hk;exact g1.Ps g2
   | succ t=>exact hi.tk t az k hk
  ·cases t with
   | zero =>
    have g1:=Pu.drain hz he hf d h1 b1 ((X.Fw d 3000 hd).fine ZT);exact g1.Ps (b1.Pd (ct:=co) d).sv.nl
   | succ t=>exact hi.dr t az d hd
end
structure AwkD (k:Nat) (S S2:Mn):Prop where
 c1:PR 3 60 (Mn.begun 3)
 d0:dC 3 (Mn.begun 3)
 d1:dC 3 S
 d2:dC 3 (S.OT 3 co k [120])
 c2:PR 3 10 (S.OT 3 co k [120])
 d3:dC 3 S2
theorem NF:∃k S S2,AwkM k S S2/\AwkD k S S2:=by
 obtain ⟨k,T,T2,o⟩:=X.Iy;have he:sh 0=[]:=rfl;have hF2:=o.fine;rw [o.s2] at hF2;have hFs:=(X.rt 3 10 _).fine hF2;have ZT:=(X.E8 (z:=X.zG) k 1).fine hFs;have hF00:=ZT;rw [o.s] at hF00;have b0:=nk 3 az az;have r0:Pu sh (Mn.OI 3 co 60 (Mn.begun 3)) T:=by
  rw [o.s] at ZT ⊢;exact (uw sh 3).calm pb he nZ 60 b0 ZT
 have b1:=b0.OI (ct:=co) 60;obtain ⟨VV,hku⟩:=r0.lead_up b1.sv.nl o.lead;obtain ⟨r1,r2⟩:=r0.PY pb b1.sv.nl ZT k VV hku 1 (nZ _) rfl;have b2:=b1.OT co k VV (sh 1);have r3:=r1.calm pb he nZ 10 b2 hF2;have k3:=Pu.Za pb he nZ 10 r1 b2 hF2;rw [<-o.s2] at r3;have b3:=b2.OI (ct:=co) 10;refine ⟨k,_,_,⟨rfl,VV,(r0.lead b1.sv.nl).trans o.lead,(r0.up k (by rw [r0.len,b1.sv.nl];exact VV)).trans hku,r2 o.sub,rfl,λi hi=>?_,?_⟩,⟨Pu.Za pb he nZ 60 (uw sh 3) b0 hF00,(uw sh 3).Ps b0.sv.nl,r0.Ps b1.sv.nl,r1.Ps b2.sv.nl,k3,r3.Ps b3.sv.nl⟩⟩
 ·exact FB pb r3 b3.sv.nl o.told hi
 ·have:=r3.long;rw [o.long] at this;exact this
section
variable {ρ:Type} {z:ρ->Bool} {n a c:Nat} {T:X.Cs ρ} {q:List (X.Ms ρ)}
theorem X.room6:∀c,c<151->(150 - c)*min 20 c+c<=2620:=KK
theorem X.AI.cnt5 (h:X.AI z n a c T) (ha:a<=150) {i:Nat} (hi:i<n):(T.nd i).cnt<=2990:=by
 have h1:=h.pl i hi;have h2:(a - c)*min 20 c+c<=2620:=by
  have h3:=X.room6 c (by have:=h.ca;omega);have:=jM (min 20 c) (show a - c<=150 - c by omega);omega
 have h3:=X.qL (T.nd i);obtain ⟨G,hG⟩:=h.wk;have:=hG.tb i hi;omega
theorem X.AI.sub (h:X.AI z n a c T) (hq:∀x∈q,x∈T.q) (hl:q.length<=T.q.length):X.AI z n a c (T.wq q) :=
 ⟨h.wk.Yu hq,aF hl h.ql,h.ca,h.lg,λm hm=>h.ms m (hq m hm),λm hm=>h.b20 m (hq m hm),h.pl⟩
end
structure Gs (n a:Nat) (S:Mn) (T:X.Cs Rec):Prop where
 rel:Pq cD n S T
 long:S.long=(X.recs bG T.lo).map cD
 ai:∃c,X.AI bG n a c T
 pre:∀i,i<n->(S.at i).up=true->de (S.at i).s <+: S.long
section
variable {n a c cl lv:Nat} {S S1:Mn} {T T1:X.Cs Rec}
theorem kW {i:Nat} (h:Pq cD n S T) (hi:i<n) (hu:T.up i=true):de (S.at i).s=(X.recs bG (X.tells (T.nd i))).map cD:=by
 have hr:=h.nd i hi hu;unfold de X.tells;rw [hr.u.Oz,hr.u.agreed,<-jv,vn jj]
theorem Gs.tell (h:Pq cD n S T) (hL:S.long=(X.recs bG T.lo).map cD) (ha:X.AI bG n a c T):(∃T',Gs n a (S.tell n) T')/\S.long <+: (S.tell n).long:=by
 obtain ⟨G,hG⟩:=ha.wk;obtain ⟨h1,h2,h3,h4⟩:=yi jj h hG n 0 T.lo az hG.lo;rw [<-hL] at h1;have hl:(S.tell n).long=(X.recs bG (X.QO bG T n 0 T.lo)).map cD:=h1;refine ⟨⟨T.Uj (X.QO bG T n 0 T.lo),h.tell _,hl,⟨c,ha.Uj ⟨G,hG.gi,hG.ni,hG.ln,hG.mi,hG.up,hG.tb,h2⟩⟩,λi hi hu=>?_⟩,?_⟩
 ·exact KF
 ·rw [hl,hL];exact h3.map cD
theorem Gs.same (h:Gs n a S T) (hr:Pq cD n S1 T1) (ha:X.AI bG n (a+1) c T1) (hl:S1.long=S.long) (Up:T1.lo=T.lo) (hp:∀i,i<n->(S1.at i).up=true->de (S1.at i).s <+: S.long):(∃T',Gs n (a+1) S1 T')/\S.long <+: S1.long :=
 ⟨⟨T1,hr,by rw [hl,Up];exact h.long,⟨c,ha⟩,by rw [hl];exact hp⟩,by rw [hl];exact gk _⟩
theorem Gs.more (h:Gs n a S T):(∃T',Gs n (a+1) S T')/\S.long <+: S.long:=by
 obtain ⟨c,hc⟩:=h.ai;exact h.same (T1:=T) h.rel (hc.twice (q:=T.q) (λx hx=>hx) (cZ _)) rfl rfl h.pre
theorem mz (ct:OM->Bool) (i:Nat) (nd:Wo) (ms:List OM):((S.set i nd).TB ct ms).long=S.long:=rfl
theorem Gs.turn (ct:OM->Bool) (hr:Pq cD n S T) (hL:S.long=(X.recs bG T.lo).map cD) {i:Nat} (hi:i<n) (hu:T.up i=true) {p:List OM×Rp×Dk} {q:List (X.Ms Rec)×X.Nd Rec} (hp:Qf cD p q) (ha:X.AI bG n a c (T.call i q)) (h5:a<=150):(∃T',Gs n a (S.Pj n ct i p) T')/\S.long <+: (S.Pj n ct i p).long:=by
 obtain ⟨q1,h1,h2,h3⟩:=hr.Pj ct i hi hu hp (by have:=ha.ql;omega);exact Gs.tell h1 (by rw [mz];exact hL) (ha.sub h2 h3)
theorem Gs.tick (h:Gs n a S T) (ct:OM->Bool) (ha:a<150) (hn:n<=5) (i:Nat) (hi:i<n):(∃T',Gs n (a+1) (S.Pa n ct i) T')/\S.long <+: (S.Pa n ct i).long:=by
 obtain ⟨c,hc⟩:=h.ai;unfold Mn.Pa;rw [h.rel.up i hi];cases hu:T.up i with
 | false=>exact h.more
 | true =>
  obtain ⟨c',h1⟩:=hc.tick (e:=cU) hn az hi;unfold X.Cs.tick at h1;rw [ay hu] at h1;exact Gs.turn ct h.rel h.long hi hu (kX jj rfl (h.rel.nd i hi hu) He) h1 az
theorem Gs.PY (h:Gs n a S T) (ct:OM->Bool) (ha:a<150) (hn:n<=5) (i:Nat) (hi:i<n) (rec:List UInt8) (hr:rec.length<=300):(∃T',Gs n (a+1) (S.OT n ct i rec) T')/\S.long <+: (S.OT n ct i rec).long:=by
 obtain ⟨c,hc⟩:=h.ai;by_cases hB:rec=[]
 ·subst hB;unfold Mn.OT;rw [h.rel.up i hi];cases hu:T.up i with
  | false=>exact h.more
  | true =>
   have h0:=h.rel.none i hi;have e1:S.OH i []=S.set i ⟨(S.at i).s,(S.at i).k,true⟩:=by
    unfold Mn.OH;rw [h.rel.up i hi,hu];rfl
   rw [e1] at h0;exact Gs.tell (S:=S.set i ⟨(S.at i).s,(S.at i).k,true⟩) h0 h.long (hc.twice (q:=T.q) (λx hx=>hx) (cZ _))
 ·obtain ⟨x,x1,x2⟩:=xO rec hB hr;subst x1;unfold Mn.OT;rw [h.rel.up i hi];cases hu:T.up i with
  | false=>exact h.more
  | true =>
   obtain ⟨er,e1,e2,e3⟩:=kq jj (h.rel.nd i hi hu) He x (mE x) x2;have hp:Qf cD ((bF (S.at i).s (S.at i).k (cD x)).1,(bF (S.at i).s (S.at i).k (cD x)).2.2.1,(bF (S.at i).s (S.at i).k (cD x)).2.2.2) ((X.OH bG (T.nd i) x).1,(X.OH bG (T.nd i) x).2.2):=⟨by simp only;rw [e1],e3⟩
   have h9:=hc.PY hn hi x;unfold X.Cs.PY at h9;rw [ay hu] at h9;rcases h9 with h1 | h1
   ·exact Gs.turn ct h.rel h.long hi hu hp h1 az
   ·exact Gs.turn ct h.rel h.long hi hu hp h1 az
theorem lN (h:Pq cD n S T) (k:Nat):Pq cD n (S.Pb k) (T.wq (T.q.take k++T.q.drop (k+1))):=by
 have:=h.wq (T.q.take k++T.q.drop (k+1));rw [cy,jv,N6,<-h.q] at this;exact this
theorem jE (q:List (X.Ms Rec)) (k:Nat):∀x∈q.take k++q.drop (k+1),x∈q:=λx hx=>by
 rcases aA.1 hx with g | g
 ·exact fK g
 ·exact gV g
theorem qg (q:List (X.Ms Rec)) (k:Nat):(q.take k++q.drop (k+1)).length<=q.length:=by
 grind
theorem Gs.lose (h:Gs n a S T) (k:Nat):(∃T',Gs n (a+1) (S.Pb k) T')/\S.long <+: (S.Pb k).long:=by
 obtain ⟨c,hc⟩:=h.ai;exact h.same (lN h.rel k) (hc.twice (jE _ k) (by have:=qg T.q k;omega)) rfl rfl h.pre
theorem Gs.bring (h:Gs n a S T) (ct:OM->Bool) (ha:a<150) (hn:n<=5) (k:Nat) (m:OM) (hm:S.q[k]? = some m):(∃T',Gs n (a+1) ((S.Pb k).Pt n ct m) T')/\S.long <+: ((S.Pb k).Pt n ct m).long:=by
 obtain ⟨c,hc⟩:=h.ai;rw [h.rel.q,fT] at hm;cases Qb:T.q[k]? with
 | none=>rw [Qb] at hm;cases hm
 | some x =>
  rw [Qb] at hm;have hm:m=du cD x:=by simpa using hm.symm
  subst hm;have Rc:x∈T.q:=fL Qb;have QR:=lN h.rel k;obtain ⟨_,j,j1,j2,_⟩:=hc.wk.comes (e:=cU) az Rc (jE T.q k);have hd:x.dst.toNat<n:=az;obtain ⟨c',h1⟩:=hc.comes (e:=cU) hn az Rc (jE T.q k) (qg T.q k);unfold Mn.Pt;have e1:(du cD x).dst=x.dst:=rfl;rw [e1,QR.up _ hd];unfold X.Cs.bring at h1;cases hu:(T.wq (T.q.take k++T.q.drop (k+1))).up x.dst.toNat with
  | false =>
   rw [hu] at h1;exact h.same QR h1 rfl rfl h.pre
  | true =>
   rw [hu] at h1;simp only [if_true] at h1 ⊢;have PF:(X.get bG cU ((T.wq (T.q.take k++T.q.drop (k+1))).nd x.dst.toNat) x).2.bad=false:=JH;exact Gs.turn ct QR h.long hd hu (ov jj rfl mE (QR.nd _ hd hu) (hc.cnt5 az hd) x (hc.b20 x Rc) PF) h1 az
theorem Gs.copy (h:Gs n a S T) (ha:a<=400) (k:Nat):(∃T',Gs n (a+1) (S.Qr k) T')/\S.long <+: (S.Qr k).long:=by
 obtain ⟨c,hc⟩:=h.ai;unfold Mn.Qr;have hg:S.q[k]? = (T.q[k]?).map (du cD):=by rw [h.rel.q,fT]
 rw [hg];cases hm:T.q[k]? with
 | none=>exact h.more
 | some m =>
  have Rc:m∈T.q:=fL hm;have h1:=h.rel.wq (T.q++[m]);have h2:gF S.q (du cD m)=(T.q++[m]).map (du cD):=JC;rw [<-h2] at h1;refine h.same h1 (hc.twice (q:=T.q++[m]) (λx hx=>?_) bL) rfl rfl h.pre;rcases aA.1 hx with g | g
  ·exact g
  ·rw [aj.1 g];exact Rc
theorem Gs.Qm (h:Gs n a S T) (hi:OO n cl lv S) (i:Nat) (O9:i<n) (keep:Int):(∃T',Gs n (a+1) (S.PM i keep) T')/\S.long <+: (S.PM i keep).long:=by
 obtain ⟨c,hc⟩:=h.ai;unfold Mn.PM;split
 ·refine h.same (h.rel.Qm hi i O9 keep) (hc.down i) rfl rfl λj hj hu=>?_;exact MT
 ·exact h.more
theorem Gs.back (h:Gs n a S T) (hi:OO n cl lv S) (i:Nat) (O9:i<n):(∃T',Gs n (a+1) (S.back n i) T')/\S.long <+: (S.back n i).long:=by
 obtain ⟨c,hc⟩:=h.ai;have hr:=h.rel.back hi i O9;have hl:(S.back n i).long=S.long:=by unfold Mn.back;split<;>rfl
 refine h.same hr (hc.QE O9) hl (X.WI i) λj hj hu=>?_;exact Nc
end
section
variable {n a cl lv:Nat} {S:Mn} {T:X.Cs Rec} {es:Pn}
theorem Gs.Ps (h:Gs n a S T):dC n S:=λi hi hu=>(h.rel.nd i hi ((h.rel.up i hi).symm.trans hu)).u.done
theorem OO.P4 (h:OO n cl lv S) (x:Act):OO n (cl+1) (lv+1) (S.P4 n es x).2.1:=by
 have h0:OO n (cl+1) (lv+1) S:=h.mono az az;unfold Mn.P4;split
 ·split
  ·rename_i hx;obtain ⟨i,hi,_,e⟩:=eC hx;simp only [e];exact (h.Pa (ey es) i hi).mono az az
  ·exact h0
 split
 ·split
  ·rename_i hx;obtain ⟨i,hi,_,e⟩:=eC hx;simp only [e];have em:S.q[i]? = some (S.q.getD i og):=by rw [cf hi];simp [hi]
   obtain ⟨fr,_,hg⟩:=h.sv.q _ (fL em);exact ((h.Pb i).Pt (ey es) _ hg.d0 hg.dn).mono az az
  ·exact h0
 split
 ·split
  ·exact (h.Pb _).mono az az
  ·exact h0
 split
 ·split
  ·exact (h.Qr _).mono az az
  ·exact h0
 split
 ·split
  ·rename_i hx;obtain ⟨i,hi,_,e⟩:=eC hx;simp only [e];exact (h.PM i hi x.K).mono az az
  ·exact h0
 split
 ·split
  ·rename_i hx;obtain ⟨i,hi,_,e⟩:=eC hx;simp only [e];exact (h.back i hi).mono az az
  ·exact h0
 split
 ·split<;>exact h0
 split
 ·split<;>exact h0
 split
 ·split
  ·rename_i hx;obtain ⟨i,hi,_,e⟩:=eC hx;simp only [e];exact (h.OT (ey es) i hi x.B).mono az az
  ·exact h0
 ·exact h0
theorem Gs.P4 (h:Gs n a S T) (hb:OO n cl lv S) (ha:a<150) (x:Act) (hx:x.B.length<=300):(∃T',Gs n (a+1) (S.P4 n es x).2.1 T')/\S.long <+: (S.P4 n es x).2.1.long:=N9
structure Pp (S:Mn):Prop where
 len:S.long.length<=500000
 row:∀r∈S.long,r.length<=8000
theorem oE {s:Rp} {k:Dk} (h:Wf s k):(de s).length<=500000/\∀r∈de s,r.length<=8000:=by
 have h1:=h.QV;have h2:=zm (s.Oz.take s.agreed);rw [aQ] at h2;refine ⟨by unfold de;omega,λr hr=>?_⟩;obtain ⟨x,hx,rfl⟩:=d7.1 hr;exact h.Rk x (fK (rY.1 hx).1)
theorem vS {S:Mn} (hw:∀i,i<n->(S.at i).up=true->Wf (S.at i).s (S.at i).k) (m:Nat):∀(i:Nat) (lg:List (List UInt8)),i+m<=n->(lg.length<=500000/\∀r∈lg,r.length<=8000)->(gN S m i lg).length<=500000/\∀r∈gN S m i lg,r.length<=8000:=by
 induction m with
 | zero=>intro i lg _ h;exact h
 | succ m ih =>
  intro i lg hi h;refine ih (i+1) _ az ?_;split
  ·grind [oE]
  ·exact h
theorem Pp.turn {ct:OM->Bool} {i:Nat} {p:List OM×Rp×Dk} (h:Pp S) (hb:OO n cl lv (S.Pj n ct i p)):Pp (S.Pj n ct i p):=by
 have:=vS (S:=S.Pj n ct i p) (n:=n) (λj hj hu=>(hb.up j hj hu).1.wf) n 0 S.long az ⟨h.len,h.row⟩;have e:(S.Pj n ct i p).long=gN (S.Pj n ct i p) n 0 S.long:=by
  exact pR (S:=(S.set i ⟨p.2.1,p.2.2,true⟩).TB ct p.1) (S':=S.Pj n ct i p) rfl n 0 S.long
 exact ⟨by rw [e];exact this.1,by rw [e];exact this.2⟩
theorem Pp.same {S':Mn} (h:Pp S) (e:S'.long=S.long):Pp S':=⟨by rw [e];exact h.len,by rw [e];exact h.row⟩
theorem Pp.Pa {ct:OM->Bool} {i:Nat} (h:Pp S) (hb:OO n cl lv (S.Pa n ct i)):Pp (S.Pa n ct i):=by
 grind [Mn.Pa,h.turn]
theorem Pp.Pt {ct:OM->Bool} {m:OM} (h:Pp S) (hb:OO n cl lv (S.Pt n ct m)):Pp (S.Pt n ct m):=by
 grind [Mn.Pt,h.turn]
theorem Pp.OT {ct:OM->Bool} {i:Nat} {r:List UInt8} (h:Pp S) (hb:OO n cl lv (S.OT n ct i r)):Pp (S.OT n ct i r):=by
 grind [Mn.OT,h.turn]
theorem Pp.P4 (h:Pp S) (hb:OO n cl lv S) (x:Act):Pp (S.P4 n es x).2.1:=by
 have h2:=hb.P4 (es:=es) x;unfold Mn.P4 at h2 ⊢;split
 ·grind [h.Pa]
 rename_i h0;rw [am h0] at h2;split
 ·rename_i h1;rw [ay h1] at h2;split
  ·rename_i hx;rw [ay hx] at h2;exact Pp.Pt (h.same rfl) h2
  ·exact h
 rename_i h1;rw [am h1] at h2;split
 ·split
  ·exact h.same rfl
  ·exact h
 rename_i h1;rw [am h1] at h2;split
 ·grind [Mn.Qr,h.same]
 rename_i h1;rw [am h1] at h2;split
 ·split
  ·refine h.same ?_;unfold Mn.PM;split<;>rfl
  ·exact h
 rename_i h1;rw [am h1] at h2;split
 ·split
  ·refine h.same ?_;unfold Mn.back;split<;>rfl
  ·exact h
 rename_i h1;rw [am h1] at h2;split
 ·split<;>exact h
 rename_i h1;rw [am h1] at h2;split
 ·split<;>exact h
 rename_i h1;rw [am h1] at h2;split
 ·grind [h.OT]
 ·exact h
end
structure GOk (n a:Nat) (S:Mn):Prop where
 b:OO n a (1+a) S
 g:∃T,Gs n a S T
 l:Pp S
theorem BG (n:Nat) (h1:1<=n) (h5:n<=5):GOk n 0 (Mn.begun n) :=
 ⟨nk n h1 h5,by
  have h:=Lo.start n;obtain ⟨c,hc⟩:=h.ai;exact ⟨X.Cs.UA n,h.rel,rfl,⟨c,hc⟩,λi hi _=>by rw [ic n i hi];exact List.nil_prefix⟩,⟨by show (0:Nat)<=_;omega,λr hr=>by cases hr⟩⟩
theorem GOk.act {n a:Nat} {S:Mn} {es:Pn} (h:GOk n a S) (ha:a<150) (x:Act) (hx:x.B.length<=300):GOk n (a+1) (S.P4 n es x).2.1/\S.long <+: (S.P4 n es x).2.1.long:=by
 obtain ⟨T,hT⟩:=h.g;obtain ⟨h1,h2⟩:=hT.P4 (es:=es) h.b ha x hx;exact ⟨⟨(h.b.P4 x).mono az az,h1,h.l.P4 h.b x⟩,h2⟩
theorem GOk.Ps {n a:Nat} {S:Mn} (h:GOk n a S):dC n S:=by
 obtain ⟨T,hT⟩:=h.g;exact hT.Ps
def gQ (n:Nat) (l:List Act):Mn×Pn:=l.foldl (λp a=>((p.1.P4 n p.2 a).2.1,(p.1.P4 n p.2 a).2.2)) (Mn.begun n,[])
theorem lL (n:Nat) (l:List Act) (a:Act):gQ n (l++[a])=(((gQ n l).1.P4 n (gQ n l).2 a).2.1,((gQ n l).1.P4 n (gQ n l).2 a).2.2):=by
 unfold gQ;rw [eZ];rfl
theorem uq (n:Nat) (h1:1<=n) (h5:n<=5) (l:List Act) (hx:∀x∈l,x.B.length<=300):∀j,j<=l.length->j<=150->GOk n j (gQ n (l.take j)).1:=by
 intro j;induction j with
 | zero=>intro _ _;exact BG n h1 h5
 | succ j ih =>
  intro hj Tv;have e:l.take (j+1)=l.take j++[l[j]]:=(bO az).symm;rw [e,lL];exact ((ih az az).act az _ (hx _ (cW _))).1
section
variable {w w':World} {A A' Z Z':List Nat} {g n cl lv:Nat} {S:Mn} {es:Pn}
theorem Gy.long (h:Gy w A Z g n S es):∃v,w.cell? ⟨g,2,none⟩=some v/\PV w A v S.long:=by
 obtain ⟨Y,os,rs,ds,ls,Xs,vl,nb,mb,qv,lv,h,hz⟩:=h;exact ⟨lv,by rw [ap h.cell];rfl,h.long⟩
theorem Lc (n i:Nat) (h:i<n):gR n (i:Int)=true:=by unfold gR;simp [h]
theorem z5 (S:Mn) (n i:Nat) (h:i<n) (K:Int) (B:List UInt8):S.P4 n [] ⟨8,i,K,B⟩=((S.at i).up&&((bF (S.at i).s (S.at i).k B).2.1==0),S.OT n co i B,[]):=by
 grind [Mn.P4,Lc,lz]
theorem yF:Calls Tryz.prog 6 #[] w λe w'=>e = .returned (.bool true)/\Below w.heap.size w w':=by
 obtain ⟨k,S,S2,hM,hD⟩:=NF;have b0:=nk 3 az az;have b1:=b0.OI (ct:=co) 60;rw [<-hM.s] at b1;have b2:=b1.OT co k hM.kn [120];have b3:=b2.OI (ct:=co) 10;rw [<-hM.s2] at b3;have Z7:Hid (∀w1 A Z (g:Nat),Gy w1 A Z g 3 (Mn.begun 3) []->Calls Tryz.prog 14 #[.pointer (some ⟨g,0,none⟩),.int .i64 60] w1 λe w'=>e = .returned (.tuple #[])/\Px w1 w' A Z g 3 S []):=af λw1 A Z g h=>by
  have:=uv h b0 60 az az hD.c1;rw [<-hM.s] at this;exact this
 have Xk:Hid (∀w1 A Z (g:Nat),Gy w1 A Z g 3 S []->Calls Tryz.prog 15 #[.pointer (some ⟨g,0,none⟩)] w1 λe w'=>e = .returned (.tuple #[.int .i64 (k:Int),.bool true])/\Px w1 w' A Z g 3 S []):=af λw1 A Z g h=>by
  grind [wD,hD.d1,hM.lead]
 have Zu:Hid (∀w1 A Z (g:Nat),Gy w1 A Z g 3 S []->∀ba,Qi w1 A (.slice ba 1 1) [120]->Calls Tryz.prog 9 #[.pointer (some ⟨g,0,none⟩),.agg #[.int .i64 8,.int .i64 (k:Int),.int .i64 0,.slice ba 1 1]] w1 λe w'=>e = .returned (.bool true)/\Px w1 w' A Z g 3 (S.OT 3 co k [120]) []):=af λw1 A Z g h ba hv=>by
  have:=Ln h b1 hD.d1 az az ⟨8,k,0,[120]⟩ ba 1 (.inr hv) (show ([120]:List UInt8).length<=1000000 by decide) (show (-9223372036854775808:Int)<=0 by decide) (show (0:Int)<=9223372036854775807 by decide) (by rw [z5 S 3 k hM.kn];exact hD.d2);rw [z5 S 3 k hM.kn,hM.up,hM.ok] at this;exact this
 have U2:Hid (∀w1 A Z (g:Nat),Gy w1 A Z g 3 (S.OT 3 co k [120]) []->Calls Tryz.prog 14 #[.pointer (some ⟨g,0,none⟩),.int .i64 10] w1 λe w'=>e = .returned (.tuple #[])/\Px w1 w' A Z g 3 S2 []):=af λw1 A Z g h=>by
  have:=uv h b2 10 az az hD.c2;rw [<-hM.s2] at this;exact this
 have Xn:Hid (∀w1 A Z (g:Nat),Gy w1 A Z g 3 S2 []->∀i:Nat,i<3->Calls Tryz.prog 12 #[.pointer (some ⟨g,0,none⟩),.int .i64 (i:Int)] w1 λe w'=>∃ao c,e = .returned (.slice ao 1 c)/\Gy w' A Z g 3 S2 []/\Wm w' ao c [[120]]/\Mv A A Z Z w1 w'):=af λw1 A Z g h i hi=>by
  refine (rv h i hi (b3.S7 hD.d3) (hM.told i hi).1).mono ?_;rintro e w2 ⟨v,rfl,h2,hv,m2⟩;rw [(hM.told i hi).2] at hv;obtain ⟨ao,c,rfl,hr⟩:=hv.reads;exact ⟨ao,c,rfl,h2,hr,m2⟩
 have Xj:Hid (∀w1 A Z (g:Nat),Gy w1 A Z g 3 S2 []->Calls Tryz.prog 10 #[.pointer (some ⟨g,0,none⟩)] w1 λe w'=>∃ao c,e = .returned (.slice ao 1 c)/\Below w1.heap.size w1 w'):=af λw1 A Z g h=>by
  obtain ⟨v,hc,hl⟩:=h.long;rw [hM.long] at hl;refine (wC hc hl dZ dZ).mono ?_;rintro e w2 ⟨v2,rfl,ho,hb⟩;obtain ⟨ao,c,e1,_⟩:=ho.shape;exact ⟨ao,c,by rw [e1];rfl,hb⟩
 clear hM hD b0 b1 b2 b3;go_enter Tryz.func6,Tryz.ntmps6
 go_wp2_with fail
 refine (wB (A:=[]) 3 az az (λb hb=>by cases hb)).mono ?_;rintro e w1 ⟨g,A1,Z1,rfl,hs1,Uo⟩;have H1:=af (Z7.out w1 A1 Z1 g hs1);have M1:=af Uo;clear hs1 Uo;go_wp2_with fail
 refine H1.out.mono ?_;rintro e w2 ⟨rfl,A2,Z2,hs2,Qb⟩;have H2:=af (Xk.out w2 A2 Z2 g hs2);have M2:=af (M1.out.trans Qb);clear hs2 Qb;go_wp2_with fail
 refine H2.out.mono ?_;rintro e w3 ⟨rfl,A3,Z3,hs3,RZ⟩;have M3:=af (M2.out.trans RZ);have kc:=λ(w:World) (C:Array Value) (n c:Nat)=>Lib.run_convert_bytes_const (P:=Tryz.prog) w 31 5 C n c Tryz.underlying31 Tryz.underlying5;have hb4:Below w3.heap.size w3 (w3.alloc (.cells #[.int .u8 120] 5 (1,2))):=(aG _ _).alloc (ah _) _;have M4:=af (M3.out.trans (Mv.below hb4));have Xl:Qi (w3.alloc (.cells #[.int .u8 120] 5 (1,2))) A3 (.slice (some ⟨w3.heap.size,0,none⟩) 1 1) [120]:=⟨_,_,rfl,uj w3 [120] #[.int .u8 120] rfl 5 (1,2) w3.heap.size rfl 1 rfl 1,ah _,λp hp=>by
  cases hp;exact ⟨λhm=>by have:=hs3.alt _ hm;simp at this,by simp⟩⟩
 have H4:=af (Zu.out _ A3 Z3 g (hs3.below hb4) _ Xl);clear hs3 RZ Xl hb4;go_wp2_with fail
 refine H4.out.mono ?_;rintro e w5 ⟨rfl,A5,Z5,hs5,hm5⟩;have H5:=af (U2.out w5 A5 Z5 g hs5);have M5:=af (M4.out.trans hm5);clear hs5 hm5;go_wp2_with fail
 refine H5.out.mono ?_;rintro e w6 ⟨rfl,A6,Z6,hs6,hm6⟩;have H6:=af hs6;have M6:=af (M5.out.trans hm6);clear hs6 hm6 kc;go_wp2_with fail
 go_loopw [5] (λi wr=>∃j:Nat,j<=3/\i = .int .i64 (j:Int)/\Gy wr A6 Z6 g 3 S2 []/\Mv [] A6 [] Z6 w wr) (λi _=>3 - (intOf i).toNat)
 case atStart=>exact ⟨0,by omega,rfl,H6.out,M6.out⟩
 case round =>
  obtain ⟨j,hj,rfl,h7,m7⟩:=hrel;rename World=>w7;have q8:IntKind.i64.wrap ((j:Int)+1)=(j:Int)+1:=IntWalk.i64_in _ az;have M7:=af m7;have H7:=af h7;clear h7 m7;by_cases hlt:j<3
  ·have hj3:(j:Int)<3:=by omega
   have HA7:=af (Xn.out w7 A6 Z6 g H7.out j hlt);go_wp2_with fail
   refine HA7.out.mono ?_;rintro e w8 ⟨ao,c,rfl,h8,r8,m8⟩;have ZC:=af (Xn.out w8 A6 Z6 g h8 j hlt);have M8:=af (M7.out.trans m8);clear h8 r8 m8;go_wp2_with fail
   refine ZC.out.mono ?_;rintro e w9 ⟨ao2,c2,rfl,h9,r9,m9⟩;have H9:=af h9;have M9:=af (M8.out.trans m9);obtain ⟨b,off,rfl,ea,em,ek,g1,g2⟩:=r9.at_ 0 dZ;have hcv:(convert 31 9 (.slice ea em ek)).run Tryz.prog w9 = .ok (.string (gB [120])) w9:=kf _ _ _ _ _ g2;have g1:w9.cell? ⟨b,off,none⟩=some (.slice ea em ek):=by simpa using g1
   have heq:((gB [120]).toList==[120])=true:=KK;clear h9 r9 m9 g2;generalize gB [120]=sx at *;go_wp2_with fail
   go_roundw
   case rel=>exact ⟨j+1,by omega,by simp,H9.out,M9.out⟩
   case measure=>simp [intOf];omega
  ·obtain rfl:j=3:=by omega
   have HL7:=af (Xj.out w7 A6 Z6 g H7.out);go_wp2_with fail
   refine HL7.out.mono ?_;rintro e w8 ⟨ao,c,rfl,hb8⟩;have Tr:Hid (Below w.heap.size w w8):=af (((M7.out.trans (Mv.below hb8)).mv.only).below (ah _) (λk hk=>by cases hk));clear hb8;go_wp2_with fail
   go_ret
   exact ⟨rfl,Tr.out⟩
end
structure VA (w wr:World) (A Z:List Nat) (g n:Nat) (S:Mn) (es:Pn):Prop where
 gy:Gy wr A Z g n S es
 PW:Below w.heap.size w wr
 age:∀b∈A,w.heap.size<=b
section
variable {w wr w2:World} {A A' Z Z':List Nat} {g n:Nat} {S S':Mn} {es es':Pn}
theorem VA.mv (h:VA w wr A Z g n S es) (h2:Gy w2 A' Z' g n S' es') (m:Mv A A' Z Z' wr w2):VA w w2 A' Z' g n S' es' :=
 ⟨h2,h.PW.trans (m.mv.only.below h.PW.size (λb hb=>h.age b (h.gy.zA b hb))),λb hb=>by
  rcases m.ext b hb with h1 | h1
  ·exact h.age b h1
  ·exact aF h.PW.size h1⟩
theorem VA.below (h:VA w wr A Z g n S es) (hb:Below wr.heap.size wr w2):VA w w2 A Z g n S es:=h.mv (h.gy.below hb) (Mv.below hb)
theorem VA.begun {w3:World} (hb:Below w.heap.size w wr) (h:Gy w3 A Z g n S es) (hm:Mv [] A [] Z wr w3):VA w w3 A Z g n S es :=
 ⟨h,hb.trans ((hm.mv.only.below (ah _) (λb hb=>by cases hb)).mono hb.size),λb hb2=>by
  rcases hm.ext b hb2 with h1 | h1
  ·cases h1
  ·exact aF hb.size h1⟩
theorem Vq.z {b off:Nat} {x:Act} (h:Vq w b off x) (hA:∀b∈A,w.heap.size<=b) (hb:Below w.heap.size w wr):∃bo bc,wr.cell? ⟨b,off+3,none⟩=some (.slice bo x.B.length bc)/\SB wr A (.slice bo x.B.length bc) x.B:=by
 obtain ⟨bo,bc,h1,h2,h3⟩:=h.c4;refine ⟨bo,bc,cell_later hb h1,?_⟩;by_cases h0:x.B.length=0
 ·exact .inl h0
 ·refine .inr ⟨bo,bc,rfl,h2.below hb,h3,λp hp=>?_⟩;exact Nb
def Mn.U3 (S:Mn) (i:Nat):List (List UInt8):=if (S.at i).up then de (S.at i).s else []
theorem Fq (h:Gy w A Z g n S es) (hU:p9 n S) (i:Nat) (hi:i<n) :
  Calls Tryz.prog 12 #[.pointer (some ⟨g,0,none⟩),.int .i64 (i:Int)] w λe w'=>∃ao c,e = .returned (.slice ao (S.U3 i).length c)/\Wm w' ao c (S.U3 i)/\Gy w' A Z g n S es/\Mv A A Z Z w w':=by
 unfold Mn.U3;cases hu:(S.at i).up with
 | false =>
  refine (yG h (i:Int) (.inr ⟨i,hi,rfl,hu⟩)).mono ?_;rintro e w1 ⟨rfl,rfl⟩;exact ⟨none,0,rfl,⟨ah _,λj hj=>by cases hj⟩,h,Mv.refl _ _ _⟩
 | true =>
  refine (rv h i hi hU hu).mono ?_;rintro e w1 ⟨v,rfl,h1,hv,m1⟩;obtain ⟨ao,c,rfl,hr⟩:=hv.reads;exact ⟨ao,c,rfl,hr,h1,m1⟩
theorem Ns (h:Gy w A Z g n S es) (hU:p9 n S) (i:Nat) (hi:i<n) :
  Calls Tryz.prog 13 #[.pointer (some ⟨g,0,none⟩),.int .i64 (i:Int)] w λe w'=>e = .returned (.bool (S.at i).up)/\Gy w' A Z g n S es/\Mv A A Z Z w w':=by
 have hgy:=h;obtain ⟨Y,os,rs,ds,ls,Xs,vl,nb,mb,qv,lv,h,hz⟩:=h;cases hu:(S.at i).up with
 | false =>
  refine (iL h i hi hu).mono ?_;rintro e w1 ⟨rfl,rfl⟩;exact ⟨rfl,hgy,Mv.refl _ _ _⟩
 | true =>
  refine (lk h i hi hu (hU i hi hu).2).mono ?_;rintro e w1 ⟨rfl,hc2,OZ,Tt⟩;exact ⟨rfl,⟨_,_,_,_,_,_,_,_,_,_,_,hc2,hz⟩,Mv.only OZ (λb hb=>by rw [aj.1 hb];exact (hz _).2 (.inr ⟨i,hi,Tt⟩))⟩
theorem Lj (h:Gy w A Z g n S es) (hl:Pp S):Calls Tryz.prog 10 #[.pointer (some ⟨g,0,none⟩)] w λe w'=>∃v,e = .returned v/\PV w' A v S.long/\Below w.heap.size w w':=by
 obtain ⟨v,hc,h2⟩:=h.long;refine (wC hc h2 (by have:=hl.len;omega) hl.row).mono ?_;rintro e w2 ⟨v2,rfl,ho,hb⟩;exact ⟨v2,rfl,PV.new ho h.alt,hb⟩
end
def km (S:Mn):Nat->Nat
 | 0=>0
 | k+1=>km S k+if (S.at k).up then 1 else 0
theorem Gf (S:Mn) (k:Nat):km S k<=k:=by
 induction k with
 | zero=>exact ah _
 | succ k ih=>unfold km;split<;>omega
structure LdM (n:Nat) (S:Mn) (rec:List UInt8) (k:Nat):Prop where
 kn:k<n
 lead:gj (Mn.OI n co 60 S) n 0=some k
 up:((Mn.OI n co 60 S).at k).up=true
 ok:(bF ((Mn.OI n co 60 S).at k).s ((Mn.OI n co 60 S).at k).k rec).2.1=0
 d2:dC n ((Mn.OI n co 60 S).OT n co k rec)
 c2:PR n 10 ((Mn.OI n co 60 S).OT n co k rec)
 d3:dC n (Mn.OI n co 10 ((Mn.OI n co 60 S).OT n co k rec))
 l3:Pp (Mn.OI n co 10 ((Mn.OI n co 60 S).OT n co k rec))
 last:∃pre,(Mn.OI n co 10 ((Mn.OI n co 60 S).OT n co k rec)).long=pre++[rec]
 all:∀i,i<n->((Mn.OI n co 10 ((Mn.OI n co 60 S).OT n co k rec)).at i).up=true->(de ((Mn.OI n co 10 ((Mn.OI n co 60 S).OT n co k rec)).at i).s).length=(Mn.OI n co 10 ((Mn.OI n co 60 S).OT n co k rec)).long.length
structure LdP (n:Nat) (S:Mn) (rec:List UInt8):Prop where
 c1:PR n 60 S
 d1:dC n (Mn.OI n co 60 S)
 maj:n<2*km S n->∃k,LdM n S rec k
section
variable {w wr w2:World} {A A' Z Z':List Nat} {g n:Nat} {S S':Mn} {es es':Pn}
theorem Pg.z {ao:Option Addr} {q cp:Nat} {R:List UInt8} (h2:Pg w ao q cp R) (h3:q<=cp) (hA:∀b∈A,w.heap.size<=b) (hb:Below w.heap.size w wr):SB wr A (.slice ao q cp) R:=by
 have hl:q=R.length:=h2.1.symm;by_cases h0:R.length=0
 ·exact .inl h0
 ·rw [hl] at h2 h3 ⊢;refine .inr ⟨ao,cp,rfl,h2.below hb,h3,λp hp=>?_⟩;exact Nb
theorem VA.gyp (h:VA w wr A Z g n S es) (p:Px wr w2 A Z g n S' es'):∃A' Z',VA w w2 A' Z' g n S' es':=MZ
end
theorem yo (hP:∀(k:Nat) (l:List Act) (rec:List UInt8),1<=k->k<=5->l.length<=100->(∀x∈l,x.B.length<=300)->1<=rec.length->rec.length<=300->LdP k (gQ k l).1 rec)
  (n:Int) (ao:Option Addr) (m cp:Nat) (l:List Act) (ro:Option Addr) (rn rc:Nat) (R:List UInt8) (w:World) (h:XJ w ao m l) (hle:m<=cp) (hm:m<=140737488355328) (hr:Pg w ro rn rc R) (hrc:rn<=rc) :
  Calls Tryz.prog 4 #[.int .i64 n,.slice ao m cp,.slice ro rn rc] w λe w'=>e = .returned (.bool true)/\Below w.heap.size w w':=by
 have HX:=af h;have HLEN:=af h.len;have HR:=af hr;have UO:Hid (R.length=rn):=af hr.1;clear h hr;go_enter Tryz.func4,Tryz.ntmps4
 go_wp2_with fail
 refine yF.mono ?_;rintro e w1 ⟨rfl,hb1⟩;have PK:=af hb1;have Ty:=af (ym ao m cp l (HX.out.below hb1) hm 100 az);clear hb1;by_cases PT:n<1
 ·exact Mu
 by_cases O8:5<n
 ·exact Mu
 obtain ⟨k,rfl⟩:∃k:Nat,n=(k:Int):=⟨n.toNat,by omega⟩
 have Ya:1<=k:=az;have hk5:k<=5:=az;go_wp2_with fail
 refine Ty.out.mono ?_;rintro e w4 ⟨rfl,hb4⟩;have TA:Hid (Below w.heap.size w w4):=af (PK.out.trans (hb4.mono PK.out.size));clear hb4 Ty PK;cases hl:jI l 100 with
 | false =>
  exact D5
 | true =>
 by_cases hr1:(rn:Int)<1
 ·clear hl;exact D5
 by_cases hr3:(300:Int)<(rn:Int)
 ·clear hl;exact D5
 have HLO:=af (sP l 100 hl);have hm150:m<=100:=by have:=HLO.out.1;have:=HLEN.out;omega
 have HOK:Hid (∀j,j<=m->GOk k j (gQ k (l.take j)).1):=af λj hj=>uq k Ya hk5 l HLO.out.2 j (by have:=HLEN.out;omega) az;have HLP:Hid (LdP k (gQ k l).1 R):=af (hP k l R Ya hk5 HLO.out.1 HLO.out.2 (by rw [UO.out];omega) (by rw [UO.out];omega));clear hl hP;go_wp2_with fail
 refine (wB (A:=[]) k Ya hk5 (λb hb=>by cases hb)).mono ?_;rintro e w3 ⟨g,A3,Z3,rfl,hs3,RZ⟩;have HL3:=af (VA.begun TA.out hs3 RZ);clear hs3 RZ;go_wp2_with fail
 go_loopw [9] (λi wr=>∃(j:Nat) (A Z:List Nat),j<=m/\i = .int .i64 (j:Int)/\VA w wr A Z g k (gQ k (l.take j)).1 (gQ k (l.take j)).2) (λi _=>m - (intOf i).toNat)
 case atStart=>exact ⟨0,A3,Z3,aH _,rfl,HL3.out⟩
 case round =>
  obtain ⟨j,A,Z,hj,rfl,YL⟩:=hrel;rename World=>wr;have q6:IntKind.i64.wrap ((j:Int)+1)=(j:Int)+1:=IntWalk.i64_in _ az;by_cases hjm:j<m
  ·have hjm2:(j:Int)<(m:Int):=by omega
   obtain ⟨b,off,rfl,hat⟩:∃b off,ao=some ⟨b,off,none⟩/\∀i,i<m->Vq w b (off+i*4) (l.getD i jz):=by
    rcases HX.out.at_ with h0 | h0
    ·omega
    ·exact h0
   have ha:=hat j hjm;obtain ⟨bo,bc,k4,hz⟩:=ha.z (A:=A) YL.age YL.PW;have hg:l.getD j jz=l[j]'(by have:=HLEN.out;omega):=by simp [List.getD,show j<l.length by have:=HLEN.out;omega]
   have hO1:=HOK.out j hj;have hO2:=HOK.out (j+1) az;have Wq:Hid (l.take (j+1)=l.take j++[l.getD j jz]):=af (by
    rw [hg,<-bO (by have:=HLEN.out;omega)])
   rw [Wq.out,lL] at hO2;have HBX:Hid ((l.getD j jz).B.length<=300):=af (by rw [hg];exact HLO.out.2 _ (cW _));have ha2:=ha.below YL.PW;have k0:=ha2.c0;have k1:=ha2.c1;have k2:=ha2.c2;have hdo:=Ln YL.gy hO1.b hO1.Ps az az (l.getD j jz) bo bc hz (by have:=HBX.out;omega) ha.p1.1 ha.p1.2 hO2.Ps;have HE:Hid (gQ k (l.take (j+1))=(((gQ k (l.take j)).1.P4 k (gQ k (l.take j)).2 (l.getD j jz)).2.1,((gQ k (l.take j)).1.P4 k (gQ k (l.take j)).2 (l.getD j jz)).2.2)):=af (by rw [Wq.out,lL]);generalize hS2:((gQ k (l.take j)).1.P4 k (gQ k (l.take j)).2 (l.getD j jz)).2.1=S2 at *;generalize hE2:((gQ k (l.take j)).1.P4 k (gQ k (l.take j)).2 (l.getD j jz)).2.2=E2 at *;generalize hb2:((gQ k (l.take j)).1.P4 k (gQ k (l.take j)).2 (l.getD j jz)).1=b2 at *;generalize gQ k (l.take j)=p1 at *;obtain ⟨S1,E1⟩:=p1;simp only at YL hO1 hdo;have HLS:=af YL;have Zu:=af hdo;clear ha ha2 hat hg hz hO1 hO2 hdo YL hS2 hE2 hb2;generalize l.getD j jz=x at *;obtain ⟨o,N,K,B⟩:=x;simp only at k0 k1 k2 k4 Zu;generalize B.length=bl at *;go_wp2_with fail
   refine Zu.out.mono ?_;rintro e w5 ⟨rfl,A5,Z5,hg5,hm5⟩;have HF:Hid (VA w w5 A5 Z5 g k (gQ k (l.take (j+1))).1 (gQ k (l.take (j+1))).2):=af (by rw [HE.out];exact HLS.out.mv hg5 hm5);clear hg5 hm5 k0 k1 k2 k4 Zu HLS;go_wp2_with fail
   go_roundw
   case rel=>exact ⟨j+1,A5,Z5,by omega,by simp,HF.out⟩
   case measure=>simp [intOf];omega
  ·obtain rfl:j=m:=by omega
   have HEL:Hid (l.take j=l):=af (bE (by have:=HLEN.out;omega));have HOJ:=af (HOK.out j (ah _));rw [HEL.out] at YL HOJ;have HLS:=af YL;clear YL;generalize gQ k l=p1 at *;obtain ⟨S,E⟩:=p1;simp only at HLS HLP HOJ;have HU:=af (HOJ.out.b.S7 HOJ.out.Ps);have HUL:=af (Gf S);go_wp2_with fail
   go_loopw [10,11] (λc i w8=>∃(q:Nat) (A Z:List Nat),q<=k/\i = .int .i64 (q:Int)/\c = .int .i64 (km S q:Int)/\VA w w8 A Z g k S E) (λ_ i _=>k - (intOf i).toNat)
   case atStart=>exact ⟨0,A,Z,aH _,rfl,rfl,HLS.out⟩
   case round =>
    obtain ⟨q,A8,Z8,hq,rfl,rfl,VU⟩:=hrel;rename World=>w8;have q9:IntKind.i64.wrap ((q:Int)+1)=(q:Int)+1:=IntWalk.i64_in _ az;have HL8:=af VU;have YD:=HUL.out q;by_cases hqk:q<k
    ·have hqk2:(q:Int)<(k:Int):=by omega
     have XK:=af (Ns VU.gy HU.out q hqk);have Xh:Hid (km S (q+1)=km S q+if (S.at q).up then 1 else 0):=af rfl;have q10:IntKind.i64.wrap ((km S q:Int)+1)=(km S q:Int)+1:=IntWalk.i64_in _ az;clear VU;go_wp2_with fail
     refine XK.out.mono ?_;rintro e w9 ⟨rfl,hg9,hm9⟩;have HL9:=af (HL8.out.mv hg9 hm9);clear hg9 hm9 XK HL8;cases hu:(S.at q).up with
     | true =>
      have Ws:Hid (km S (q+1)=km S q+1):=af (by rw [Xh.out,hu];rfl);go_wp2_with fail
      go_roundw
      case rel=>exact ⟨q+1,A8,Z8,by omega,by simp,by rw [Ws.out];simp,HL9.out⟩
      case measure=>simp [intOf];omega
     | false =>
      have Ws:Hid (km S (q+1)=km S q):=af (by rw [Xh.out,hu];rfl);go_wp2_with fail
      go_roundw
      case rel=>exact ⟨q+1,A8,Z8,by omega,by simp,by rw [Ws.out],HL9.out⟩
      case measure=>simp [intOf];omega
    ·obtain rfl:q=k:=by omega
     have Z7:=af (uv VU.gy HOJ.out.b 60 az az HLP.out.c1);have HB60:=af (HOJ.out.b.OI (ct:=co) 60);have HMJ:=af HLP.out.maj;have HD1:=af HLP.out.d1;clear VU;go_wp2_with fail
     refine Z7.out.mono ?_;rintro e w9 ⟨rfl,hp9⟩;obtain ⟨A9,Z9,hl9⟩:=HL8.out.gyp hp9;have HL9:=af hl9;have Xk:=af (wD hl9.gy HB60.out HD1.out);clear hp9 hl9 Z7 HL8;generalize hun:km S q=un at *;have qm:IntKind.i64.wrap (2*(un:Int))=2*(un:Int):=IntWalk.i64_in _ az;go_wp2_with fail
     refine Xk.out.mono ?_;rintro e w10 ⟨rfl,hp10⟩;obtain ⟨A10,Z10,hl10⟩:=HL9.out.gyp hp10;have XP:=af hl10;clear hp10 hl10 Xk HL9;by_cases Pm:2*(un:Int)<=(q:Int)
     ·have HF:=af XP.out.PW;exact DY
     obtain ⟨ld,hM⟩:=HMJ.out az;have Yo:Hid (gj (Mn.OI q co 60 S) q 0=some ld):=af hM.lead;have hiz:=HR.out.z (A:=A10) hrc XP.out.age XP.out.PW;have O5:=af (HB60.out.OT co ld hM.kn R);have Zu:=af (Ln XP.out.gy HB60.out HD1.out az az ⟨8,ld,0,R⟩ ro rc (by rw [show (⟨8,ld,0,R⟩:Act).B.length=rn from UO.out];exact hiz) (show R.length<=1000000 by rw [UO.out];omega) (show (-9223372036854775808:Int)<=0 by decide) (show (0:Int)<=9223372036854775807 by decide) (by rw [z5 _ q ld hM.kn];exact hM.d2));rw [z5 _ q ld hM.kn,hM.up,hM.ok] at Zu;have U2:Hid (∀w A Z,Gy w A Z g q ((Mn.OI q co 60 S).OT q co ld R) []->Calls Tryz.prog 14 #[.pointer (some ⟨g,0,none⟩),.int .i64 10] w λe w'=>e = .returned (.tuple #[])/\Px w w' A Z g q (Mn.OI q co 10 ((Mn.OI q co 60 S).OT q co ld R)) []):=af λw A Z hg=>uv hg O5.out 10 az az hM.c2;have Pk:=af (O5.out.OI (ct:=co) 10);have HM:=af hM;rw [Yo.out];clear hiz hM;have Zu:Hid (Calls Tryz.prog 9 #[.pointer (some ⟨g,0,none⟩),.agg #[.int .i64 8,.int .i64 (ld:Int),.int .i64 0,.slice ro rn rc]] w10 λe w'=>e = .returned (.bool true)/\Px w10 w' A10 Z10 g q ((Mn.OI q co 60 S).OT q co ld R) []):=af (by
      have h9:=Zu.out;rw [show (⟨8,ld,0,R⟩:Act).B.length=rn from UO.out] at h9;exact h9)
     have HD3:=af HM.out.d3;have HL3':=af HM.out.l3;have HLA:=af HM.out.last;have HAL:=af HM.out.all;generalize (Mn.OI q co 60 S).OT q co ld R=S2 at *;generalize Mn.OI q co 10 S2=S3 at *;have HUE:=af (Pk.out.S7 HD3.out);simp only [Option.getD_some,Option.isSome_some];go_wp2_with fail
     refine Zu.out.mono ?_;rintro e w11 ⟨rfl,hp11⟩;obtain ⟨A11,Z11,hl11⟩:=XP.out.gyp hp11;have HL11:=af hl11;have HC11:=af (U2.out w11 A11 Z11 hl11.gy);clear hp11 hl11 Zu XP;go_wp2_with fail
     refine HC11.out.mono ?_;rintro e w12 ⟨rfl,hp12⟩;obtain ⟨A12,Z12,hl12⟩:=HL11.out.gyp hp12;have HL12:=af hl12;have Xj:=af (Lj hl12.gy HL3'.out);clear hp12 hl12 HC11 HL11;go_wp2_with fail
     refine Xj.out.mono ?_;rintro e w13 ⟨v13,rfl,hv13,hb13⟩;have HL13:=af (HL12.out.below hb13);have HV13:=af hv13;obtain ⟨xo,xc,rfl,hr13⟩:=hv13.reads;obtain ⟨pre,SI⟩:=HLA.out;have HXL:Hid (S3.long.length=pre.length+1):=af (by rw [SI];simp);obtain ⟨xb,xoff,rfl,ea,em,ek,g1,g2⟩:=hr13.at_ pre.length (by rw [HXL.out];omega);have Qv:S3.long.getD pre.length []=R:=by rw [SI];simp [List.getD]
     rw [Qv] at g2;have hRb:=HR.out.below HL13.out.PW;have HPL:Hid (pre.length<=500000):=af (by have:=HL3'.out.len;have:=HXL.out;omega);have hxl:=HXL.out;have hpl:=HPL.out;generalize hxn:S3.long.length=xn at *;have HXN:=af hxn;generalize pre.length=pn at *;clear SI Qv hv13 hr13 hb13 Xj HLA HL12 hxn;have kcv1:∀q,(convert 31 9 (.slice ea em ek)).run Tryz.prog (w13.drewN q) = .ok (.string (gB R)) (w13.drewN q):=λq=>kf _ _ _ _ _ (g2.below (aB _ q));have kcv2:∀q,(convert 31 9 (.slice ro rn rc)).run Tryz.prog (w13.drewN q) = .ok (.string (gB R)) (w13.drewN q):=λq=>kf _ _ _ _ _ (hRb.below (aB _ q));clear g2 hRb;generalize gB R=sx at *;have heq:(sx.toList==sx.toList)=true:=bL;have q11:IntKind.i64.wrap ((xn:Int) - 1)=(pn:Int):=by rw [IntWalk.i64_in _ az];omega
     have q12:(pn:Int)<(xn:Int):=az;have q13:¬(xn:Int)=0:=az;have q14:decide ((xn:Int)=0)=false:=bp q13;have q15:((xn:Int)==0)=false:=by simpa using q13
     have HXP:=af hxl;clear hxl hpl;go_upto_region 24 with (fail)
     go_quiet (fail)
     have HB14:Hid (Below w13.heap.size w13 (w13.drewN nq)):=af (aB _ _);go_wp2_with fail
     go_loopw [15] (λi w8=>∃(p:Nat),p<=q/\i = .int .i64 (p:Int)/\VA w w8 A12 Z12 g q S3 []) (λi _=>q - (intOf i).toNat)
     case atStart=>exact ⟨0,aH _,rfl,HL13.out.below HB14.out⟩
     case round =>
      obtain ⟨p,hp,rfl,YR⟩:=hrel;rename World=>w14;have q19:IntKind.i64.wrap ((p:Int)+1)=(p:Int)+1:=IntWalk.i64_in _ az;have HL14:=af YR;by_cases hpq:p<q
      ·have hpq2:(p:Int)<(q:Int):=by omega
       have XK:=af (Ns YR.gy HUE.out p hpq);clear YR;go_wp2_with fail
       refine XK.out.mono ?_;rintro e w15 ⟨rfl,hg15,hm15⟩;have HL15:=af (HL14.out.mv hg15 hm15);clear hg15 hm15 XK HL14;cases hu:(S3.at p).up with
       | false =>
        go_wp2_with fail
        go_roundw
        case rel=>exact ⟨p+1,by omega,by simp,HL15.out⟩
        case measure=>simp [intOf];omega
       | true =>
        have Xn:=af (Fq HL15.out.gy HUE.out p hpq);have HAE:Hid ((S3.U3 p).length=xn):=af (by unfold Mn.U3;rw [hu,ay rfl,HAL.out p hpq hu]);rw [HAE.out] at Xn;clear hu;go_wp2_with fail
        refine Xn.out.mono ?_;rintro e w16 ⟨ao16,c16,rfl,hr16,hg16,hm16⟩;have HL16:=af (HL15.out.mv hg16 hm16);clear hr16 hg16 hm16 Xn HL15;go_wp2_with fail
        go_roundw
        case rel=>exact ⟨p+1,by omega,by simp,HL16.out⟩
        case measure=>simp [intOf];omega
      ·have HF:=af YR.PW;have hpq3:¬(p:Int)<(q:Int):=az;clear YR;exact DY
end Go.Proofs.YtnhefallmioefaaGreat
