/-
  What the proof of the law leans on: contracts of the program's functions, one behind another. No condition.
-/
import Derived.Test.YtnhefallmioefaaGreatV0
import Derived.Test.YtnhefallmioefaaGreatV20
import Derived.Test.YtnhefallmioefaaGreatV14
import Derived.Test.YtnhefallmioefaaGreatV24
import Derived.Test.YtnhefallmioefaaGreatV17
import Derived.Test.YtnhefallmioefaaGreatV23
import Derived.Test.YtnhefallmioefaaGreatV4
import Derived.Test.YtnhefallmioefaaGreatV5
set_option linter.unusedVariables false
set_option linter.unusedSimpArgs false
namespace Go.Proofs.YtnhefallmioefaaGreat
open Go.RowKit Go.ChangeMaps Go.WideMaps Go.Maps
set_option maxRecDepth 20000
section
variable {w w':World} {A A' X Y Y' Z Z':List Nat} {g n:Nat} {S:Mn} {es es':Cuts} {os rs ds ls:Nat->Nat} {Xs:Nat->List Nat} {vl:Value} {nb mb mb':Nat} {qv lv qv' pn:Value} {q':List Msg} {r d l:Nat} {s:Rp} {k:Dk}
set_option maxHeartbeats 2000000 in
theorem sa (h:Gy w A Z g n S es) (x:Int) (hx:(decide (0<=x)&&decide (x<(S.q.length:Int)))=false) :
  Calls Tryz.prog 20 #[.pointer (some ⟨g,0,none⟩),.int .i64 x] w λe w'=>e = .returned (.bool false)/\GyP w w' A Z g n S es:=by
 have HG:=ab h;obtain ⟨Y,os,rs,ds,ls,Xs,vl,nb,mb,qv,lv,h,hz⟩:=h;have HT:=ab (tx h.nt x hx);have c1:w.cell? ⟨g,1,none⟩=some (.pointer (some ⟨nb,0,none⟩)):=by rw [af h.cell];rfl
 clear h hz hx;unfold df at HT;go_enter Tryz.func20,Tryz.ntmps20
 go_wp2_with fail
 refine HT.out.mono ?_;rintro e w2 ⟨rfl,hb⟩;have hbO:Below w2.heap.size w2 (w2.alloc (.cells #[.int .i64 kW.frm,.int .i64 kW.dst,.int .i64 kW.kind,.slice none 0 0,.slice none 0 0] 83)):=(az _ _).alloc (ah _) _;have HF:=ab ((HG.out.below (hb.trans (hbO.mono hb.size))).gyp (Mv.below (hb.trans (hbO.mono hb.size))));clear hb hbO;go_wp2_with fail
 go_ret
 exact ⟨rfl,HF.out⟩
set_option maxHeartbeats 4000000 in
theorem sc (h:Gy w A Z g n S es) (j:Nat) (hj:j<S.q.length) (m:Msg) (hm:S.q[j]=m) (hl:gV m) (hq:S.q.length<=2000)
  (hd:(decide (0<=m.dst)&&decide (m.dst<(n:Int)))=false\/∃i:Nat,i<n/\m.dst=(i:Int)/\(S.at i).up=false) :
  Calls Tryz.prog 20 #[.pointer (some ⟨g,0,none⟩),.int .i64 (j:Int)] w λe w'=>e = .returned (.bool true)/\GyP w w' A Z g n { S with q:=S.q.eraseIdx j } es:=by
 obtain ⟨Y,os,rs,ds,ls,Xs,vl,nb,mb,qv,lv,h,hz⟩:=h;have HT:=ab (nw h.nt j hj (by omega) (by rw [hm];exact hl));rw [hm] at HT;have HZ:=ab hz;have HH:=ab h;obtain ⟨Q,hQ⟩:∃Q,Q=S.q.eraseIdx j:=⟨_,rfl⟩
 rw [<-hQ] at HT ⊢;have HNX:Hid (∀w2,NtF w w2 A Y nb mb n Q es->∃qv2,GyC w2 A Y g n { S with q:=Q } es os rs ds ls Xs vl nb mb qv2 lv/\Mv A A Z Z w w2):=ab λw2 hF=>by
  obtain ⟨qv2,hn,T,ho,ht⟩:=hF;refine ⟨qv2,HH.out.netx hn ⟨Mv.only ho (λb hb=>(ht b hb).1),λb hb=>.inl hb,.inl rfl,T,ho,λb hb=>⟨(ht b hb).1,(ht b hb).2.imp id .inr⟩⟩,?_⟩;exact Mv.only ho (λb hb=>(HZ.out b).2 (.inl (ht b hb).1))
 have c1:w.cell? ⟨g,1,none⟩=some (.pointer (some ⟨nb,0,none⟩)):=by rw [af h.cell];rfl
 have HUP:Hid (∀w2 qv2,GyC w2 A Y g n { S with q:=Q } es os rs ds ls Xs vl nb mb qv2 lv->Calls Tryz.prog 13 #[.pointer (some ⟨g,0,none⟩),.int .i64 m.dst] w2 λe w'=>e = .returned (.bool false)/\w2=w'):=ab λw2 qv2 h2=>by
  rcases hd with hx | ⟨i,hi,e,hu⟩
  ·exact qf h2 _ hx
  ·rw [e];exact gB h2 i hi hu
 clear h hz hm hQ hl hd hq;unfold df at HT;go_enter Tryz.func20,Tryz.ntmps20
 go_wp2_with fail
 refine HT.out.mono ?_;rintro e w2 ⟨v,u,rfl,hms,hF⟩;obtain ⟨⟨av,cv,rfl⟩,av2,bv,cw,rfl⟩:=hms.shapes;obtain ⟨qv2,hc2,m2⟩:=HNX.out w2 hF;obtain ⟨O,hO⟩:∃O,O=lM m (.slice av m.N.length cv) (.slice av2 bv cw):=⟨_,rfl⟩
 have hbO:Below w2.heap.size w2 (w2.alloc O):=(az _ _).alloc (ah _) O;have HC3:=hc2.below hbO;have HU:=ab (HUP.out _ _ HC3);have HF:Hid (GyP w (w2.alloc O) A Z g n { S with q:=Q } es):=ab ⟨A,Z,⟨_,_,_,_,_,_,_,_,_,_,_,HC3,HZ.out⟩,m2.trans (Mv.below hbO)⟩;have HX:=aK w2 O;subst hO;obtain ⟨x0,x1,x2,x3,x4⟩:=gR HX;unfold lM at x0 x1 x2 x3 x4 HU;clear hc2 hms m2 hF hbO HC3 HX;go_wp2_with fail
 refine HU.out.mono ?_;rintro e w3 ⟨rfl,rfl⟩;go_wp2_with fail
 go_ret
 exact ⟨rfl,HF.out⟩
end
section
variable {w w':World} {A A' X Y Y' Z Z':List Nat} {g n:Nat} {S:Mn} {es es':Cuts} {os rs ds ls:Nat->Nat} {Xs:Nat->List Nat} {vl:Value} {nb mb mb':Nat} {qv lv qv' pn:Value} {q':List Msg} {r d l:Nat} {s:Rp} {k:Dk}
set_option maxHeartbeats 2000000 in
theorem rZ (h:Gy w A Z g n S es) (x y:Int) (b:Bool) (hx:0<=x/\x<(n:Int)) (hy:0<=y/\y<(n:Int)) :
  Calls Tryz.prog 25 #[.pointer (some ⟨g,0,none⟩),.int .i64 x,.int .i64 y,.bool b] w λe w'=>e = .returned (.bool true)/\GyP w w' A Z g n S (dF es (lu x y) b):=by
 obtain ⟨Y,os,rs,ds,ls,Xs,vl,nb,mb,qv,lv,h,hz⟩:=h;obtain ⟨ar,cr,rfl,_,_⟩:=du h.lr;have H1:=ab (eM h.cell x);have H2:=ab (eM h.cell y);rw [aJ hx.1,aJ hx.2] at H1;rw [aJ hy.1,aJ hy.2] at H2;have HC:=ab (yU h.nt x y b hx hy h.n5);have HF:Hid (∀w2,NtP w w2 A Y nb n mb S.q (dF es (lu x y) b)->GyP w w2 A Z g n S (dF es (lu x y) b)):=ab λw2 p=>Gy.netp h hz p;have c1:w.cell? ⟨g,1,none⟩=some (.pointer (some ⟨nb,0,none⟩)):=by rw [af h.cell];rfl
 clear h hz hx hy;go_enter Tryz.func25,Tryz.ntmps25
 go_wp2_with fail
 refine H1.out.mono ?_;rintro e w1 ⟨rfl,rfl⟩;go_wp2_with fail
 refine H2.out.mono ?_;rintro e w1 ⟨rfl,rfl⟩;go_wp2_with fail
 refine HC.out.mono ?_;rintro e w2 ⟨rfl,hp⟩;have HG:=ab (HF.out w2 hp);clear hp;go_wp2_with fail
 go_ret
 exact ⟨rfl,HG.out⟩
set_option maxHeartbeats 2000000 in
theorem uP (h:Gy w A Z g n S es) (x y:Int) (b:Bool) (hxy:((decide (0<=x)&&decide (x<(n:Int)))&&(decide (0<=y)&&decide (y<(n:Int))))=false) :
  Calls Tryz.prog 25 #[.pointer (some ⟨g,0,none⟩),.int .i64 x,.int .i64 y,.bool b] w λe w'=>e = .returned (.bool false)/\w=w':=by
 obtain ⟨Y,os,rs,ds,ls,Xs,vl,nb,mb,qv,lv,h,hz⟩:=h;obtain ⟨ar,cr,rfl,_,_⟩:=du h.lr;have H1:=ab (eM h.cell x);have H2:=ab (eM h.cell y);clear h hz;generalize (decide (0<=x)&&decide (x<(n:Int)))=p1 at *;generalize (decide (0<=y)&&decide (y<(n:Int)))=p2 at *;cases p1
 ·clear hxy;go_enter Tryz.func25,Tryz.ntmps25
  go_wp2_with fail
  refine H1.out.mono ?_;rintro e w1 ⟨rfl,rfl⟩;go_wp2_with fail
  go_ret
  exact ⟨rfl,rfl⟩
 ·have:p2=false:=by simpa using hxy
  subst this;clear hxy;go_enter Tryz.func25,Tryz.ntmps25
  go_wp2_with fail
  refine H1.out.mono ?_;rintro e w1 ⟨rfl,rfl⟩;go_wp2_with fail
  refine H2.out.mono ?_;rintro e w1 ⟨rfl,rfl⟩;go_wp2_with fail
  go_ret
  exact ⟨rfl,rfl⟩
end
section
variable {w w' w2:World} {A A' X Y Y' Z Z':List Nat} {g n:Nat} {S:Mn} {es es':Cuts} {os rs ds ls:Nat->Nat} {Xs:Nat->List Nat} {vl:Value} {nb mb mb':Nat} {qv lv qv' pn:Value} {q':List Msg} {r d l:Nat} {s:Rp} {k:Dk}
set_option maxHeartbeats 4000000 in
theorem CH {v:Value} {L:List (List UInt8)} (hc:w.cell? ⟨g,2,none⟩=some v) (hl:ImmL w A v L) (hn:L.length<=900000) (hr:∀x∈L,x.length<=8000) :
  Calls Tryz.prog 27 #[.pointer (some ⟨g,0,none⟩),.int .i64 0] w λe w'=>∃v,e = .returned v/\OwnL w' w.heap.size v L/\Below w.heap.size w w':=by
 obtain ⟨ao,c,rfl⟩:=nI hl;have HAT:Hid (∀j,j<L.length->∃q u,ao=some ⟨q,0,none⟩/\w.cell? ⟨q,j,none⟩=some u/\Imm w A u (L.getD j [])):=ab λj hj=>by
  rcases hl with ⟨_,h0⟩ | ⟨q,c',cur,e1,h1,h2,h3,h4,h5⟩
  ·rw [h0] at hj;cases hj
  ·cases e1;obtain ⟨u,k1,k2⟩:=h5 j hj;exact ⟨q,u,rfl,by rw [af h4];exact k1,k2⟩
 have HF:Hid ((ao=none/\L.length=0/\c=0)\/∃q,ao=some ⟨q,0,none⟩/\L.length<=c/\c<=9223372036854775807):=ab (by
  rcases hl with ⟨e1,h0⟩ | ⟨q,c',cur,e1,h1,h2,h3,h4,h5⟩
  ·subst h0;cases e1;exact .inl ⟨rfl,rfl,rfl⟩
  ·cases e1;exact .inr ⟨q,rfl,h1,h2⟩)
 have HR:=ab hr;clear hl hr;generalize hm:L.length=m at *;have HM:Hid (L.length=m):=ab hm;have HST:Hid (∀j,j<m->L.take (j+1)=L.take j++[L.getD j []]):=ab λj hj=>by
  have hj':j<L.length:=by omega
  rw [<-bf hj'];simp [List.getD,hj']
 have HTK:Hid (∀j,j<=m->(L.take j).length=j):=ab λj hj=>by rw [aI,hm];omega
 have HAL:Hid (L.take m=L):=ab (by rw [<-hm];exact cK);clear hm;go_enter Tryz.func27,Tryz.ntmps27
 go_upto_region 2 with (fail)
 go_cut [20,21,22] (λv n i wx=>v = .slice ao m c/\n = .int .i64 (m:Int)/\i = .int .i64 0/\∃nq,wx=w.drewN nq)
 case first =>
  have q0:max (0:Int) 0=0:=rfl;have q1:min (0:Int) (m:Int)=0:=by omega
  rcases HF.out with ⟨rfl,e2,e3⟩ | ⟨q,rfl,h1,h2⟩
  ·subst e2;subst e3;go_quiet (fail)
   go_wp2_with fail
   go_meet
   exact ⟨rfl,rfl,rfl,nq,rfl⟩
  ·have q2:(m:Int)<=(c:Int):=by omega
   go_quiet (fail)
   go_wp2_with fail
   go_meet
   exact ⟨rfl,rfl,rfl,nq,rfl⟩
 case rest =>
 obtain ⟨rfl,rfl,rfl,nq,rfl⟩:=hcut;have HBQ:Hid (Below w.heap.size w (w.drewN nq)):=ab (ak w nq);go_wp2_with fail
 go_loopw [5,22] (λv i wr=>∃j:Nat,j<=m/\i = .int .i64 (j:Int)/\OwnL wr w.heap.size v (L.take j)/\Below w.heap.size w wr) (λ_ i _=>m - (intOf i).toNat)
 case atStart=>exact ⟨0,aH _,rfl,by simpa using OwnL.nil _ _,HBQ.out⟩
 case round =>
  obtain ⟨j,hj,rfl,hB,hBV⟩:=hrel;have HBB:=ab hB;have HBV:=ab hBV;clear hB hBV;by_cases hlt:j<m
  ·obtain ⟨q,u,rfl,hu1,him⟩:=HAT.out j hlt;have HS2:=ab (HST.out j hlt);have hblen:(L.getD j []).length<=8000:=HR.out _ (by
    have hj':j<L.length:=by rw [HM.out];exact hlt
    rw [aF,bK hj'];exact bO _)
   obtain ⟨au,cu,e,_⟩:=id him;subst e;generalize hbs:L.getD j []=bs at *;generalize hbl:bs.length=bl at *;have HBL:Hid (bs.length=bl):=ab hbl;have HIB:Hid (∀W',Below w.heap.size w W'->IsB W' au bl cu bs):=ab (λW' hb=>by
    obtain ⟨ao',c',e,h1,_⟩:=him.below hb;cases e;rw [hbl] at h1;exact h1)
   have hu1:=cell_later HBV.out hu1;have q5:(j:Int)<(m:Int):=by omega
   have q6:IntKind.i64.wrap ((j:Int)+1)=(j:Int)+1:=IntWalk.i64_in _ (by omega);have HRJ:Hid ((L.take j).length+1<=1000000):=ab (by rw [HTK.out j hj];omega);clear him hbs hbl;generalize L.take j=rj at *;obtain ⟨al,cl,evb,_⟩:=HBB.out.shape;subst evb;go_wp2_with fail
   refine (F.dd au bl cu bs _ (HIB.out _ HBV.out) (by omega)).mono ?_;rintro e W6 ⟨v5,rfl,ho5,hb5⟩;have HB6:=ab (HBB.out.below hb5);have HBV6:=ab (HBV.out.trans (hb5.mono HBV.out.size));have HV6:=ab (ho5.mono HBV.out.size);obtain ⟨a5,c5,e5,_⟩:=id HV6.out.isB;rw [HBL.out] at e5;subst e5;clear ho5 hb5;go_wp2_with (at_builtin;refine dc rfl (.tmp 26) (.tmp 29) rfl w.heap.size (.slice al rj.length cl) rj (by rfl) (HB6.out.below ((az _ _).alloc (ah _) _)) W6.heap.size (.slice a5 bl c5) bs (by rfl) ((af (aK W6 _) 0).trans rfl) (HV6.out.alloc _) HRJ.out (HBV6.out.alloc HBV6.out.size _).size ?_)
   intro a7 c7 W7 ho7 hb7 hg7;have HO7:=ab ho7;have HB7:=ab ((HBV6.out.alloc HBV6.out.size _).trans hb7);clear ho7 hb7 hg7;go_wp2_with fail
   go_roundw
   case rel=>exact ⟨j+1,by omega,rfl,by rw [HS2.out];exact HO7.out,HB7.out⟩
   case measure=>simp [intOf];omega
  ·obtain rfl:j=m:=by omega
   go_wp2_with fail
   go_ret
   exact ⟨_,rfl,by rw [<-HAL.out];exact HBB.out,HBV.out⟩
set_option maxHeartbeats 1000000 in
theorem rU {v:Value} {L:List (List UInt8)} (hc:w.cell? ⟨g,2,none⟩=some v) (hl:ImmL w A v L) (hn:L.length<=900000) (hr:∀x∈L,x.length<=8000) :
  Calls Tryz.prog 10 #[.pointer (some ⟨g,0,none⟩)] w λe w'=>∃v,e = .returned v/\OwnL w' w.heap.size v L/\Below w.heap.size w w':=by
 have HC:=ab (CH hc hl hn hr);clear hc hl hn hr;go_enter Tryz.func10,Tryz.ntmps10
 go_wp2_with fail
 refine HC.out.mono ?_;rintro e w1 ⟨v1,rfl,ho,hb⟩;have HO:=ab ho;have HB:=ab hb;clear ho hb;go_wp2_with fail
 go_ret
 exact ⟨_,rfl,HO.out,HB.out⟩
set_option maxHeartbeats 2000000 in
theorem nU (h:Gy w A Z g n S es) (i:Nat) (hi:i<n) (hU:mA n S) (hu:(S.at i).up=true) :
  Calls Tryz.prog 12 #[.pointer (some ⟨g,0,none⟩),.int .i64 (i:Int)] w λe w'=>∃v,e = .returned v/\Gy w' A Z g n S es/\ImmL w' A v (cU (S.at i).s)/\Mv A A Z Z w w':=by
 obtain ⟨Y,os,rs,ds,ls,Xs,vl,nb,mb,qv,lv,h,hz⟩:=h;have HU:=ab (jz h i hi hu (hU i hi hu).2);obtain ⟨gl,cr,rfl,hcr,hrow⟩:=h.lrow (by omega);have HZ:=ab hz;have HAG:Hid (∀w2,GyC w2 A Y g n S es os rs ds ls Xs (.slice (some ⟨gl,0,none⟩) n cr) nb mb qv lv->Calls Tryz.prog 28 #[.pointer (some ⟨rs i,0,none⟩)] w2 λe w'=>∃v,e = .returned v/\OwnL w' w2.heap.size v (cU (S.at i).s)/\Below w2.heap.size w2 w'):=ab λw2 h2=>og ((h2.node i hi).up hu) (hU i hi hu).1;have HLR:Hid (∀w2,GyC w2 A Y g n S es os rs ds ls Xs (.slice (some ⟨gl,0,none⟩) n cr) nb mb qv lv->w2.cell? ⟨g,0,none⟩=some (.slice (some ⟨gl,0,none⟩) n cr)/\w2.cell? ⟨gl,i,none⟩=some (.pointer (some ⟨os i,0,none⟩))/\w2.cell? ⟨os i,1,none⟩=some (.pointer (some ⟨rs i,0,none⟩))):=ab λw2 h2=>by
  obtain ⟨gl',cr',e9,_,hr2⟩:=h2.lrow (by omega);cases e9;exact ⟨by rw [af h2.cell];rfl,hr2 i hi,by rw [af (h2.one i hi)];rfl⟩
 have hin:(i:Int)<(n:Int):=by omega
 clear h hz hrow hU hu;go_enter Tryz.func12,Tryz.ntmps12
 go_wp2_with fail
 refine HU.out.mono ?_;rintro e w2 ⟨rfl,hc2,ho2,hrx⟩;have HMV:Hid (Mv A A Z Z w w2):=ab (Mv.only ho2 (λb hb=>by rw [aj.1 hb];exact (HZ.out _).2 (.inr ⟨i,hi,hrx⟩)));obtain ⟨k0,k1,k2⟩:=HLR.out w2 hc2;have HT2:=ab (HAG.out w2 hc2);have HC2:=ab hc2;clear hc2 ho2 hrx;go_wp2_with fail
 refine HT2.out.mono ?_;rintro e w3 ⟨v,rfl,hv,hb⟩;have HV:=ab (ImmL.new hv HC2.out.alt);have HM3:=ab (HMV.out.trans (Mv.below hb));have HG3:Hid (Gy w3 A Z g n S es):=ab ⟨_,_,_,_,_,_,_,_,_,_,_,HC2.out.below hb,HZ.out⟩;clear hv hb;go_wp2_with fail
 go_ret
 exact ⟨_,rfl,HG3.out,HV.out,HM3.out⟩
set_option maxHeartbeats 1000000 in
theorem tV (h:Gy w A Z g n S es) (x:Int) (hx:(decide (0<=x)&&decide (x<(n:Int)))=false\/∃i:Nat,i<n/\x=(i:Int)/\(S.at i).up=false) :
  Calls Tryz.prog 12 #[.pointer (some ⟨g,0,none⟩),.int .i64 x] w λe w'=>e = .returned (.slice none 0 0)/\w=w':=by
 obtain ⟨Y,os,rs,ds,ls,Xs,vl,nb,mb,qv,lv,h,hz⟩:=h;have HU:Hid (Calls Tryz.prog 13 #[.pointer (some ⟨g,0,none⟩),.int .i64 x] w λe w'=>e = .returned (.bool false)/\w=w'):=ab (by
  rcases hx with hx | ⟨i,hi,rfl,hu⟩
  ·exact qf h x hx
  ·exact gB h i hi hu)
 clear h hz hx;go_enter Tryz.func12,Tryz.ntmps12
 go_wp2_with fail
 refine HU.out.mono ?_;rintro e w1 ⟨rfl,rfl⟩;go_wp2_with fail
 go_ret
 exact ⟨rfl,rfl⟩
end
theorem tK (S:Mn) (n t:Nat) (h:t<n):fU S (n - t) t=if (S.at t).up&&(S.at t).s.leads then some t else fU S (n - (t+1)) (t+1):=by
 rw [show n - t=(n - (t+1))+1 by omega];rfl
section
variable {w w' w2:World} {A A' X Y Y' Z Z':List Nat} {g n cl lvv:Nat} {S:Mn} {es es':Cuts} {os rs ds ls:Nat->Nat} {Xs:Nat->List Nat} {vl:Value} {nb mb mb':Nat} {qv lv qv' pn:Value} {q':List Msg} {r d l:Nat} {s:Rp} {k:Dk}
theorem wJ (h:GyC w A Y g n S es os rs ds ls Xs vl nb mb qv lv) (hb:BInv n cl lvv S) (hd:dt n S) (i:Nat) (hi:i<n) (hu:(S.at i).up=true) :
  Calls Tryz.prog 33 #[.pointer (some ⟨rs i,0,none⟩)] w λe w'=>e = .returned (.bool (S.at i).s.leads)/\GyC w' A Y g n S es os rs ds ls Xs vl nb mb qv lv/\Only [rs i] w w'/\rs i∈Xs i:=by
 have hnd:=(h.node i hi).up hu;obtain ⟨e1,e2⟩:=tJ (hb.up i hi hu).1.off (hb.up i hi hu).2;refine (wy hnd).mono ?_;rintro e w2 ⟨rfl,h2,ho⟩;rw [e2] at h2;rw [e1,hd i hi hu];have hr:=hnd.rX;have hm:Mv A A (Xs i) (Xs i) w w2:=Mv.only ho (λb hb=>by rw [aj.1 hb];exact hr);have:=h.call hi hm (nd:=S.at i) ⟨λ_=>h2,λe=>(by rw [hu] at e;cases e),(h.node i hi).xA⟩ rfl (λb hb=>aE (h.alt b hb) ho.size);rw [Mn.set_self,oS] at this;exact ⟨by simp,this,ho,hr⟩
set_option maxHeartbeats 8000000 in
theorem nQ (h:Gy w A Z g n S es) (hb:BInv n cl lvv S) (hd:dt n S) :
  Calls Tryz.prog 15 #[.pointer (some ⟨g,0,none⟩)] w λe w'=>e = .returned (.tuple #[.int .i64 (((fU S n 0).getD 0:Nat):Int),.bool (fU S n 0).isSome])/\GyP w w' A Z g n S es:=by
 have hn0:=hb.n1;have hn5:=hb.n5;obtain ⟨Y,os,rs,ds,ls,Xs,vl,nb,mb,qv,lv,h,hz⟩:=h;obtain ⟨gl,cr,rfl,hcr,hrow⟩:=h.lrow (by omega);have c0:w.cell? ⟨g,0,none⟩=some (.slice (some ⟨gl,0,none⟩) n cr):=by rw [af h.cell];rfl
 have H1:=ab h;have HZ1:=ab hz;have HUP:=ab (hb.upok hd);have HLD:Hid (∀w2,GyC w2 A Y g n S es os rs ds ls Xs (.slice (some ⟨gl,0,none⟩) n cr) nb mb qv lv->∀i,i<n->(S.at i).up=true->Calls Tryz.prog 33 #[.pointer (some ⟨rs i,0,none⟩)] w2 λe w'=>e = .returned (.bool (S.at i).s.leads)/\GyC w' A Y g n S es os rs ds ls Xs (.slice (some ⟨gl,0,none⟩) n cr) nb mb qv lv/\Only [rs i] w2 w'/\rs i∈Xs i):=ab λw2 h2 i hi hu=>wJ h2 hb hd i hi hu;clear h hz hrow hb hd;go_enter Tryz.func15,Tryz.ntmps15
 go_wp2_with fail
 go_loopw [11,4,5] (λi a b wr=>∃(t:Nat),t<=n/\i = .int .i64 (t:Int)/\GyC wr A Y g n S es os rs ds ls Xs (.slice (some ⟨gl,0,none⟩) n cr) nb mb qv lv/\Mv A A Z Z w wr/\fU S n 0=fU S (n - t) t) (λi _ _ _=>n - (intOf i).toNat)
 case atStart=>exact ⟨0,aH _,rfl,H1.out,Mv.refl _ _ _,rfl⟩
 case round =>
  obtain ⟨t,ht,rfl,hc,m2,hml⟩:=hrel;by_cases hlt:t<n
  ·obtain ⟨gl',cr',e9,_,hrow⟩:=hc.lrow (by omega);cases e9;have r1:=hrow t hlt;unfold eg at r1;have HML:=ab (hml.trans (tK S n t hlt));have q6:IntKind.i64.wrap ((t:Int)+1)=(t:Int)+1:=IntWalk.i64_in _ (by omega);have hti:(t:Int)<(n:Int):=by omega
   have HM2:=ab m2;have HC2:=ab hc;clear hrow hml m2 c0;by_cases hu:(S.at t).up=true
   ·obtain ⟨hwf,hdn⟩:=HUP.out t hlt hu;have HU:=ab (jz hc t hlt hu hdn);have HU0:=ab hu;have HLT:=ab (HLD.out · · t hlt hu);clear hc hu hdn hwf;go_wp2_with fail
    refine HU.out.mono ?_;rintro e w2 ⟨rfl,hc2,ho2,hrx⟩;have o1:w2.cell? ⟨os t,1,none⟩=some (.pointer (some ⟨rs t,0,none⟩)):=by rw [af (hc2.one t hlt)];rfl
    have HM3:Hid (Mv A A Z Z w w2):=ab (HM2.out.trans (Mv.only ho2 (λb hb=>by rw [aj.1 hb];exact (HZ1.out _).2 (.inr ⟨t,hlt,hrx⟩))));have HL:=ab (HLT.out w2 hc2);clear hc2 ho2 hrx r1;generalize hld:(S.at t).s.leads=ld at *;have HLE:=ab hld;clear hld;go_wp2_with fail
    refine HL.out.mono ?_;rintro e w3 ⟨rfl,hc3,ho3,hrx⟩;have HC3:=ab hc3;have HM4:Hid (Mv A A Z Z w w3):=ab (HM3.out.trans (Mv.only ho3 (λb hb=>by rw [aj.1 hb];exact (HZ1.out _).2 (.inr ⟨t,hlt,hrx⟩))));clear hc3 ho3 hrx o1;cases ld with
    | true =>
     have HF:Hid (fU S n 0=some t):=ab (by rw [HML.out,HU0.out];rfl);have HG:Hid (GyP w w3 A Z g n S es):=ab ⟨A,Z,⟨_,_,_,_,_,_,_,_,_,_,_,HC3.out,HZ1.out⟩,HM4.out⟩;go_wp2_with fail
     go_ret2
     exact ⟨by rw [HF.out];rfl,HG.out⟩
    | false =>
     have HF:Hid (fU S n 0=fU S (n - (t+1)) (t+1)):=ab (by rw [HML.out,Bool.and_false];rfl);go_wp2_with fail
     go_roundw
     case rel=>exact ⟨t+1,by omega,by simp,HC3.out,HM4.out,HF.out⟩
     case measure=>simp [intOf];omega
   ·have hu2:(S.at t).up=false:=by simpa using hu
    have HU:=ab (gB hc t hlt hu2);have HF:Hid (fU S n 0=fU S (n - (t+1)) (t+1)):=ab (by rw [HML.out,hu2,C0];rfl);clear hc hu hu2;go_wp2_with fail
    refine HU.out.mono ?_;rintro e w2 ⟨rfl,rfl⟩;go_wp2_with fail
    go_roundw
    case rel=>exact ⟨t+1,by omega,by simp,HC2.out,HM2.out,HF.out⟩
    case measure=>simp [intOf];omega
  ·obtain rfl:t=n:=by omega
   have HF:Hid (fU S t 0=none):=ab (by rw [hml,pA];rfl);have HG:Hid (GyP w wr A Z g t S es):=ab ⟨A,Z,⟨_,_,_,_,_,_,_,_,_,_,_,hc,HZ1.out⟩,m2⟩;clear hc m2 hml;go_wp2_with fail
   go_ret2
   exact ⟨by rw [HF.out];rfl,HG.out⟩
end
theorem CA:(Tryz.prog.info? 56).map (λi=>(i.zero,i.size,i.bytes))=some (some (.pointer none),1,8):=by kernel_rfl
theorem my {w:World} {ops:Array Oper} {rest:List Oper} {o:Oper} {a:Act} {Q:Exit->Act->World->Prop} (hgd:o.guard=none) (s x:Operand) (t e:TypeId)
  (ho:o.op = .call { callee:=.builtin .append,args:=#[s,x],argTypes:=#[t,t]}) (ht:Tryz.prog.underlying t=some (.slice e)) (hi:(Tryz.prog.info? e).map (λi=>(i.zero,i.size,i.bytes))=some (some (.pointer none),1,8))
  (v:Value) (i:Nat) (xs:List Value) (hs:a.eval s=v) (hown:w.ownsRow 0 e 1 v i xs) (H p:Nat) (hx:a.eval x = .slice (some ⟨H,0,none⟩) 1 1) (hH:w.heap[H]? = some (.cells #[eg p] e (0,0))) (hb:i<=1000)
  (h:∀v' w',w'.ownsRow 0 e 1 v' (i+1) (xs++[eg p])->Only v.ownBlock.toList w w'->(∀k,v'.ownBlock=some k->v.ownBlock=some k\/w.heap.size<=k)->wpList Tryz.prog ops Q rest (a.put o.dst v') w'):wpList Tryz.prog ops Q (o::rest) a w:=by
 obtain ⟨i0,hi0,hz0,hz1,hz2⟩:=info_parts hi;refine eD hgd s x t ho e i0 (.pointer none) 1 8 ht hi0 hz0 hz1 hz2 rfl (by decide) v _ _ hs hown (some ⟨H,0,none⟩) 1 1 hx (λe=>by cases e) [eg p] (by rfl) (C4 hH) ?_ (by unfold maxLen;omega) (by omega) ?_
 ·intro u hu;rw [aj.1 hu];rfl
 ·intro v' w' g1 g2 g3;exact h v' w' g1 g2 g3
structure BegG (w:World) (A Y:List Nat) (g n i:Nat) (os rs ds ls:Nat->Nat) (Xs:Nat->List Nat) (vl:Value) (nb mb:Nat):Prop where
 cell:w.heap[g]? = some (.cells #[vl,eg nb,.slice none 0 0] 47 (0,0))
 lr:w.ownsRow 0 56 1 vl i (pV os i)
 one:∀j,j<i->w.heap[os j]? = some (.cells #[eg (ds j),eg (rs j),.bool true] 58 (0,0))
 net:w.heap[nb]? = some (.cells #[.int .i64 (n:Int),.int .i64 2000,.slice none 0 0,.map (some mb)] 66 (0,0))
 cut:IsCut w mb []
 node:∀j,j<i->NodeAt w A (Xs j) (rs j) (ds j) (ls j) (yO n j)
 gY:g∈Y
 oY:∀j,j<i->os j∈Y
 lY:∀b,vl.ownBlock=some b->b∈Y
 nY:nb∈Y
 mY:mb∈Y
 oo:∀j1 j2,j1<i->j2<i->os j1=os j2->j1=j2
 yx:∀j,j<i->Dis Y (Xs j)
 xx:∀j1 j2,j1<i->j2<i->j1≠j2->Dis (Xs j1) (Xs j2)
 yA:∀b∈Y,b∈A
 alt:∀b∈A,b<w.heap.size
theorem vK (f:Nat->Nat) (i x:Nat):pV (jU f i x) (i+1)=pV f i++[eg x]:=by
 unfold pV;rw [dT,bS];congr 1
 ·apply Dn;intro j hj;rw [co _ _ (by have:=cW.1 hj;omega)]
 ·simp [cP]
section
variable {w w' wx:World} {A A' Y Z Z' X:List Nat} {g n i:Nat} {S:Mn} {os rs ds ls:Nat->Nat} {Xs:Nat->List Nat} {vl vl':Value} {nb mb:Nat}
theorem BegG.keep {T:List Nat} (h:BegG w A Y g n i os rs ds ls Xs vl nb mb) (ho:Only T w w') (hT:∀b∈T,b∈A) (hY:∀b∈Y,b∉T) (hX:∀j,j<i->∀b∈Xs j,b∉T) (he:Ext A A' w) (hs:∀b∈A,b∈A') (ha:∀b∈A',b<w'.heap.size):BegG w' A' Y g n i os rs ds ls Xs vl nb mb :=
 ⟨ho.keeps h.cell (hY _ h.gY),bu h.lr ho (λb hb=>hY _ (h.lY b hb)),λj hj=>ho.keeps (h.one j hj) (hY _ (h.oY j hj)),ho.keeps h.net (hY _ h.nY),h.cut.only ho (hY _ h.mY),λj hj=>(h.node j hj).keep ho hT (hX j hj) he hs ha,
  h.gY,h.oY,h.lY,h.nY,h.mY,h.oo,h.yx,h.xx,λb hb=>hs b (h.yA b hb),ha⟩
theorem BegG.done (h:BegG w A Y g n n os rs ds ls Xs vl nb mb) (hn:n<=5):GyC w A Y g n (Mn.begun n) [] os rs ds ls Xs vl nb mb (.slice none 0 0) (.slice none 0 0) :=
 ⟨h.cell,h.lr,λj hj=>by rw [gD n j hj];exact h.one j hj,h.net,h.cut,λj hj=>by rw [gD n j hj];exact h.node j hj,.inl ⟨rfl,rfl⟩,(λp n c e=>by cases e),.inl ⟨rfl,rfl⟩,by simp [Mn.begun],hn,h.gY,h.oY,h.lY,h.nY,h.mY,h.oo,h.yx,h.xx,h.yA,h.alt⟩
theorem BegG.step {r d l o:Nat} (h:BegG w A Y g n i os rs ds ls Xs vl nb mb) (hn:Nd w A X r d l (dg i n 1 []) B2) (hdy:Dis Y X) (hdx:∀j,j<i->Dis (Xs j) X) (ho:Only vl.ownBlock.toList w wx) (hone:wx.heap[o]? = some (.cells #[eg d,eg r,.bool true] 58 (0,0))) (hoo:w.heap.size<=o)
  (hr:wx.ownsRow 0 56 1 vl' (i+1) (pV os i++[eg o])) (hnr:∀b,vl'.ownBlock=some b->vl.ownBlock=some b\/w.heap.size<=b) :
  ∃A' Y',BegG (wx.setCell ⟨g,0,none⟩ vl') A' Y' g n (i+1) (jU os i o) (jU rs i r) (jU ds i d) (jU ls i l) (jU Xs i X) vl' nb mb/\Ext A A' w/\(∀b∈A,b∈A')/\(∃T,Only T w (wx.setCell ⟨g,0,none⟩ vl')/\∀b∈T,b∈Y)/\∀b∈Y',b∈Y\/w.heap.size<=b:=by
 have hlY:∀b∈vl.ownBlock.toList,b∈Y:=λb hb=>h.lY b (by simpa using hb);have hgl:g∉vl.ownBlock.toList:=λhm=>by
  have:=cV h.lr (show vl.ownBlock=some g by simpa using hm);rw [h.cell] at this;simp at this
 have hne:∀{b:Nat} {cs:Array Value} {t:TypeId} {fr:Nat×Nat},w.heap[b]? = some (.cells cs t fr)->t≠56->b∉vl.ownBlock.toList:=λ{b cs t fr} hb h1 hm=>by
  obtain ⟨_,cur,hc⟩:=eH h.lr (show vl.ownBlock=some b by simpa using hm);rw [hc] at hb;simp at hb;exact h1 hb.2.1.symm
 have hmg:mb∉vl.ownBlock.toList:=λhm=>by
  obtain ⟨arr,c,h3,_⟩:=h.cut.map;obtain ⟨_,cur,hc⟩:=eH h.lr (show vl.ownBlock=some mb by simpa using hm);rw [hc] at h3;cases h3
 have hcx:=ho.keeps h.cell hgl;have hon:Only [g] wx (wx.setCell ⟨g,0,none⟩ vl'):=(Only.refl _ _).setCell (by simp) _;have hTY:∀b∈g::vl.ownBlock.toList,b∈Y:=λb hb=>by
  rcases bg.1 hb with rfl | hb
  ·exact h.gY
  ·exact hlY b hb
 have hTA:=λb hb=>h.yA b (hTY b hb);have ho5:Only (g::vl.ownBlock.toList) w (wx.setCell ⟨g,0,none⟩ vl'):=(ho.mono (λb hb=>aU _ hb)).setCell (by simp) _;have hng:∀{b:Nat} {cs:Array Value} {t:TypeId} {fr:Nat×Nat},wx.heap[b]? = some (.cells cs t fr)->t≠47->b∉[g]:=λ{b cs t fr} hb h1 hm=>by
  rw [aj.1 hm,hcx] at hb;simp at hb;exact h1 hb.2.1.symm
 have hlt:o<wx.heap.size:=aQ hone;have hnewY:∀b∈o::vl'.ownBlock.toList,b∈Y\/w.heap.size<=b:=λb hb=>by
  rcases bg.1 hb with rfl | hb
  ·exact .inr hoo
  ·exact (hnr b (by simpa using hb)).imp (h.lY b) id
 have hext:Ext A (A++(o::vl'.ownBlock.toList)) w:=λb hb=>by
  rcases ap.1 hb with hb | hb
  ·exact .inl hb
  ·exact (hnewY b hb).imp (h.yA b) id
 have hsub:∀b∈A,b∈A++(o::vl'.ownBlock.toList):=λb hb=>aG _ hb;have halt:∀b∈A++(o::vl'.ownBlock.toList),b<(wx.setCell ⟨g,0,none⟩ vl').heap.size:=λb hb=>by
  rcases ap.1 hb with hb | hb
  ·exact aE (h.alt b hb) ho5.size
  ·have:b<wx.heap.size:=by
    rcases bg.1 hb with rfl | hb
    ·exact hlt
    ·exact (World.ownsRow.lt hr b (by simpa using hb)).2
   simpa using this
 have hyn:∀b∈Y++(o::vl'.ownBlock.toList),b∈Y\/w.heap.size<=b:=λb hb=>by
  rcases ap.1 hb with hb | hb
  ·exact .inl hb
  ·exact hnewY b hb
 have hdis:∀P:List Nat,(∀b∈P,b<w.heap.size)->Dis Y P->Dis (Y++(o::vl'.ownBlock.toList)) P:=λP hP hd b hb hp=>by
  rcases hyn b hb with h1 | h1
  ·exact hd b h1 hp
  ·have:=hP b hp;omega
 have hXA:∀b∈X,b∈A:=hn.xA;refine ⟨_,Y++(o::vl'.ownBlock.toList),⟨?_,?_,λj hj=>?_,?_,?_,λj hj=>?_,aG _ h.gY,λj hj=>?_,λb hb=>aO _ (aU _ (by simp [hb])),aG _ h.nY,aG _ h.mY,λj1 j2 h1 h2 he=>?_,λj hj=>?_,λj1 j2 h1 h2 hne=>?_,λb hb=>?_,halt⟩,hext,hsub,⟨_,ho5,hTY⟩,hyn⟩
 ·rw [aR hcx];rfl
 ·rw [vK];refine bu hr hon (λb hb=>?_);obtain ⟨_,cur,hc⟩:=eH hr hb;exact hng hc (by decide)
 ·by_cases e:j=i
  ·subst e;rw [cP,cP,cP];exact hon.keeps hone (hng hone (by decide))
  ·rw [co _ _ e,co _ _ e,co _ _ e];have h1:=h.one j (by omega);have h2:=ho.keeps h1 (hne h1 (by decide));exact hon.keeps h2 (hng h2 (by decide))
 ·have h2:=ho.keeps h.net (hne h.net (by decide));exact hon.keeps h2 (hng h2 (by decide))
 ·refine (h.cut.only ho hmg).only hon (λhm=>?_);obtain ⟨arr,c,h3,_⟩:=(h.cut.only ho hmg).map;rw [aj.1 hm,hcx] at h3;cases h3
 ·by_cases e:j=i
  ·subst e;rw [cP,cP,cP,cP];exact ⟨λ_=>hn.keepS ho5 hTA (λb hb hm=>hdy b (hTY b hm) hb) hext hsub halt,(λe=>by cases e),λb hb=>hsub b (hXA b hb)⟩
  ·rw [co _ _ e,co _ _ e,co _ _ e,co _ _ e];exact (h.node j (by omega)).keep ho5 hTA (λb hb hm=>h.yx j (by omega) b (hTY b hm) hb) hext hsub halt
 ·by_cases e:j=i
  ·subst e;rw [cP];exact aO _ cz
  ·rw [co _ _ e];exact aG _ (h.oY j (by omega))
 ·have hold:∀j,j<i->os j<w.heap.size:=λj hj=>h.alt _ (h.yA _ (h.oY j hj));by_cases e1:j1=i
  ·by_cases e2:j2=i
   ·omega
   ·rw [e1,cP,co _ _ e2] at he;have:=hold j2 (by omega);omega
  ·by_cases e2:j2=i
   ·rw [e2,cP,co _ _ e1] at he;have:=hold j1 (by omega);omega
   ·rw [co _ _ e1,co _ _ e2] at he;exact h.oo j1 j2 (by omega) (by omega) he
 ·by_cases e:j=i
  ·subst e;rw [cP];exact hdis X (λb hb=>h.alt b (hXA b hb)) hdy
  ·rw [co _ _ e];exact hdis (Xs j) (λb hb=>h.alt b ((h.node j (by omega)).xA b hb)) (h.yx j (by omega))
 ·by_cases e1:j1=i
  ·subst e1;rw [cP,co _ _ (λe=>hne e.symm)];exact (hdx j2 (by omega)).symm
  ·by_cases e2:j2=i
   ·subst e2;rw [cP,co _ _ e1];exact hdx j1 (by omega)
   ·rw [co _ _ e1,co _ _ e2];exact h.xx j1 j2 (by omega) (by omega) hne
 ·rcases ap.1 hb with hb | hb
  ·exact hsub b (h.yA b hb)
  ·exact aO _ hb
end
section
variable {w w':World} {A:List Nat}
set_option maxHeartbeats 2000000 in
theorem zJ (x:Int) (hx:x<1\/5<x):Calls Tryz.prog 7 #[.int .i64 x] w λe w'=>e = .returned (.tuple #[.pointer none,.int .i64 1])/\w=w':=by
 by_cases h1:x<1
 ·clear hx;go_enter Tryz.func7,Tryz.ntmps7
  go_wp2_with fail
  go_ret2
  exact ⟨rfl,rfl⟩
 ·have h2:5<x:=by omega
  clear hx;go_enter Tryz.func7,Tryz.ntmps7
  go_wp2_with fail
  go_ret2
  exact ⟨rfl,rfl⟩
set_option maxHeartbeats 8000000 in
theorem nK (n:Nat) (hn1:1<=n) (hn:n<=5) (hA:∀b∈A,b<w.heap.size):Calls Tryz.prog 7 #[.int .i64 (n:Int)] w λe w'=>∃g A' Z,e = .returned (.tuple #[.pointer (some ⟨g,0,none⟩),.int .i64 0])/\Gy w' A' Z g n (Mn.begun n) []/\Mv A A' [] Z w w':=by
 have HA:=ab hA;clear hA;have g1:¬(n:Int)<1:=by omega
 have g2:¬(5:Int)<(n:Int):=by omega
 go_enter Tryz.func7,Tryz.ntmps7
 go_wp2_with fail
 have hb1:Below w.heap.size w (w.alloc (.cells #[.slice none 0 0,.pointer none,.slice none 0 0] 47)):=(az _ _).alloc (ah _) _;have hg1:=aK w (.cells #[.slice none 0 0,.pointer none,.slice none 0 0] 47);have hs1:(w.alloc (.cells #[.slice none 0 0,.pointer none,.slice none 0 0] 47)).heap.size=w.heap.size+1:=by simp
 have HNN:=ab (yP (n:Int) 2000 (w.alloc (.cells #[.slice none 0 0,.pointer none,.slice none 0 0] 47)) (by omega) (by omega) (by omega) (by omega));have HB1:=ab hb1;have HG1:=ab hg1;clear hb1 hg1;generalize w.alloc (.cells #[.slice none 0 0,.pointer none,.slice none 0 0] 47)=w1 at *;rw [hs1] at HNN;refine HNN.out.mono ?_;rintro e w2 ⟨rfl,hnet,hcut,hb2,hs2⟩;have hb2':Below w1.heap.size w1 w2:=by rw [hs1];exact hb2
 have HB2:Hid (Below w.heap.size w w2):=ab (HB1.out.trans (hb2'.mono HB1.out.size));have hg2:w2.heap[w.heap.size]? = some (.cells #[.slice none 0 0,.pointer none,.slice none 0 0] 47 (0,0)):=(Only.ofBelow hb2' []).keeps HG1.out (by simp);have hc1:w2.cell? ⟨w.heap.size,1,none⟩=some (.pointer none):=by rw [af hg2];rfl
 have hz1:=aM hg2 1;have HBEG:Hid (BegG (w2.setCell ⟨w.heap.size,1,none⟩ (eg (w.heap.size+1+1))) (A++[w.heap.size,w.heap.size+1,w.heap.size+1+1]) [w.heap.size,w.heap.size+1,w.heap.size+1+1] w.heap.size n 0 (λ_=>0) (λ_=>0) (λ_=>0) (λ_=>0) (λ_=>[]) (.slice none 0 0) (w.heap.size+1+1) (w.heap.size+1)):=ab (by
  have hon:Only [w.heap.size] w2 (w2.setCell ⟨w.heap.size,1,none⟩ (eg (w.heap.size+1+1))):=(Only.refl _ _).setCell (by simp) _;refine ⟨by rw [aR hg2];rfl,World.ownsRow_nil _ _ _ _,λj hj=>by omega,hon.keeps hnet (by simp;omega),hcut.only hon (by simp),λj hj=>by omega,by simp,λj hj=>by omega,(λb hb=>by cases hb),by simp,by simp,λj1 j2 h=>by omega,λj hj=>by omega,λj1 j2 h1=>by omega,λb hb=>aO _ hb,λb hb=>?_⟩;rcases ap.1 hb with h1 | h1
  ·have:=HA.out b h1;simp;omega
  ·simp at h1 ⊢;omega)
 have HB3:Hid (Below w.heap.size w (w2.setCell ⟨w.heap.size,1,none⟩ (eg (w.heap.size+1+1)))):=ab (HB2.out.setCell (ah _) _);unfold eg at HBEG HB3;clear hnet hcut hb2 hb2' hg2 HNN;go_wp2_with fail
 generalize w2.setCell ⟨w.heap.size,1,none⟩ (.pointer (some ⟨w.heap.size+1+1,0,none⟩))=w3 at *;go_loopw [27] (λv wr=>∃(i:Nat) (A1 Y:List Nat) (os rs ds ls:Nat->Nat) (Xs:Nat->List Nat) (vl:Value),i<=n/\v = .int .i64 (i:Int)/\BegG wr A1 Y w.heap.size n i os rs ds ls Xs vl (w.heap.size+1+1) (w.heap.size+1)/\Below w.heap.size w wr/\Ext A A1 w/\(∀b∈A,b∈A1)/\(∀b∈Y,w.heap.size<=b)/\∀j,j<i->∀b∈Xs j,w.heap.size<=b) (λv _=>n - (intOf v).toNat)
 case atStart =>
  refine ⟨0,_,_,_,_,_,_,_,_,aH _,rfl,HBEG.out,HB3.out,λb hb=>?_,λb hb=>aG _ hb,λb hb=>by simp at hb;omega,λj hj=>by omega⟩;rcases ap.1 hb with h1 | h1
  ·exact .inl h1
  ·right;simp at h1;omega
 case round =>
  obtain ⟨i,A1,Y,os,rs,ds,ls,Xs,vl,hin,rfl,hbeg,hbl,hext,hsub,hyge,hxge⟩:=hrel;have HBG:=ab hbeg;have HBL:=ab hbl;have HEX:=ab (And.intro hext (And.intro hsub (And.intro hyge hxge)));clear hbeg hbl hext hsub hyge hxge hc1 hz1;have q6:IntKind.i64.wrap ((i:Int)+1)=(i:Int)+1:=IntWalk.i64_in _ (by omega);by_cases hlt:i<n
  ·have hlt2:(i:Int)<(n:Int):=by omega
   go_wp2_with fail
   refine (Ct wr).mono ?_;rintro e w4 ⟨d,D,rfl,hdk,hb2,hDg⟩;have HDK:=ab hdk;have HB22:=ab hb2;have HDG:=ab hDg;clear hdk hb2 hDg;have hA2:∀b∈A1++D,b<w4.heap.size:=λb hb=>by
    rcases ap.1 hb with h1 | h1
    ·exact aE (HBG.out.alt b h1) HB22.out.size
    ·exact HDK.out.lt b h1
   have HOP:=ab (na HDK.out rfl i n hn hlt [] ⟨.inl ⟨rfl,rfl⟩⟩ (λx hx=>by cases hx) (by decide) trivial (by simp) hA2 (λb hb=>aO _ hb));have HA2:=ab hA2;clear hA2;go_wp2_with fail
   refine HOP.out.mono ?_;rintro e w5 ⟨r,l,A3,X3,rfl,hnd,hmv⟩;have HND:Hid (Nd w5 A3 X3 r d l (dg i n 1 []) B2):=ab hnd;have HMV:=ab hmv;clear hnd hmv HOP;have hYD:∀b∈Y,b∉D:=λb hb hd=>by have:=HBG.out.alt b (HBG.out.yA b hb);have:=HDG.out b hd;omega
   have hXD:∀j,j<i->∀b∈Xs j,b∉D:=λj hj b hb hd=>by have:=HBG.out.alt b ((HBG.out.node j hj).xA b hb);have:=HDG.out b hd;omega
   have hB2:=HBG.out.keep (A':=A1++D) (T:=[]) (Only.ofBelow HB22.out []) (λb hb=>by cases hb) (λb _=>by simp) (λj _ b _=>by simp) (λb hb=>by
    rcases ap.1 hb with h1 | h1
    ·exact .inl h1
    ·exact .inr (HDG.out b h1)) (λb hb=>aG _ hb) HA2.out
   have hB3:=hB2.keep (A':=A3) (T:=D) HMV.out.mv.only (λb hb=>aO _ hb) hYD hXD HMV.out.ext HMV.out.sub HND.out.alt;have hX3:∀P:List Nat,(∀b∈P,b<wr.heap.size)->Dis P X3:=λP hP b hb hx=>by
    have h0:=hP b hb;rcases HMV.out.mv.gr b hx with h1 | h1
    ·have:=HDG.out b h1;omega
    ·have:=HB22.out.size;omega
   have HDY:Hid (Dis Y X3):=ab (hX3 Y (λb hb=>HBG.out.alt b (HBG.out.yA b hb)));have HDX:Hid (∀j,j<i->Dis (Xs j) X3):=ab (λj hj=>hX3 (Xs j) (λb hb=>HBG.out.alt b ((HBG.out.node j hj).xA b hb)));have HB5:=ab hB3;obtain ⟨ar,kr,e9,_⟩:=du hB3.lr;subst e9;have HGE:Hid (w.heap.size<=w5.heap.size/\Below w.heap.size w w4):=ab ⟨aD (HBL.out.trans (HB22.out.mono HBL.out.size)).size HMV.out.mv.only.size,HBL.out.trans (HB22.out.mono HBL.out.size)⟩;have hc0:w5.cell? ⟨w.heap.size,0,none⟩=some (.slice ar i kr):=by rw [af hB3.cell];rfl
   clear hYD hXD hB2 hX3 hB3;have HO1:=ab (aK w5 (.cells #[.pointer (some ⟨d,0,none⟩),.pointer (some ⟨r,0,none⟩),.bool true] 58));have hbo:Below w5.heap.size w5 (w5.alloc (.cells #[.pointer (some ⟨d,0,none⟩),.pointer (some ⟨r,0,none⟩),.bool true] 58)):=(az _ _).alloc (ah _) _;have HBO:=ab hbo;clear hbo;have hi1000:i<=1000:=by omega
   go_wp2_with (at_builtin;refine my rfl (.tmp 45) (.tmp 50) 44 56 rfl ?_ CA (.slice ar i kr) i (pV os i) ?_ ?_ (w5.heap.size+1) w5.heap.size ?_ ?_ hi1000 ?_)
   ·kernel_rfl
   ·rfl
   ·exact gb (gb HB5.out.lr HBO.out) ((az _ _).alloc (ah _) _)
   ·rfl
   ·have h9:=aK (w5.alloc (.cells #[.pointer (some ⟨d,0,none⟩),.pointer (some ⟨r,0,none⟩),.bool true] 58)) (.cells #[.pointer (some ⟨w5.heap.size,0,none⟩)] 56);rw [show (w5.alloc (.cells #[.pointer (some ⟨d,0,none⟩),.pointer (some ⟨r,0,none⟩),.bool true] 58)).heap.size=w5.heap.size+1 by simp] at h9;exact h9
   intro v' w7 hr7 ho7 hf7;obtain ⟨a8,k8,e8,_⟩:=du hr7;subst e8;generalize hV:w5.alloc (.cells #[.pointer (some ⟨d,0,none⟩),.pointer (some ⟨r,0,none⟩),.bool true] 58)=V at *;have hs5:V.heap.size=w5.heap.size+1:=by rw [<-hV];simp
   have hb67:Below w5.heap.size w5 (V.alloc (.cells #[.pointer (some ⟨w5.heap.size,0,none⟩)] 56)):=HBO.out.alloc (by omega) _;have hO7:Only (Value.slice ar i kr).ownBlock.toList w5 w7:=(Only.ofBelow hb67 _).trans ho7;have hone7:w7.heap[w5.heap.size]? = some (.cells #[eg d,eg r,.bool true] 58 (0,0)):=by
    refine ho7.keeps (bb HO1.out _) (λhm=>?_);have:=(World.ownsRow.lt HB5.out.lr w5.heap.size (by simpa using hm)).2;omega
   obtain ⟨A8,Y8,hB8,hext8,hsub8,⟨T8,hoT8,hT8⟩,hy8⟩:=HB5.out.step HND.out HDY.out HDX.out hO7 hone7 (ah _) hr7 (λb hb=>(hf7 b hb).imp id (λh9=>by have h10:=hb67.size;omega));have hg7:=hO7.keeps HB5.out.cell (λhm=>by
    have:=cV HB5.out.lr (show (Value.slice ar i kr).ownBlock=some w.heap.size by simpa using hm);rw [HB5.out.cell] at this;simp at this)
   have c7:w7.cell? ⟨w.heap.size,0,none⟩=some (.slice ar i kr):=by rw [af hg7];rfl
   have z7:=aM hg7 0;have HB8:=ab hB8;have HF8:Hid (Below w.heap.size w (w7.setCell ⟨w.heap.size,0,none⟩ (.slice a8 (i+1) k8))/\Ext A A8 w/\(∀b∈A,b∈A8)/\(∀b∈Y8,w.heap.size<=b)/\∀j,j<i+1->∀b∈jU Xs i X3 j,w.heap.size<=b):=ab (by
    obtain ⟨e1,e2,e3,e4⟩:=HEX.out;have hDw:∀b∈D,w.heap.size<=b:=λb hb=>aD HBL.out.size (HDG.out b hb);have k5:Only D w4 w5:=HMV.out.mv.only;have kB:Below w.heap.size w w5:=by
     have k0:=HGE.out.2;exact ⟨k5.os.trans k0.os,k5.tape.trans k0.tape,k5.output.trans k0.output,HGE.out.1,λb hb=>(k5.block b (aE hb k0.size) (λhm=>by have:=hDw b hm;omega)).trans (k0.block b hb)⟩
    refine ⟨⟨hoT8.os.trans kB.os,hoT8.tape.trans kB.tape,hoT8.output.trans kB.output,aD kB.size hoT8.size,λb hb=>(hoT8.block b (aE hb kB.size) (λhm=>by have:=e3 b (hT8 b hm);omega)).trans (kB.block b hb)⟩,λb hb=>?_,λb hb=>hsub8 b (HMV.out.sub b (aG _ (e2 b hb))),λb hb=>?_,λj hj b hb=>?_⟩
    ·rcases hext8 b hb with h1 | h1
     ·rcases HMV.out.ext b h1 with h2 | h2
      ·rcases ap.1 h2 with h3 | h3
       ·exact e1 b h3
       ·exact .inr (hDw b h3)
      ·exact .inr (aD (HGE.out.2).size h2)
     ·exact .inr (aD HGE.out.1 h1)
    ·rcases hy8 b hb with h1 | h1
     ·exact e3 b h1
     ·exact aD HGE.out.1 h1
    ·by_cases e:j=i
     ·subst e;rw [cP] at hb;rcases HMV.out.mv.gr b hb with h1 | h1
      ·exact hDw b h1
      ·exact aD (HGE.out.2).size h1
     ·rw [co _ _ e] at hb;exact e4 j (by omega) b hb)
   clear hB8 hext8 hsub8 hoT8 hT8 hy8 hg7 hone7 hO7 hb67 hs5 hr7 ho7 hf7 hc0;go_wp2_with fail
   go_roundw
   case rel=>exact ⟨i+1,A8,Y8,_,_,_,_,_,_,by omega,by simp,HB8.out,HF8.out.1,HF8.out.2.1,HF8.out.2.2.1,HF8.out.2.2.2.1,HF8.out.2.2.2.2⟩
   case measure=>simp [intOf];omega
  ·obtain rfl:i=n:=by omega
   have HF:Hid (∃A' Z,Gy wr A' Z w.heap.size i (Mn.begun i) []/\Mv A A' [] Z w wr):=ab (by
    obtain ⟨e1,e2,e3,e4⟩:=HEX.out;refine ⟨A1,Y++(List.range i).flatMap Xs,⟨Y,os,rs,ds,ls,Xs,vl,_,_,_,_,HBG.out.done hn,λb=>by simp [fd]⟩,⟨⟨Only.ofBelow HBL.out [],λb hb=>?_,λb hb=>by cases hb⟩,e1,e2⟩⟩;rcases ap.1 hb with h1 | h1
    ·exact .inr (e3 b h1)
    ·obtain ⟨j,hj,hx⟩:=fd.1 h1;exact .inr (e4 j (cW.1 hj) b hx))
   clear HBG HBL HEX;go_wp2_with fail
   go_ret2
   obtain ⟨A',Z,h1,h2⟩:=HF.out;exact ⟨_,A',Z,rfl,h1,h2⟩
end
end Go.Proofs.YtnhefallmioefaaGreat
