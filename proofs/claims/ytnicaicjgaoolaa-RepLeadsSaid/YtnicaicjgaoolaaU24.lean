/-
  What the proof of the law leans on: contracts of the program's functions, one behind another. No condition.
-/
import Derived.Test.YtnicaicjgaoolaaU0
import Derived.Test.YtnicaicjgaoolaaU23
import Derived.Test.YtnicaicjgaoolaaU1
import Derived.Test.YtnicaicjgaoolaaU3
import Derived.Test.YtnicaicjgaoolaaU10
import Derived.Test.YtnicaicjgaoolaaU17
set_option linter.unusedVariables false
set_option linter.unusedSimpArgs false
namespace Go.Proofs.Ytnicaicjgaoolaa
open Go.RowKit Go.ChangeMaps Go.WideMaps Go.Maps
set_option maxRecDepth 20000
theorem xu {p:Prop} (h:p:=by
 refine cf 10 λK hK=>?_;refine bL rfl λQ' hQ=>?_;refine jq rfl (.tmp 63) (.tmp 68) rfl HV2.out.q HV2.out.yA HV2.out.alt HH2 HMG2.out (by have:=HQ2.out;omega) (by rfl) (by rfl) ?_;intro v3 V3 hqp;obtain ⟨a3,n3,c3,e3⟩:=hqp.shape;subst e3;have HQP:=ab hqp;obtain ⟨T3,ho3,hT3⟩:=hqp.only HV2.out.yA;have hk3:=HK.out T3 _ _ HB2.out ho3 hT3;refine hQ _ _ ?_;clear hQ Q' hqp;refine hK.out _ _ hk3 (λam=>?_);clear hK K;refine bu ?_;have hc3:=HV2.out.cell_qp HQP.out;have HO3:=ab (And.intro ho3 hT3);have HCT:Hid (∀b∈c::T3,b∈A1):=ab (λb hb=>(bG.1 hb).elim (λe=>e ▸ HV2.out.yA _ HV2.out.cY) (HO3.out.2 b));clear hk3 ho3 hT3;refine az 11 ?_;refine az 12 ?_;refine cf 13 λK hK=>?_;have hy3:V3.cell? ⟨c,3,none⟩=some (.slice aq ql cq):=by rw [af hc3];rfl
 have hz3:=aO hc3 3;go_simp
 clear hy3 hz3;refine hK.out _ _ (HK.out (c::T3) _ _ HB2.out ((HO3.out.1.mono (λb hb=>aI _ hb)).setCell (p:=⟨c,3,none⟩) (by simp) (.slice a3 n3 c3)) HCT.out) (λam=>?_);clear hK K;refine bu ?_;refine fc ?_;clear am;have HF:=ab (SyP.trans (HM1.out.trans (Mv.below HB2.out)) (HV2.out.setq HZ1.out HQP.out));clear hc3;go_wp2_with fail
 go_roundw
 case rel =>
  refine ⟨j+1,by omega,by simp,?_⟩;rw [HSTJ.out,HAD.out];exact HF.out
 case measure=>simp [intOf];omega):p:=h
section
variable {w w':World} {A A' Y Z Z':List Nat} {c n:Nat} {S:Mn} {rs ds ls:Nat->Nat} {Xs:Nat->List Nat} {vr vd:Value} {gu:Nat} {qv gv lv:Value}
theorem SyC.cell_qp {q:List Msg} {v':Value} (h:SyC w A Y c n S rs ds ls Xs vr vd gu qv gv lv) (hp:QP w w' A Y v' q):w'.heap[c]? = some (.cells #[vr,vd,.slice (some ⟨gu,0,none⟩) n n,qv,gv,lv,.bool S.bad] 38 (0,0)):=by
 obtain ⟨A',Y',hq,hm,ha,hyA,hyn,T,hoT,hT⟩:=hp;refine hoT.keeps h.cell (λhm=>?_);obtain ⟨_,cur,hc⟩:=hT c hm;rw [h.cell] at hc;simp at hc
theorem Sy.zA (h:Sy w A Z c n S):∀b∈Z,b∈A:=by
 obtain ⟨Y,rs,ds,ls,Xs,vr,vd,gu,qv,gv,lv,h,hz⟩:=h;intro b hb;rcases (hz b).1 hb with h1 | ⟨i,hi,h1⟩
 ·exact h.yA b h1
 ·exact (h.node i hi).xA b h1
theorem Sy.alt (h:Sy w A Z c n S):∀b∈A,b<w.heap.size:=by
 obtain ⟨Y,rs,ds,ls,Xs,vr,vd,gu,qv,gv,lv,h,hz⟩:=h;exact h.alt
theorem Sy.syp (h:Sy w' A' Z' c n S) (m:Mv A A' Z Z' w w'):SyP w w' A Z c n S:=⟨A',Z',h,m⟩
theorem QP.only {q:List Msg} {v':Value} (hp:QP w w' A Y v' q) (hY:∀b∈Y,b∈A):∃T,Only T w w'/\∀b∈T,b∈A:=by
 obtain ⟨A',Y',hq,hm,ha,hyA,hyn,T,hoT,hT⟩:=hp;exact ⟨T,hoT,λb hb=>hY b (hT b hb).1⟩
theorem QP.shape {q:List Msg} {v':Value} (hp:QP w w' A Y v' q):∃ao k c,v' = .slice ao k c:=by
 obtain ⟨A',Y',hq,_⟩:=hp;obtain ⟨ao,c,h1,_⟩:=hq.shape;exact ⟨ao,_,c,h1⟩
theorem vA (S:Mn) (ms:List Msg) (j:Nat) (h:j<ms.length):S.send (ms.take (j+1))={ S.send (ms.take j) with q:=gM (S.send (ms.take j)).q ms[j]}:=by
 unfold Mn.send;rw [<-bF h,cZ];rfl
set_option maxHeartbeats 8000000 in
theorem iC (h:Sy w A Z c n S) (hq:S.q.length<=2000) (v:Value) (ms:List Msg) (hr:MsRow w A v ms) (fr:Nat) (hg:∀m∈ms,m.frm=(fr:Int)/\(m.dst==(fr:Int))=false/\0<=m.dst/\m.dst<(n:Int)) :
  Calls Try.prog 17 #[.pointer (some ⟨c,0,none⟩),.int .i64 (fr:Int),v] w λe w'=>e = .returned (.tuple #[])/\SyP w w' A Z c n (S.send ms):=by
 have H:=ab h;have HR:=ab hr;have HG:=ab hg;have HST:=ab (λj (hj:j<ms.length)=>vA S ms j hj);have HQL:=ab (λj=>nu S.q (ms.take j) hq);have HZA:=ab h.zA;have HALL:Hid (S.send ms=S.send (ms.take ms.length)):=ab (by rw [cM]);have hl:ms.length<=9223372036854775807:=by
  rcases hr with ⟨rfl,rfl⟩ | ⟨g,c',cur,rfl,h1,h2,_⟩
  ·simp
  ·omega
 have hsh:∃ao cc,v = .slice ao ms.length cc:=by
  rcases hr with ⟨rfl,rfl⟩ | ⟨g,c',cur,rfl,_⟩
  ·exact ⟨none,0,rfl⟩
  ·exact ⟨_,_,rfl⟩
 obtain ⟨ao,cc,rfl⟩:=hsh;clear h hr hg hq;go_enter Try.func17,Try.ntmps17
 go_wp2_with fail
 go_loopw [6] (λi wr=>∃j:Nat,j<=ms.length/\i = .int .i64 (j:Int)/\SyP w wr A Z c n (S.send (ms.take j))) (λi _=>ms.length - (intOf i).toNat)
 case atStart=>exact ⟨0,aA _,rfl,H.out.syp (Mv.refl _ _ _)⟩
 case round =>
  obtain ⟨j,hj,rfl,A1,Z1,h1,m1⟩:=hrel;by_cases hlt:j<ms.length
  ·have hr1:=HR.out.step m1.mv.only HZA.out m1.ext;have HR1:=ab hr1;rcases hr1 with ⟨_,h0⟩ | ⟨g,c',cur,ev,_,_,hgA,hgh,hat⟩
   ·rw [h0] at hlt;cases hlt
   cases ev;obtain ⟨mv,mu,k0,k1,k2,k3,k4,hmsg⟩:=hat j hlt;obtain ⟨f0,f1,f2,f3⟩:=HG.out ms[j] (dy _);have HSTJ:=ab (HST.out j hlt);generalize ms[j]=m at *;rw [f0] at k0;have hk0:wr.cell? ⟨g,j*5,none⟩=some (.int .i64 (fr:Int)):=by rw [af hgh];exact k0
   have hk1:wr.cell? ⟨g,j*5+1,none⟩=some (.int .i64 m.dst):=by rw [af hgh];exact k1
   have hk2:wr.cell? ⟨g,j*5+2,none⟩=some (.int .i64 m.kind):=by rw [af hgh];exact k2
   have hk3:wr.cell? ⟨g,j*5+3,none⟩=some mv:=by rw [af hgh];exact k3
   have hk4:wr.cell? ⟨g,j*5+4,none⟩=some mu:=by rw [af hgh];exact k4
   obtain ⟨Y,rs,ds,ls,Xs,vr,vd,gu,qv,gv,lv,h1,hz1⟩:=h1;have HZ1:=ab hz1;have HS1:=ab h1;have M1:=ab m1;have HMSG:=ab hmsg;have HQ2:Hid ((S.send (ms.take j)).q.length<=2000):=ab (HQL.out j);have HONE:=ab hmsg.one;have HF0:=ab f0;obtain ⟨ar,cr,evr,_⟩:=dw h1.rr;subst evr;obtain ⟨aq,cq,evq,hcq1,hcq2,hcq3,hcq4⟩:=h1.q.shape;subst evq;have hc0:wr.cell? ⟨c,0,none⟩=some (.slice ar n cr):=by rw [af h1.cell];rfl
   have hc3:wr.cell? ⟨c,3,none⟩=some (.slice aq (S.send (ms.take j)).q.length cq):=by rw [af h1.cell];rfl
   have g2:decide (m.dst<0)=false:=bq (by omega);have g3:decide ((n:Int)<=m.dst)=false:=bq (by omega);have q6:IntKind.i64.wrap ((j:Int)+1)=(j:Int)+1:=IntWalk.i64_in _ (by omega);clear hgh hat k0 k1 k2 k3 k4 f0 h1 hz1 m1 hmsg;go_upto_region 3 with (fail)
   go_cut [49] (λv wx=>v = .bool false/\∃nq,wx=wr.drewN nq)
   case first =>
    go_quiet (fail)
    go_wp2_with fail
    go_meet
    exact ⟨rfl,nq,rfl⟩
   case rest =>
   obtain ⟨rfl,nq,rfl⟩:=hcut;by_cases hfull:(S.send (ms.take j)).q.length<2000
   ·have hfull2:((S.send (ms.take j)).q.length:Int)<2000:=by omega
    have HAD:Hid (gM (S.send (ms.take j)).q m=(S.send (ms.take j)).q++[m]):=ab (ax hfull);have HB1:Hid (Below wr.heap.size wr (wr.drewN nq)):=ab (ap wr nq);generalize hql:(S.send (ms.take j)).q.length=ql at *;go_upto_region 6 with (fail)
    have HV:Hid (SyC (wr.drewN nq).drew A1 Y c n (S.send (ms.take j)) rs ds ls Xs (.slice ar n cr) vd gu (.slice aq ql cq) gv lv):=ab ((HS1.out.below HB1.out).below (ap _ 1));have HMV:Hid (IsMsg (wr.drewN nq).drew A1 m mv mu):=ab ((HMSG.out.below HB1.out).below (ap _ 1));have HGA:Hid (g∉A1):=ab hgA;have HM1:Hid (Mv A A1 Z Z1 w (wr.drewN nq).drew):=ab ((M1.out.trans (Mv.below HB1.out)).trans (Mv.below (ap _ 1)));have hs0:(wr.drewN nq).drew.cell? ⟨g,j*5,none⟩=some (.int .i64 (fr:Int))/\(wr.drewN nq).drew.cell? ⟨g,j*5+1,none⟩=some (.int .i64 m.dst)/\(wr.drewN nq).drew.cell? ⟨g,j*5+2,none⟩=some (.int .i64 m.kind)/\(wr.drewN nq).drew.cell? ⟨g,j*5+3,none⟩=some mv/\(wr.drewN nq).drew.cell? ⟨g,j*5+4,none⟩=some mu:=⟨hk0,hk1,hk2,hk3,hk4⟩
    have HK:Hid (∀T w1 w2,Below (wr.drewN nq).drew.heap.size (wr.drewN nq).drew w1->Only T w1 w2->(∀b∈T,b∈A1)->w2.cell? ⟨g,j*5,none⟩=some (.int .i64 (fr:Int))/\w2.cell? ⟨g,j*5+1,none⟩=some (.int .i64 m.dst)/\w2.cell? ⟨g,j*5+2,none⟩=some (.int .i64 m.kind)/\w2.cell? ⟨g,j*5+3,none⟩=some mv/\w2.cell? ⟨g,j*5+4,none⟩=some mu):=ab (λT w1 w2 hb ho hT=>by
      have e:g∉T:=λhm=>HGA.out (hT g hm);exact ⟨ho.cell (cell_later hb hs0.1) e,ho.cell (cell_later hb hs0.2.1) e,ho.cell (cell_later hb hs0.2.2.1) e,ho.cell (cell_later hb hs0.2.2.2.1) e,ho.cell (cell_later hb hs0.2.2.2.2) e⟩)
    obtain ⟨u1,u2⟩:=HONE.out;have HBO:Hid (∀o,Below (wr.drewN nq).drew.heap.size (wr.drewN nq).drew ((wr.drewN nq).drew.alloc o)):=ab (λo=>(aB _ _).alloc (ah _) o);clear hc0 hc3 hk0 hk1 hk2 hk3 hk4 hcq1 hcq2 hcq3 hcq4 hgA;refine wp_region_held_drew (S:=λw'=>w'.cell? ⟨g,j*5,none⟩=some (.int .i64 (fr:Int))/\w'.cell? ⟨g,j*5+1,none⟩=some (.int .i64 m.dst)/\w'.cell? ⟨g,j*5+2,none⟩=some (.int .i64 m.kind)/\w'.cell? ⟨g,j*5+3,none⟩=some mv/\w'.cell? ⟨g,j*5+4,none⟩=some mu) (by kernel_rfl) hs0 (λam=>?_);refine az 0 ?_;refine az 1 ?_;refine az 2 ?_;refine az 3 ?_;refine az 5 ?_;refine az 6 ?_;refine az 7 ?_;refine az 8 ?_;generalize (wr.drewN nq).drew=V1 at *;refine gJ 4 9 (λK hK=>?_) λK hK=>?_
    ·have hy3:V1.cell? ⟨c,3,none⟩=some (.slice aq ql cq):=by rw [af HV.out.cell];rfl
     go_simp
     clear hy3;refine hK.out _ _ am (λam=>?_);clear hK K;refine bu ?_;refine cf 9 λK hK=>?_;go_simp
     refine hK.out _ _ (HK.out [] _ _ (HBO.out (.cells #[.int .i64 (fr:Int),.int .i64 m.dst,.int .i64 m.kind,mv,mu] 51)) (Only.refl _ _) (λb hb=>by cases hb)) (λam=>?_);clear hK K;refine bu ?_;have HV2:=ab (HV.out.below (HBO.out (.cells #[.int .i64 (fr:Int),.int .i64 m.dst,.int .i64 m.kind,mv,mu] 51)));have HMG2:=ab (HMV.out.below (HBO.out (.cells #[.int .i64 (fr:Int),.int .i64 m.dst,.int .i64 m.kind,mv,mu] 51)));have HH2:=aJ V1 (.cells #[.int .i64 (fr:Int),.int .i64 m.dst,.int .i64 m.kind,mv,mu] 51);have HB2:=ab (HBO.out (.cells #[.int .i64 (fr:Int),.int .i64 m.dst,.int .i64 m.kind,mv,mu] 51));generalize hV2:V1.alloc (.cells #[.int .i64 (fr:Int),.int .i64 m.dst,.int .i64 m.kind,mv,mu] 51)=V2 at *;rw [<-HF0.out] at HH2;clear hV2;exact xu
    ·go_simp
     refine hK.out _ _ (HK.out [] _ _ (HBO.out (.cells #[.int .i64 (fr:Int),.int .i64 m.dst,.int .i64 m.kind,mv,mu] 51)) (Only.refl _ _) (λb hb=>by cases hb)) (λam=>?_);clear hK K;refine bu ?_;have HV2:=ab (HV.out.below (HBO.out (.cells #[.int .i64 (fr:Int),.int .i64 m.dst,.int .i64 m.kind,mv,mu] 51)));have HMG2:=ab (HMV.out.below (HBO.out (.cells #[.int .i64 (fr:Int),.int .i64 m.dst,.int .i64 m.kind,mv,mu] 51)));have HH2:=aJ V1 (.cells #[.int .i64 (fr:Int),.int .i64 m.dst,.int .i64 m.kind,mv,mu] 51);have HB2:=ab (HBO.out (.cells #[.int .i64 (fr:Int),.int .i64 m.dst,.int .i64 m.kind,mv,mu] 51));generalize hV2:V1.alloc (.cells #[.int .i64 (fr:Int),.int .i64 m.dst,.int .i64 m.kind,mv,mu] 51)=V2 at *;rw [<-HF0.out] at HH2;clear hV2;refine cf 4 λK hK=>?_;have hy3:V2.cell? ⟨c,3,none⟩=some (.slice aq ql cq):=by rw [af HV2.out.cell];rfl
     go_simp
     clear hy3;refine hK.out _ _ am (λam=>?_);clear hK K;refine bu ?_;exact xu
   ·have hfull2:¬((S.send (ms.take j)).q.length:Int)<2000:=by omega
    have HAD:Hid (gM (S.send (ms.take j)).q m=(S.send (ms.take j)).q):=ab (aw hfull);have HF:Hid (SyP w (wr.drewN nq) A Z c n (S.send (ms.take j))):=ab (((⟨_,_,_,_,_,_,_,_,_,_,_,HS1.out.below (ap wr nq),HZ1.out⟩:Sy _ A1 Z1 c n _)).syp (M1.out.trans (Mv.below (ap wr nq))));go_wp2_with fail
    go_roundw
    case rel =>
      refine ⟨j+1,by omega,by simp,?_⟩;rw [HSTJ.out,HAD.out];exact HF.out
    case measure=>simp [intOf];omega
  ·obtain rfl:j=ms.length:=by omega
   have HF:=ab (h1.syp m1);clear h1 m1;go_wp2_with fail
   go_end0
   rw [HALL.out];exact ⟨rfl,HF.out⟩
end
def Mn.bring (S:Mn) (m:Msg):Mn :=
 if (S.at m.dst.toNat).up then (S.set m.dst.toNat ⟨(fC (S.at m.dst.toNat).s (S.at m.dst.toNat).k m).2.1,(fC (S.at m.dst.toNat).s (S.at m.dst.toNat).k m).2.2,true⟩).send (fC (S.at m.dst.toNat).s (S.at m.dst.toNat).k m).1 else S
section
variable {w w':World} {A A' Y Z Z':List Nat} {c n:Nat} {S:Mn} {rs ds ls:Nat->Nat} {Xs:Nat->List Nat} {vr vd:Value} {gu:Nat} {qv gv lv:Value}
theorem SyC.msp {i:Nat} {e:Ending} {p:List Msg×Rp×Dk} (h:SyC w A Y c n S rs ds ls Xs vr vd gu qv gv lv) (hz:∀b,b∈Z↔b∈Y\/∃i,i<n/\b∈Xs i) (hi:i<n) (hu:(S.at i).up=true) (hp:MsP w w' A (Xs i) (rs i) (ds i) (ls i) e p) :
  ∃v A' Z',e = .returned v/\Sy w' A' Z' c n (S.set i ⟨p.2.1,p.2.2,true⟩)/\MsRow w' A' v p.1/\Mv A A' Z Z' w w':=by
 obtain ⟨v,A',X',he,hn,ho,hm,hv⟩:=hp;obtain ⟨Z',hz',hmz⟩:=j6 (Y:=Y) hi hz hm;have hs:=h.call (nd:=⟨p.2.1,p.2.2,true⟩) hi hm ⟨λ_=>hn,(λe=>by cases e),hn.xA⟩ hu.symm hn.alt;exact ⟨v,A',Z',he,⟨Y,rs,ds,ls,gH Xs i X',vr,vd,gu,qv,gv,lv,hs,hz'⟩,ho.row hv,hmz⟩
theorem iB {own:Nat} {ms:List Msg} (h:∀m∈ms,GoodM own n m):∀m∈ms,m.frm=(own:Int)/\(m.dst==(own:Int))=false/\0<=m.dst/\m.dst<(n:Int):=λm hm=>⟨(h m hm).frm,(h m hm).ne,(h m hm).d0,(h m hm).dn⟩
theorem SyC.upAt (h:SyC w A Y c n S rs ds ls Xs vr vd gu qv gv lv) (i:Nat) (hi:i<n):w.cell? ⟨gu,i,none⟩=some (.bool (S.at i).up):=by
 rw [af h.up,gp _ _ (by rw [aQ,h.nl];exact hi)];congr 2;unfold Mn.at;rw [aK,aK,List.getElem?_map];rw [jv (by rw [h.nl];exact hi)];rfl
theorem df {f:Nat->Nat} {e:TypeId} {v:Value} (h:w.ownsRow 0 e 1 v n (f9 f n)) (hn:0<n):∃g k,v = .slice (some ⟨g,0,none⟩) n k/\n<=k/\∀i,i<n->w.cell? ⟨g,i,none⟩=some (.pointer (some ⟨f i,0,none⟩)):=by
 have hr:=h;rcases h.2 with ⟨_,h0⟩ | ⟨g,cap,cur,rfl,_,hh,hnc,_,_,ht⟩
 ·omega
 ·refine ⟨g,cap,rfl,hnc,λi hi=>?_⟩;have h9:(cur.toList.take (n*1))[i]? = (f9 f n)[i]? := by rw [ht]
  rw [bP,ax (by omega),cA] at h9;rw [af hh,h9];unfold f9 ia;simp [hi]
set_option maxHeartbeats 8000000 in
theorem pk (h:Sy w A Z c n S) (hq:S.q.length<=2000) (m:Msg) (mv mu:Value) (hm:IsMsg w A m mv mu) (q:Nat) (hto:m.dst=(q:Int)) (hqn:q<n)
  (hw:(S.at q).up=true->Wf (S.at q).s (S.at q).k) (ho:(S.at q).s.own=q) (hn:(S.at q).s.n=n) (h1:m.N.getD 1 0<=1000000) (h2:m.B.length<=1000000) (h3:m.N.length<=1000000) :
  Calls Try.prog 25 #[.pointer (some ⟨c,0,none⟩),eA m mv mu] w λe w'=>e = .returned (.tuple #[])/\SyP w w' A Z c n (S.bring m):=by
 have hbw:Below w.heap.size w (w.alloc (.cells (bX m mv mu) 51)):=(aB _ _).alloc (ah _) _;have hbx:=aJ w (.cells (bX m mv mu) 51);have HM0:Hid (Mv A A Z Z w (w.alloc (.cells (bX m mv mu) 51))):=ab (Mv.below hbw);have hMA:w.heap.size∉A:=λhb=>by have:=h.alt _ hb;omega
 have hs1:=h.below hbw;have hm1:=hm.below hbw;obtain ⟨ao,cn,ev,_⟩:=id hm.n;subst ev;obtain ⟨ub,bc,eu⟩:=fU hm.b;subst eu;have HE:Hid (S.bring m=if (S.at q).up then (S.set q ⟨(fC (S.at q).s (S.at q).k m).2.1,(fC (S.at q).s (S.at q).k m).2.2,true⟩).send (fC (S.at q).s (S.at q).k m).1 else S):=ab (by unfold Mn.bring;rw [hto,dj]);obtain ⟨Y,rs,ds,ls,Xs,vr,vd,gu,qv,gv,lv,hs,hz⟩:=hs1;obtain ⟨gr,kr,evr,hkr,hrow⟩:=df hs.rr (by omega);subst evr;have hup:=hs.upAt q hqn;have hrq:=hrow q hqn;have hc0:(w.alloc (.cells (bX m (.slice ao m.N.length cn) (.slice ub m.B.length bc)) 51)).cell? ⟨c,0,none⟩=some (.slice (some ⟨gr,0,none⟩) n kr):=by rw [af hs.cell];rfl
 have hc2:(w.alloc (.cells (bX m (.slice ao m.N.length cn) (.slice ub m.B.length bc)) 51)).cell? ⟨c,2,none⟩=some (.slice (some ⟨gu,0,none⟩) n n):=by rw [af hs.cell];rfl
 have hk0:(w.alloc (.cells (bX m (.slice ao m.N.length cn) (.slice ub m.B.length bc)) 51)).cell? ⟨w.heap.size,0,none⟩=some (.int .i64 m.frm):=by rw [af hbx];rfl
 have hk1:(w.alloc (.cells (bX m (.slice ao m.N.length cn) (.slice ub m.B.length bc)) 51)).cell? ⟨w.heap.size,1,none⟩=some (.int .i64 (q:Int)):=by rw [af hbx,<-hto];rfl
 have hk2:(w.alloc (.cells (bX m (.slice ao m.N.length cn) (.slice ub m.B.length bc)) 51)).cell? ⟨w.heap.size,2,none⟩=some (.int .i64 m.kind):=by rw [af hbx];rfl
 have hk3:(w.alloc (.cells (bX m (.slice ao m.N.length cn) (.slice ub m.B.length bc)) 51)).cell? ⟨w.heap.size,3,none⟩=some (.slice ao m.N.length cn):=by rw [af hbx];rfl
 have hk4:(w.alloc (.cells (bX m (.slice ao m.N.length cn) (.slice ub m.B.length bc)) 51)).cell? ⟨w.heap.size,4,none⟩=some (.slice ub m.B.length bc):=by rw [af hbx];rfl
 have HS:=ab hs;have HZ:=ab hz;have HMG:=ab hm1;have HW:=ab hw;have HMA:=ab hMA;have hMlt:=aU hbx;have HZA:=ab (⟨Y,rs,ds,ls,Xs,_,vd,gu,qv,gv,lv,hs,hz⟩:Sy _ A Z c n S).zA;have HBND:Hid (m.N.getD 1 0<=1000000/\m.B.length<=1000000/\m.N.length<=1000000/\(S.at q).s.own=q/\(S.at q).s.n=n):=ab ⟨h1,h2,h3,ho,hn⟩;have HTO:=ab hto;have HQ:=ab hq;have HQN:=ab hqn;have g0:(q:Int)<(n:Int):=by omega
 clear hto h hm hs hz hm1 hw hMA hbw hbx h1 h2 h3 ho hn hrow hq;unfold eA bX at *;go_enter Try.func25,Try.ntmps25
 go_upto_region 1 with (fail)
 generalize w.alloc (.cells #[.int .i64 m.frm,.int .i64 m.dst,.int .i64 m.kind,.slice ao m.N.length cn,.slice ub m.B.length bc] 51)=W at *;generalize w.heap.size=M at *;go_cut [11] (λv wx=>v = .bool (S.at q).up/\∃nq,wx=W.drewN nq)
 case first =>
  go_quiet (fail)
  go_wp2_with fail
  go_meet
  exact ⟨rfl,nq,rfl⟩
 case rest =>
 obtain ⟨rfl,nq,rfl⟩:=hcut;have HB1:Hid (Below W.heap.size W (W.drewN nq)):=ab (ap W nq);cases hupq:(S.at q).up with
 | false =>
  have HE2:Hid (S.bring m=S):=ab (by rw [HE.out,hupq];rfl);have HF:Hid (SyP w (W.drewN nq) A Z c n S):=ab (((⟨_,_,_,_,_,_,_,_,_,_,_,HS.out.below HB1.out,HZ.out⟩:Sy _ A Z c n _)).syp (HM0.out.trans (Mv.below HB1.out)));go_wp2_with fail
  go_end0
  rw [HE2.out];exact ⟨rfl,HF.out⟩
 | true =>
  have HE2:Hid (S.bring m=(S.set q ⟨(fC (S.at q).s (S.at q).k m).2.1,(fC (S.at q).s (S.at q).k m).2.2,true⟩).send (fC (S.at q).s (S.at q).k m).1):=ab (by rw [HE.out,hupq];rfl);have hs2:=(HS.out.below HB1.out).below (ap (W.drewN nq) 1);have hm2:=(HMG.out.below HB1.out).below (ap (W.drewN nq) 1);have HS2:=ab hs2;have HM1:Hid (Mv A A Z Z w (W.drewN nq).drew):=ab ((HM0.out.trans (Mv.below HB1.out)).trans (Mv.below (ap (W.drewN nq) 1)));have hwq:=HW.out hupq;have HOUT:=ab (pQ (s:=(S.at q).s) (k:=(S.at q).k) hwq m);have HGET:Hid (Calls Try.prog 19 #[.pointer (some ⟨rs q,0,none⟩),.agg #[.int .i64 m.frm,.int .i64 (q:Int),.int .i64 m.kind,.slice ao m.N.length cn,.slice ub m.B.length bc]] (W.drewN nq).drew λe w'=>∃v A' Z',e = .returned v/\Sy w' A' Z' c n (S.set q ⟨(fC (S.at q).s (S.at q).k m).2.1,(fC (S.at q).s (S.at q).k m).2.2,true⟩)/\MsRow w' A' v (fC (S.at q).s (S.at q).k m).1/\Mv A A' Z Z' (W.drewN nq).drew w'):=ab (by
   rw [<-HTO.out];exact (BC ((hs2.node q HQN.out).up hupq) hwq m _ _ hm2 (by have:=HBND.out.1;omega) HBND.out.2.1 (by have:=HBND.out.2.2.1;omega)).mono (λe w' hp=>hs2.msp HZ.out HQN.out hupq hp))
  have HG3:Hid (∀x∈(fC (S.at q).s (S.at q).k m).1,x.frm=(q:Int)/\(x.dst==(q:Int))=false/\0<=x.dst/\x.dst<(n:Int)):=ab (by
   have h9:=HOUT.out.ms;rw [HBND.out.2.2.2.1,HBND.out.2.2.2.2] at h9;exact iB h9)
  have HQ3:Hid ((S.set q ⟨(fC (S.at q).s (S.at q).k m).2.1,(fC (S.at q).s (S.at q).k m).2.2,true⟩).q.length<=2000):=ab HQ.out;have hs0:(W.drewN nq).drew.cell? ⟨M,0,none⟩=some (.int .i64 m.frm)/\(W.drewN nq).drew.cell? ⟨M,1,none⟩=some (.int .i64 (q:Int))/\(W.drewN nq).drew.cell? ⟨M,2,none⟩=some (.int .i64 m.kind)/\(W.drewN nq).drew.cell? ⟨M,3,none⟩=some (.slice ao m.N.length cn)/\(W.drewN nq).drew.cell? ⟨M,4,none⟩=some (.slice ub m.B.length bc):=⟨hk0,hk1,hk2,hk3,hk4⟩
  have HK:Hid (∀T w2,Only T (W.drewN nq).drew w2->M∉T->w2.cell? ⟨M,0,none⟩=some (.int .i64 m.frm)/\w2.cell? ⟨M,1,none⟩=some (.int .i64 (q:Int))/\w2.cell? ⟨M,2,none⟩=some (.int .i64 m.kind)/\w2.cell? ⟨M,3,none⟩=some (.slice ao m.N.length cn)/\w2.cell? ⟨M,4,none⟩=some (.slice ub m.B.length bc)):=ab (λT w2 ho e=>⟨ho.cell hs0.1 e,ho.cell hs0.2.1 e,ho.cell hs0.2.2.1 e,ho.cell hs0.2.2.2.1 e,ho.cell hs0.2.2.2.2 e⟩);have hMZ:Hid (M∉Z):=ab (λhm=>HMA.out (HZA.out _ hm));have hy0:(W.drewN nq).drew.cell? ⟨c,0,none⟩=some (.slice (some ⟨gr,0,none⟩) n kr):=hc0;have hyr:(W.drewN nq).drew.cell? ⟨gr,q,none⟩=some (.pointer (some ⟨rs q,0,none⟩)):=hrq;have HMLT:Hid (M<(W.drewN nq).drew.heap.size):=ab hMlt;clear hs2 hm2 hwq hup hrq hc0 hc2 hk0 hk1 hk2 hk3 hk4 HS HE HW HOUT;go_upto_region 2 with (fail)
  generalize fC (S.at q).s (S.at q).k m=p at *;refine wp_region_held_drew (S:=λw'=>w'.cell? ⟨M,0,none⟩=some (.int .i64 m.frm)/\w'.cell? ⟨M,1,none⟩=some (.int .i64 (q:Int))/\w'.cell? ⟨M,2,none⟩=some (.int .i64 m.kind)/\w'.cell? ⟨M,3,none⟩=some (.slice ao m.N.length cn)/\w'.cell? ⟨M,4,none⟩=some (.slice ub m.B.length bc)) (by kernel_rfl) hs0 (λam=>?_);refine az 0 ?_;refine az 1 ?_;refine az 2 ?_;refine az 3 ?_;refine az 4 ?_;refine az 5 ?_;refine az 7 ?_;refine az 8 ?_;refine az 11 ?_;generalize (W.drewN nq).drew=V at *;refine cf 6 λK hK=>?_;go_simp
  refine hK.out _ _ am (λam=>?_);clear hK K;refine bu ?_;refine az 9 ?_;refine cf 10 λK hK=>?_;go_simp
  refine hK.out _ _ am (λam=>?_);clear hK K;refine bu ?_;refine cf 12 λK hK=>?_;go_simp
  refine HGET.out.mono ?_;rintro e w3 ⟨v3,A3,Z3,rfl,hs3,hr3,hm3⟩;have HS3:=ab hs3;have HR3:=ab hr3;have HM3:=ab hm3;have hk3:=HK.out _ _ hm3.mv.only hMZ.out;have HMZ3:Hid (M∉Z3):=ab (λhm=>by
   rcases hm3.mv.gr _ hm with h1 | h1
   ·exact hMZ.out h1
   ·have:=HMLT.out;omega)
  clear hs3 hr3 hm3;go_wp2_with fail
  refine hK.out _ _ hk3 (λam=>?_);clear hK K;refine bu ?_;clear hk3;refine cf 13 λK hK=>?_;go_simp
  refine (iC HS3.out HQ3.out v3 _ HR3.out q HG3.out).mono ?_;rintro e w4 ⟨rfl,hs4⟩;obtain ⟨A4,Z4,h4,m4⟩:=hs4;have HF:=ab (h4.syp ((HM1.out.trans HM3.out).trans m4));have hk4:=HK.out _ _ (HM3.out.trans m4).mv.only hMZ.out;clear h4 m4;go_wp2_with fail
  refine hK.out _ _ hk4 (λam=>?_);clear hK K;refine bu ?_;refine fc ?_;clear am hk4;go_wp2_with fail
  go_end0
  rw [HE2.out];exact ⟨rfl,HF.out⟩
end
def Mn.tick (S:Mn) (i:Nat):Mn :=
 if (S.at i).up then (S.set i ⟨(eh (S.at i).s (S.at i).k).2.1,(eh (S.at i).s (S.at i).k).2.2,true⟩).send (eh (S.at i).s (S.at i).k).1 else S
def Mn.ticks (S:Mn) (n:Nat):Mn:=(List.range n).foldl Mn.tick S
def Mn.drain:Nat->Mn->Mn
 | 0,S=>S
 | f+1,S=>match S.q with
  | []=>S
  | m::q=>Mn.drain f (({ S with q:=q }:Mn).bring m)
def Mn.calm (n:Nat):Nat->Mn->Bool×Mn
 | 0,S=>(true,S)
 | r+1,S=>if ((S.ticks n).drain 4000).q.length=0 then Mn.calm n r ((S.ticks n).drain 4000) else (false,(S.ticks n).drain 4000)
structure SInv (n cl:Nat) (S:Mn):Prop where
 nl:S.nodes.length=n
 id:∀i,i<n->(S.at i).s.own=i/\(S.at i).s.n=n
 wf:∀i,i<n->(S.at i).up=true->Wf (S.at i).s (S.at i).k/\(S.at i).s.clock<=cl
 q:∀m∈S.q,∃fr,fr<n/\GoodM fr n m
 ql:S.q.length<=2000
section
variable {n cl:Nat} {S:Mn}
theorem sD (q:List Msg) (m x:Msg) (h:x∈gM q m):x∈q\/x=m:=by
 unfold gM at h;split at h
 ·rcases av.1 h with h | h
  ·exact .inl h
  ·exact .inr (aj.1 h)
 ·exact .inl h
theorem qK (q:List Msg) (ms:List Msg) (x:Msg) (h:x∈ms.foldl gM q):x∈q\/x∈ms:=by
 induction ms generalizing q with
 | nil=>exact .inl h
 | cons a l ih =>
  rcases ih _ h with h1 | h1
  ·rcases sD _ _ _ h1 with h2 | h2
   ·exact .inl h2
   ·exact .inr (by rw [h2];exact aP)
  ·exact .inr (aI _ h1)
theorem SInv.call {d:Nat} {p:List Msg×Rp×Dk} (h:SInv n cl S) (i:Nat) (hi:i<n) (hu:(S.at i).up=true) (ho:Out (S.at i).s d p):SInv n (cl+d) ((S.set i ⟨p.2.1,p.2.2,true⟩).send p.1):=by
 have hat:∀j,((S.set i ⟨p.2.1,p.2.2,true⟩).send p.1).at j=if j=i then ⟨p.2.1,p.2.2,true⟩ else S.at j:=λj=>Mn.at_set S i j _ (by rw [h.nl];exact hi)
 refine ⟨by simp [Mn.send,Mn.set,h.nl],λj hj=>?_,λj hj hup=>?_,λm hm=>?_,nu _ _ h.ql⟩
 ·rw [hat j];by_cases e:j=i
  ·subst e;rw [ax rfl];exact ⟨ho.own.trans (h.id j hj).1,ho.n.trans (h.id j hj).2⟩
  ·rw [aw e];exact h.id j hj
 ·rw [hat j] at hup ⊢;by_cases e:j=i
  ·subst e;rw [ax rfl];exact ⟨ho.wf,by have:=ho.clock;have:=(h.wf j hj hu).2;show p.2.1.clock<=_;omega⟩
  ·rw [aw e] at hup ⊢;exact ⟨(h.wf j hj hup).1,by have:=(h.wf j hj hup).2;omega⟩
 ·rcases qK _ _ _ hm with h1 | h1
  ·exact h.q m h1
  ·have:=ho.ms m h1;rw [(h.id i hi).1,(h.id i hi).2] at this;exact ⟨i,hi,this⟩
theorem SInv.mono {cl':Nat} (h:SInv n cl S) (hc:cl<=cl'):SInv n cl' S:=⟨h.nl,h.id,λi hi hu=>⟨(h.wf i hi hu).1,aF (h.wf i hi hu).2 hc⟩,h.q,h.ql⟩
theorem SInv.tick (h:SInv n cl S) (i:Nat) (hi:i<n):SInv n (cl+1) (S.tick i):=by
 unfold Mn.tick;split
 ·rename_i hu;exact h.call i hi hu (lh (h.wf i hi hu).1)
 ·exact h.mono (bO _)
theorem SInv.bring (h:SInv n cl S) (m:Msg) (h0:0<=m.dst) (h1:m.dst<(n:Int)):SInv n cl (S.bring m):=by
 unfold Mn.bring;split
 ·rename_i hu;have hi:m.dst.toNat<n:=by omega
  exact h.call _ hi hu (pQ (h.wf _ hi hu).1 m)
 ·exact h
theorem SInv.ticks (h:SInv n cl S) (k:Nat) (hk:k<=n):SInv n (cl+k) (S.ticks k):=by
 induction k with
 | zero=>exact h
 | succ k ih =>
  unfold Mn.ticks;rw [cE,cZ];exact (ih (by omega)).tick k (by omega)
theorem SInv.pop {m:Msg} {q:List Msg} (h:SInv n cl S) (hq:S.q=m::q):SInv n cl { S with q:=q } :=
 ⟨h.nl,h.id,h.wf,λx hx=>h.q x (by rw [hq];exact aI _ hx),by have:=h.ql;rw [hq] at this;simp at this;show q.length<=2000;omega⟩
end
theorem su (N:Int) (m:Nat) (hm:m<=65535):∃x:Nat,bits .and .i64 N (m:Int)=(x:Int)/\x<=m:=by
 unfold bits;simp only;have h1:(BitVec.ofInt IntKind.i64.bits N &&& BitVec.ofInt IntKind.i64.bits (m:Int)).toNat<=m:=by
  rw [BitVec.toNat_and];have h2:(BitVec.ofInt IntKind.i64.bits (m:Int)).toNat=m:=by
   rw [BitVec.ofInt_natCast,gT];exact xi (Nat.lt_of_le_of_lt hm (by decide))
  rw [h2];exact Nat.and_le_right
 exact ⟨_,IntWalk.i64_in _ (by omega),h1⟩
def iX (N:Int) (n:Nat):Nat:=((bits .and .i64 N 1023).tmod (n:Int)).toNat
theorem gW (N:Int) (n:Nat) (hn:1<=n):(bits .and .i64 N 1023).tmod (n:Int)=((iX N n:Nat):Int)/\iX N n<n:=by
 obtain ⟨x,h1,h2⟩:=su N 1023 (by omega);have h1:bits .and .i64 N 1023=(x:Int):=h1;unfold iX;rw [h1,<-Int.ofNat_tmod,dj];exact ⟨rfl,Nat.mod_lt _ (by omega)⟩
section
variable {w w':World} {A A' Y Z Z':List Nat} {c n cl:Nat} {S:Mn} {rs ds ls:Nat->Nat} {Xs:Nat->List Nat} {vr vd:Value} {gu:Nat} {qv gv lv:Value}
set_option maxHeartbeats 4000000 in
theorem BG (h:Sy w A Z c n S) (hi:SInv n cl S) (N K P:Int) (ba:Option Addr) (bl bc:Nat) (hn:1<=n) (hcl:cl<=900000) :
  Calls Try.prog 11 #[.pointer (some ⟨c,0,none⟩),.agg #[.int .i64 0,.int .i64 N,.int .i64 K,.int .i64 P,.slice ba bl bc]] w λe w'=>e = .returned (.tuple #[])/\SyP w w' A Z c n (S.tick (iX N n)):=by
 have hbw:Below w.heap.size w (w.alloc (.cells #[.int .i64 0,.int .i64 N,.int .i64 K,.int .i64 P,.slice ba bl bc] 31)):=(aB _ _).alloc (ah _) _;have hbx:=aJ w (.cells #[.int .i64 0,.int .i64 N,.int .i64 K,.int .i64 P,.slice ba bl bc] 31);have hs1:=h.below hbw;have HM0:Hid (Mv A A Z Z w (w.alloc (.cells #[.int .i64 0,.int .i64 N,.int .i64 K,.int .i64 P,.slice ba bl bc] 31))):=ab (Mv.below hbw);obtain ⟨hq1,hq2⟩:=gW N n hn;have HQ1:=ab hq1;obtain ⟨Y,rs,ds,ls,Xs,vr,vd,gu,qv,gv,lv,hs,hz⟩:=hs1;obtain ⟨gr,kr,evr,hkr,hrow⟩:=df hs.rr (by omega);subst evr;have hc0:(w.alloc (.cells #[.int .i64 0,.int .i64 N,.int .i64 K,.int .i64 P,.slice ba bl bc] 31)).cell? ⟨c,0,none⟩=some (.slice (some ⟨gr,0,none⟩) n kr):=by rw [af hs.cell];rfl
 have hc2:(w.alloc (.cells #[.int .i64 0,.int .i64 N,.int .i64 K,.int .i64 P,.slice ba bl bc] 31)).cell? ⟨c,2,none⟩=some (.slice (some ⟨gu,0,none⟩) n n):=by rw [af hs.cell];rfl
 have hk0:(w.alloc (.cells #[.int .i64 0,.int .i64 N,.int .i64 K,.int .i64 P,.slice ba bl bc] 31)).cell? ⟨w.heap.size,0,none⟩=some (.int .i64 0):=by rw [af hbx];rfl
 have hk1:(w.alloc (.cells #[.int .i64 0,.int .i64 N,.int .i64 K,.int .i64 P,.slice ba bl bc] 31)).cell? ⟨w.heap.size,1,none⟩=some (.int .i64 N):=by rw [af hbx];rfl
 have HS:=ab hs;have HZ:=ab hz;have HI:=ab hi;clear hs hz h hi hbw hbx;generalize iX N n=q at *;go_enter Try.func11,Try.ntmps11
 go_upto_region 1 with (fail)
 generalize w.alloc (.cells #[.int .i64 0,.int .i64 N,.int .i64 K,.int .i64 P,.slice ba bl bc] 31)=W at *;generalize w.heap.size=M at *;go_cut [4] (λv wx=>v = .int .i64 (q:Int)/\∃nq,wx=W.drewN nq)
 case first =>
  go_quiet (fail)
  go_wp2_with fail
  go_meet
  exact ⟨by rw [<-HQ1.out],nq,rfl⟩
 case rest =>
 obtain ⟨rfl,nq,rfl⟩:=hcut;have hb1:=ap W nq;have hs:=HS.out.below hb1;have hup:=hs.upAt q hq2;have hrq:(W.drewN nq).cell? ⟨gr,q,none⟩=some (.pointer (some ⟨rs q,0,none⟩)):=cell_later hb1 (hrow q hq2);have hc0:(W.drewN nq).cell? ⟨c,0,none⟩=some (.slice (some ⟨gr,0,none⟩) n kr):=hc0;have hc2:(W.drewN nq).cell? ⟨c,2,none⟩=some (.slice (some ⟨gu,0,none⟩) n n):=hc2;have hk0:(W.drewN nq).cell? ⟨M,0,none⟩=some (.int .i64 0):=hk0;have M1:Hid (Mv A A Z Z w (W.drewN nq)):=ab (HM0.out.trans (Mv.below hb1));have HS1:=ab hs;have hq3:(q:Int)<(n:Int):=by omega
 clear hs hb1 hrow HS HM0 hq1 HQ1 hk1;generalize W.drewN nq=W1 at *;cases hupq:(S.at q).up with
 | false =>
  rw [hupq] at hup;have HF:Hid (SyP w W1 A Z c n (S.tick q)):=ab (by
   unfold Mn.tick;rw [hupq];exact (⟨_,_,_,_,_,_,_,_,_,_,_,HS1.out,HZ.out⟩:Sy _ A Z c n S).syp M1.out)
  go_wp2_with fail
  go_end0
  exact ⟨rfl,HF.out⟩
 | true =>
  rw [hupq] at hup;obtain ⟨hwf,hck⟩:=HI.out.wf q hq2 hupq;have HIDJ:=ab (HI.out.id q hq2);have HOUT:=ab (lh hwf);have HQ:Hid (S.q.length<=2000):=ab HI.out.ql;have HTK:Hid (S.tick q=(S.set q ⟨(eh (S.at q).s (S.at q).k).2.1,(eh (S.at q).s (S.at q).k).2.2,true⟩).send (eh (S.at q).s (S.at q).k).1):=ab (by
   unfold Mn.tick;rw [hupq];rfl)
  have HTICK:=ab ((qA ((HS1.out.node q hq2).up hupq) hwf (by omega)).mono (λe w' hp=>HS1.out.msp HZ.out hq2 hupq hp));have HG3:Hid (∀x∈(eh (S.at q).s (S.at q).k).1,x.frm=(q:Int)/\(x.dst==(q:Int))=false/\0<=x.dst/\x.dst<(n:Int)):=ab (by
   have h9:=HOUT.out.ms;rw [HIDJ.out.1,HIDJ.out.2] at h9;exact iB h9)
  clear hwf hck HOUT;generalize eh (S.at q).s (S.at q).k=p at *;go_wp2_with fail
  refine HTICK.out.mono ?_;rintro e w3 ⟨v3,A3,Z3,rfl,hs3,hr3,hm3⟩;have HS3:=ab hs3;have HR3:=ab hr3;have HM3:=ab hm3;clear hs3 hr3 hm3;go_wp2_with fail
  refine (iC HS3.out (by exact HQ.out) v3 _ HR3.out q HG3.out).mono ?_;rintro e w4 ⟨rfl,hs4⟩;have HF:Hid (SyP w w4 A Z c n (S.tick q)):=ab (by
   rw [HTK.out];exact SyP.trans (M1.out.trans HM3.out) hs4)
  clear hs4;go_wp2_with fail
  go_end0
  exact ⟨rfl,HF.out⟩
end
section
variable {w w' w2:World} {A A' Y Z Z':List Nat} {c n cl:Nat} {S:Mn} {rs ds ls:Nat->Nat} {Xs:Nat->List Nat} {vr vd:Value} {gu:Nat} {qv gv lv:Value}
theorem SyC.callU {i r' l':Nat} {X' T:List Nat} {nd:Nod} (h:SyC w A Y c n S rs ds ls Xs vr vd gu qv gv lv) (hi:i<n) (hm:Mv A A' (Xs i) X' w w') (hn:NodeAt w' A' X' r' (ds i) l' nd) (ha:∀b∈A',b<w'.heap.size)
  (ho2:Only T w' w2) (hT:∀b∈T,b∈Y) (hTt:∀b∈T,∃cur t,(t=4\/t=39)/\w'.heap[b]? = some (.cells cur t (0,0)))
  (hup:w2.heap[gu]? = some (.cells (cQ ((S.nodes.map Nod.up).set i nd.up)) 4 (0,0))) (hrr:w2.ownsRow 0 39 1 vr n (f9 (gH rs i r') n)) :
  SyC w2 A' Y c n (S.set i nd) (gH rs i r') ds (gH ls i l') (gH Xs i X') vr vd gu qv gv lv:=by
 have hTX:∀b∈Xs i,b∈A:=(h.node i hi).xA;have hY:∀b∈Y,b∉Xs i:=h.yx i hi;have ho:=hm.mv.only;obtain ⟨vs,g1⟩:=h.gave;have hnew:∀P:List Nat,(∀b∈P,b∈A)->Dis P (Xs i)->Dis P X':=λP hP hd b hb hx=>by
  rcases hm.mv.gr b hx with h1 | h1
  ·exact hd b hb h1
  ·have:=h.alt b (hP b hb);omega
 have hTA':∀b∈T,b∈A':=λb hb=>hm.sub b (h.yA b (hT b hb));have hyx':=hnew Y h.yA (h.yx i hi);have ha2:∀b∈A',b<w2.heap.size:=λb hb=>aH (ha b hb) ho2.size;have hne:∀{b:Nat} {cs:Array Value} {t:TypeId},w'.heap[b]? = some (.cells cs t (0,0))->t≠4->t≠39->b∉T:=λ{b cs t} hb h4 h39 hm=>by
  obtain ⟨cur,t',ht,hc⟩:=hTt b hm;rw [hb] at hc;simp at hc;rcases ht with rfl | rfl
  ·exact h4 hc.2
  ·exact h39 hc.2
 have hrow:∀{v:Value} {e:TypeId} {k:Nat} {xs:List Value},(∀b,v.ownBlock=some b->b∈Y)->w.ownsRow 0 e 1 v k xs->e≠4->e≠39->w2.ownsRow 0 e 1 v k xs:=λ{v e k xs} hv hr h4 h39=>by
  have h1:=bg hr ho (λb hb=>hY b (hv b hb));exact bg h1 ho2 (λb hb=>hne (bU h1 hb) h4 h39)
 have hce:=ho.keeps h.cell (hY _ h.cY);have hq1:=h.q.keep ho hTX (λb hb _ _=>hY b hb) hm.ext (λb hb=>hb);refine ⟨ho2.keeps hce (hne hce (by decide) (by decide)),hrr,hrow h.dY h.dr (by decide) (by decide),?_,λj hj=>?_,
  hq1.keep ho2 hTA' (λb _ cur hc=>hne hc (by decide) (by decide)) (Ext.refl _ _) (λb hb=>hb),⟨vs,hrow h.gY g1 (by decide) (by decide)⟩,(h.long.step ho hTX hm.ext).step ho2 hTA' (Ext.refl _ _),by simp [Mn.set,h.nl],h.n5,h.cY,h.rY,h.dY,h.uY,h.gY,λj hj=>?_,λj1 j2 h1 h2 hne=>?_,λb hb=>hm.sub b (h.yA b hb),ha2⟩
 ·have e:(S.set i nd).nodes.map Nod.up=(S.nodes.map Nod.up).set i nd.up:=by
   unfold Mn.set;simp only [List.map_set]
  rw [e];exact hup
 ·rw [Mn.at_set _ _ _ _ (by rw [h.nl];exact hi)];by_cases hji:j=i
  ·subst hji;rw [ax rfl,dC,dC,dC];exact hn.keep ho2 hTA' (λb hb hb2=>hyx' b (hT b hb2) hb) (Ext.refl _ _) (λb hb=>hb) ha2
  ·rw [aw hji,de _ _ hji,de _ _ hji,de _ _ hji];exact ((h.node j hj).keep ho hTX (h.xx j i hj hi hji) hm.ext hm.sub ha).keep ho2 hTA' (λb hb hb2=>h.yx j hj b (hT b hb2) hb) (Ext.refl _ _) (λb hb=>hb) ha2
 ·by_cases hji:j=i
  ·subst hji;rw [dC];exact hyx'
  ·rw [de _ _ hji];exact h.yx j hj
 ·by_cases e1:j1=i
  ·subst e1;have e2:j2≠j1:=λe=>hne e.symm;rw [dC,de _ _ e2];exact (hnew (Xs j2) (h.node j2 h2).xA (h.xx j2 j1 h2 h1 e2)).symm
  ·by_cases e2:j2=i
   ·subst e2;rw [dC,de _ _ e1];exact hnew (Xs j1) (h.node j1 h1).xA (h.xx j1 j2 h1 h2 hne)
   ·rw [de _ _ e1,de _ _ e2];exact h.xx j1 j2 h1 h2 hne
theorem NodeAt.dk {X:List Nat} {r d l:Nat} {nd:Nod} (h:NodeAt w A X r d l nd):∃D,IsDk w D d nd.k/\∀b∈D,b∈X:=by
 cases hu:nd.up with
 | true =>
  obtain ⟨D,L,R,vl,gv,gn,gm,gh,hn,hX⟩:=h.up hu;exact ⟨D,hn.wd.dk,λb hb=>(hX b).2 (.inl hb)⟩
 | false=>exact ⟨X,h.dn hu,λb hb=>hb⟩
theorem Be {D D' X:List Nat} (hD:∀b∈D,b∈X) (hDA:∀b∈D,b∈A) (hm:Moves D D' w w'):Mv A (A++D') X (X++D') w w'/\((∀b∈X,b∈A)->∀b∈X++D',b∈A++D') :=
 ⟨⟨⟨hm.only.mono hD,λb hb=>by
  rcases av.1 hb with h1 | h1
  ·exact .inl h1
  ·exact (hm.gr b h1).imp (hD b) id,λb hb=>aD _ hb⟩,λb hb=>by
  rcases av.1 hb with h1 | h1
  ·exact .inl h1
  ·rcases hm.gr b h1 with h2 | h2
   ·exact .inl (hDA b h2)
   ·exact .inr h2,λb hb=>aD _ hb⟩,λhX b hb=>by
  rcases av.1 hb with h1 | h1
  ·exact aD _ (hX b h1)
  ·exact aG _ h1⟩
theorem IsDk.grow {D D2:List Nat} {d:Nat} {k:Dk} (h:IsDk w D d k) (hs:∀b∈D,b∈D2) (hl:∀b∈D2,b<w.heap.size):IsDk w D2 d k:=by
 obtain ⟨⟨mb,h1,h2,h3⟩,h4,h5⟩:=h;refine ⟨⟨mb,h1,hs mb h2,?_⟩,hs d h4,hl⟩;cases hf:k.file with
 | none=>rw [hf] at h3;exact h3
 | some p =>
  obtain ⟨l,sf⟩:=p;rw [hf] at h3;obtain ⟨c,fb,b0,v,k1,k2,k3,k4,k5,k6⟩:=h3;exact ⟨c,fb,b0,v,k1,k2,hs fb k3,k4,k5,λb hb=>hs b (k6 b hb)⟩
theorem SyC.crashed {i:Nat} {D D':List Nat} {k':Dk} (h:SyC w A Y c n S rs ds ls Xs vr vd gu qv gv lv) (hz:∀b,b∈Z↔b∈Y\/∃i,i<n/\b∈Xs i) (hi:i<n) (hD:∀b∈D,b∈Xs i) (hk:IsDk w' D' (ds i) k') (hm:Moves D D' w w') :
  SyP w (w'.setCell ⟨gu,i,none⟩ (.bool false)) A Z c n (S.set i ⟨(S.at i).s,k',false⟩):=by
 have hXA:=(h.node i hi).xA;obtain ⟨hmv,hxA⟩:=Be (A:=A) hD (λb hb=>hXA b (hD b hb)) hm;have hal:∀b∈A++D',b<w'.heap.size:=λb hb=>by
  rcases av.1 hb with h1 | h1
  ·exact aH (h.alt b h1) hm.only.size
  ·exact hk.lt b h1
 have hon:Only [gu] w' (w'.setCell ⟨gu,i,none⟩ (.bool false)):=(Only.refl _ _).setCell (by simp) _;have hguX:gu∉D:=λhm=>h.yx i hi gu h.uY (hD gu hm);have hup:=hm.only.keeps h.up hguX;have hrr1:=bg h.rr hm.only (λb hb hd=>h.yx i hi b (h.rY b hb) (hD b hd));have hrr2:(w'.setCell ⟨gu,i,none⟩ (.bool false)).ownsRow 0 39 1 vr n (f9 (gH rs i (rs i)) n):=by
  rw [vz];refine bg hrr1 hon (λb hb hm=>?_);rw [aj.1 hm] at hb;have:=bU hrr1 hb;rw [hup] at this;simp at this
 have hs:=h.callU (nd:=⟨(S.at i).s,k',false⟩) hi hmv ⟨(λe=>by cases e),λ_=>hk.grow (λb hb=>aG _ hb) (λb hb=>hal b (hxA hXA b hb)),hxA hXA⟩ hal hon (λb hb=>by rw [aj.1 hb];exact h.uY) (λb hb=>by rw [aj.1 hb];exact ⟨_,4,.inl rfl,hup⟩)
  (by rw [aZ hup,jo]) hrr2 (l':=ls i)
 obtain ⟨Z',hz',hmz⟩:=j6 (Y:=Y) hi hz hmv;exact ⟨A++D',Z',⟨_,_,_,_,_,_,_,_,_,_,_,hs,hz'⟩,hmz.trans (Mv.only hon (λb hb=>by rw [aj.1 hb];exact (hz' gu).2 (.inl h.uY)))⟩
theorem yI {e:TypeId} {g k i p:Nat} {f:Nat->Nat} (h:w.ownsRow 0 e 1 (.slice (some ⟨g,0,none⟩) n k) n (f9 f n)) (hi:i<n):(w.setCell ⟨g,i,none⟩ (ia p)).ownsRow 0 e 1 (.slice (some ⟨g,0,none⟩) n k) n (f9 (gH f i p) n):=by
 obtain ⟨h1,h2⟩:=h;rcases h2 with ⟨h2,_⟩ | ⟨g',cap,cur,e1,hb,hh,hnc,hm,hs,ht⟩
 ·cases h2
 ·cases e1;refine ⟨by simp [f9],.inr ⟨g,k,_,rfl,aA _,aZ hh i (ia p),hnc,hm,by simpa using hs,?_⟩⟩;rw [Array.toList_setIfInBounds,List.take_set,ht];unfold f9;apply List.ext_getElem?;intro j;rw [kS];by_cases hj:i=j
  ·subst hj;simp [hi,dC]
  ·rw [aw hj];by_cases hjn:j<n
   ·simp [hjn,de _ _ (ud hj)]
   ·simp [hjn]
theorem SyC.backed {i r' l' g k:Nat} {X':List Nat} {nd:Nod} (h:SyC w A Y c n S rs ds ls Xs (.slice (some ⟨g,0,none⟩) n k) vd gu qv gv lv) (hz:∀b,b∈Z↔b∈Y\/∃i,i<n/\b∈Xs i) (hi:i<n) (hm:Mv A A' (Xs i) X' w w') (hn:Nd w' A' X' r' (ds i) l' nd.s nd.k) (hu:nd.up=true) :
  SyP w ((w'.setCell ⟨g,i,none⟩ (ia r')).setCell ⟨gu,i,none⟩ (.bool true)) A Z c n (S.set i nd):=by
 have hgY:g∈Y:=h.rY g rfl;have hue:=hm.mv.only.keeps h.up (h.yx i hi gu h.uY);have hr1:=bg h.rr hm.mv.only (λb hb=>h.yx i hi b (h.rY b hb));have hge:=bU hr1 (show (Value.slice (some ⟨g,0,none⟩) n k).ownBlock=some g from rfl);have hne:gu≠g:=b8 hue hge (by decide);have hr2:=yI (p:=r') hr1 hi;have ho1:Only [gu,g] w' (w'.setCell ⟨g,i,none⟩ (ia r')):=(Only.refl _ _).setCell (by simp) _;have ho2:Only [gu,g] w' ((w'.setCell ⟨g,i,none⟩ (ia r')).setCell ⟨gu,i,none⟩ (.bool true)):=ho1.setCell (by simp) _;have hue2:(w'.setCell ⟨g,i,none⟩ (ia r')).heap[gu]? = _:=((Only.refl [g] w').setCell (p:=⟨g,i,none⟩) (by simp) (ia r')).keeps hue (by simpa using hne);have hon:Only [gu] (w'.setCell ⟨g,i,none⟩ (ia r')) ((w'.setCell ⟨g,i,none⟩ (ia r')).setCell ⟨gu,i,none⟩ (.bool true)):=(Only.refl _ _).setCell (by simp) _;have hr3:=bg hr2 hon (λb hb hm=>by
  cases hb;exact hne (aj.1 hm).symm)
 have hs:=h.callU (nd:=nd) hi hm ⟨λ_=>hn,(λe=>by rw [hu] at e;cases e),hn.xA⟩ hn.alt ho2 (λb hb=>by
   simp at hb;rcases hb with rfl | rfl
   ·exact h.uY
   ·exact hgY) (λb hb=>by
   simp at hb;rcases hb with rfl | rfl
   ·exact ⟨_,4,.inl rfl,hue⟩
   ·exact ⟨_,39,.inr rfl,hge⟩) (by rw [aZ hue2,jo,hu]) hr3
 obtain ⟨Z',hz',hmz⟩:=j6 (Y:=Y) hi hz hm;exact ⟨A',Z',⟨_,_,_,_,_,_,_,_,_,_,_,hs,hz'⟩,hmz.trans (Mv.only ho2 (λb hb=>by
  simp at hb;rcases hb with rfl | rfl
  ·exact (hz' _).2 (.inl h.uY)
  ·exact (hz' _).2 (.inl hgY)))⟩
end
end Go.Proofs.Ytnicaicjgaoolaa
