/-
  What the proof of the law leans on: contracts of the program's functions, one behind another. No condition.
-/
import Derived.Test.YtnicaicjgaoolaaU0
import Derived.Test.YtnicaicjgaoolaaU25
import Derived.Test.YtnicaicjgaoolaaU24
import Derived.Test.YtnicaicjgaoolaaU3
set_option linter.unusedVariables false
set_option linter.unusedSimpArgs false
namespace Go.Proofs.Ytnicaicjgaoolaa
open Go.RowKit Go.ChangeMaps Go.WideMaps Go.Maps
set_option maxRecDepth 20000
theorem xB {p:Prop} (h:p:=by
 refine cf 7 λK hK=>?_;refine bL rfl λQ' hQ=>?_;refine jq rfl (.tmp 195) (.tmp 197) rfl HV2.out.q HV2.out.yA HV2.out.alt HH2 HMG2.out (by have:=HL2.out;omega) (by rfl) (by rfl) ?_;intro v3 V3 hqp;obtain ⟨a3,n3,c3,e3⟩:=hqp.shape;subst e3;have HQP:=ab hqp;obtain ⟨T3,ho3,hT3⟩:=hqp.only HV2.out.yA;have hk3:=HK.out T3 _ _ HB2.out ho3 hT3;refine hQ _ _ ?_;clear hQ Q' hqp;refine hK.out _ _ hk3 (λam=>?_);clear hK K;refine bu ?_;have hc3:=HV2.out.cell_qp HQP.out;have HO3:=ab (And.intro ho3 hT3);have HCT:Hid (∀b∈c::T3,b∈A):=ab (λb hb=>(bG.1 hb).elim (λe=>e ▸ HV2.out.yA _ HV2.out.cY) (HO3.out.2 b));clear hk3 ho3 hT3;refine az 8 ?_;refine az 9 ?_;refine cf 10 λK hK=>?_;have hy3:V3.cell? ⟨c,3,none⟩=some (.slice (some ⟨g,off,none⟩) S.q.length cq):=by rw [af hc3];rfl
 have hz3:=aO hc3 3;go_simp
 clear hy3 hz3;refine hK.out _ _ (HK.out (c::T3) _ _ HB2.out ((HO3.out.1.mono (λb hb=>aI _ hb)).setCell (p:=⟨c,3,none⟩) (by simp) (.slice a3 n3 c3)) HCT.out) (λam=>?_);clear hK K;refine bu ?_;refine fc ?_;clear am;go_wp2_with fail
 (try simp only [Exit.inBlock,Exit.then])
 refine bodyPost_ret (results_none rfl _ _ _) rfl ?_;refine ⟨rfl,?_⟩;rw [HTE.out];exact SyP.trans (M3.out.trans (Mv.below HB2.out)) (HV2.out.setq HZ.out HQP.out)):p:=h
section
variable {w w':World} {A A' Y Z Z':List Nat} {c n cl:Nat} {S:Mn} {rs ds ls:Nat->Nat} {Xs:Nat->List Nat} {vr vd:Value} {gu:Nat} {qv gv lv:Value}
set_option maxHeartbeats 4000000 in
theorem Aa (h:Sy w A Z c n S) (hi:SInv n cl S) (N K P:Int) (ba:Option Addr) (bl bc:Nat) (hn:1<=n) :
  Calls Try.prog 11 #[.pointer (some ⟨c,0,none⟩),.agg #[.int .i64 3,.int .i64 N,.int .i64 K,.int .i64 P,.slice ba bl bc]] w λe w'=>e = .returned (.tuple #[])/\SyP w w' A Z c n (S.twice K):=by
 have HZA:=ab h.zA;have hbw:Below w.heap.size w (w.alloc (.cells #[.int .i64 3,.int .i64 N,.int .i64 K,.int .i64 P,.slice ba bl bc] 31)):=(aB _ _).alloc (ah _) _;have hbx:=aJ w (.cells #[.int .i64 3,.int .i64 N,.int .i64 K,.int .i64 P,.slice ba bl bc] 31);have hs1:=h.below hbw;have HM0:Hid (Mv A A Z Z w (w.alloc (.cells #[.int .i64 3,.int .i64 N,.int .i64 K,.int .i64 P,.slice ba bl bc] 31))):=ab (Mv.below hbw);have HMA:Hid (w.heap.size∉A):=ab (λhb=>by have:=h.alt _ hb;omega);obtain ⟨hq1,hq2⟩:=gW N n hn;have HQ1:=ab hq1;obtain ⟨Y,rs,ds,ls,Xs,vr,vd,gu,qv,gv,lv,hs,hz⟩:=hs1;obtain ⟨gr,kr,evr,hkr,hrow⟩:=df hs.rr (by omega);subst evr;obtain ⟨gd,kd,evd,hkd,hrowd⟩:=df hs.dr (by omega);subst evd;have hc0:(w.alloc (.cells #[.int .i64 3,.int .i64 N,.int .i64 K,.int .i64 P,.slice ba bl bc] 31)).cell? ⟨c,0,none⟩=some (.slice (some ⟨gr,0,none⟩) n kr):=by rw [af hs.cell];rfl
 have hc1:(w.alloc (.cells #[.int .i64 3,.int .i64 N,.int .i64 K,.int .i64 P,.slice ba bl bc] 31)).cell? ⟨c,1,none⟩=some (.slice (some ⟨gd,0,none⟩) n kd):=by rw [af hs.cell];rfl
 have hc2:(w.alloc (.cells #[.int .i64 3,.int .i64 N,.int .i64 K,.int .i64 P,.slice ba bl bc] 31)).cell? ⟨c,2,none⟩=some (.slice (some ⟨gu,0,none⟩) n n):=by rw [af hs.cell];rfl
 have hk0:(w.alloc (.cells #[.int .i64 3,.int .i64 N,.int .i64 K,.int .i64 P,.slice ba bl bc] 31)).cell? ⟨w.heap.size,0,none⟩=some (.int .i64 3):=by rw [af hbx];rfl
 have hk1:(w.alloc (.cells #[.int .i64 3,.int .i64 N,.int .i64 K,.int .i64 P,.slice ba bl bc] 31)).cell? ⟨w.heap.size,1,none⟩=some (.int .i64 N):=by rw [af hbx];rfl
 have hk2:(w.alloc (.cells #[.int .i64 3,.int .i64 N,.int .i64 K,.int .i64 P,.slice ba bl bc] 31)).cell? ⟨w.heap.size,2,none⟩=some (.int .i64 K):=by rw [af hbx];rfl
 have hk3:(w.alloc (.cells #[.int .i64 3,.int .i64 N,.int .i64 K,.int .i64 P,.slice ba bl bc] 31)).cell? ⟨w.heap.size,3,none⟩=some (.int .i64 P):=by rw [af hbx];rfl
 have hk4:(w.alloc (.cells #[.int .i64 3,.int .i64 N,.int .i64 K,.int .i64 P,.slice ba bl bc] 31)).cell? ⟨w.heap.size,4,none⟩=some (.slice ba bl bc):=by rw [af hbx];rfl
 have hrd:=hrowd _ hq2;have hrq:=hrow _ hq2;have HS:=ab hs;have HZ:=ab hz;have HI:=ab hi;have HML:Hid (w.heap.size<(w.alloc (.cells #[.int .i64 3,.int .i64 N,.int .i64 K,.int .i64 P,.slice ba bl bc] 31)).heap.size):=ab (by simp);clear hs hz h hi hbw hbx hrow hrowd;generalize iX N n=q at *;go_enter Try.func11,Try.ntmps11
 go_upto_region 1 with (fail)
 generalize w.alloc (.cells #[.int .i64 3,.int .i64 N,.int .i64 K,.int .i64 P,.slice ba bl bc] 31)=W at *;generalize w.heap.size=M at *;go_cut [4] (λv wx=>v = .int .i64 (q:Int)/\∃nq,wx=W.drewN nq)
 case first =>
  go_quiet (fail)
  go_wp2_with fail
  go_meet
  exact ⟨by rw [<-HQ1.out],nq,rfl⟩
 case rest =>
 obtain ⟨rfl,nq,rfl⟩:=hcut;have hb1:=ap W nq;have HS1:=ab (HS.out.below hb1);have M1:Hid (Mv A A Z Z w (W.drewN nq)):=ab (HM0.out.trans (Mv.below hb1));have hup:=HS1.out.upAt q hq2;have hc0:(W.drewN nq).cell? ⟨c,0,none⟩=some (.slice (some ⟨gr,0,none⟩) n kr):=hc0;have hc1:(W.drewN nq).cell? ⟨c,1,none⟩=some (.slice (some ⟨gd,0,none⟩) n kd):=hc1;have hc2:(W.drewN nq).cell? ⟨c,2,none⟩=some (.slice (some ⟨gu,0,none⟩) n n):=hc2;have hk0:(W.drewN nq).cell? ⟨M,0,none⟩=some (.int .i64 3):=hk0;have hk1:(W.drewN nq).cell? ⟨M,1,none⟩=some (.int .i64 N):=hk1;have hk2:(W.drewN nq).cell? ⟨M,2,none⟩=some (.int .i64 K):=hk2;have hk3:(W.drewN nq).cell? ⟨M,3,none⟩=some (.int .i64 P):=hk3;have hk4:(W.drewN nq).cell? ⟨M,4,none⟩=some (.slice ba bl bc):=hk4;have hrd:(W.drewN nq).cell? ⟨gd,q,none⟩=some (.pointer (some ⟨ds q,0,none⟩)):=hrd;have hrq:(W.drewN nq).cell? ⟨gr,q,none⟩=some (.pointer (some ⟨rs q,0,none⟩)):=hrq;have HML:Hid (M<(W.drewN nq).heap.size):=ab HML.out;have hq3:(q:Int)<(n:Int):=by omega
 clear hb1 HS HM0 hq1 HQ1;generalize W.drewN nq=W1 at *;have hq0:=HS1.out.q;obtain ⟨aq,cq,eq9,hcq,_⟩:=hq0.shape;subst eq9;have hc3:W1.cell? ⟨c,3,none⟩=some (.slice aq S.q.length cq):=by rw [af HS1.out.cell];rfl
 have HSY:Hid (Sy W1 A Z c n S):=ab ⟨_,_,_,_,_,_,_,_,_,_,_,HS1.out,HZ.out⟩;clear hup hrd hrq hc0 hc1 hc2;by_cases hl0:S.q.length=0
 ·have HF:Hid (SyP w W1 A Z c n (S.twice K)):=ab (by
   rw [vi K hl0];exact HSY.out.syp M1.out)
  rw [hl0] at hc3;clear hq0 hq3;go_wp2_with fail
  (try simp only [Exit.inBlock,Exit.then])
  refine bodyPost_ret (results_none rfl _ _ _) rfl ?_;exact ⟨rfl,HF.out⟩
 ·have hl1:1<=S.q.length:=by omega
  have HL2:Hid (S.q.length<=2000):=ab HI.out.ql;obtain ⟨hj1,hj2⟩:=qk K S.q.length hl1;have HQJ:=ab hj1;have HJE:Hid (gG K S.q.length=gG K S.q.length):=ab rfl;generalize hj:gG K S.q.length=j at HQJ hj1 hj2;have HJ:=ab hj;obtain ⟨g,off,cc,mv,mu,e9,_,k0,k1,k2,k3,k4,hmsg⟩:=hq0.at j hj2;cases e9;generalize hmm:S.q[j]=m at *;have HMM:=ab hmm;obtain ⟨an,cn,e9,_⟩:=id hmsg.n;subst e9;obtain ⟨ub,bb,e9⟩:=fU hmsg.b;subst e9;have HMG:=ab hmsg;have HQ0:=ab hq0;have hl2:¬(S.q.length:Int)=0:=by omega
  have hj3:(j:Int)<(S.q.length:Int):=by omega
  clear hmm hj hj1 HJE hmsg hq0 hq3 hl0;go_upto_region 27 with (fail)
  go_cut [9] (λv wx=>v = .int .i64 (j:Int)/\∃nq,wx=W1.drewN nq)
  case first =>
   go_quiet (fail)
   go_wp2_with fail
   go_meet
   exact ⟨by rw [<-HQJ.out],nq,rfl⟩
  case rest =>
  obtain ⟨rfl,nq,rfl⟩:=hcut;go_upto_region 28 with (fail)
  have hb2:=ap W1 nq;have HS2:=ab (HS1.out.below hb2);have HMG2:=ab (HMG.out.below hb2);have M2:Hid (Mv A A Z Z w (W1.drewN nq)):=ab (M1.out.trans (Mv.below hb2));have HML2:Hid (M<(W1.drewN nq).heap.size):=ab HML.out;have hc3:(W1.drewN nq).cell? ⟨c,3,none⟩=some (.slice (some ⟨g,off,none⟩) S.q.length cq):=hc3;have k0:(W1.drewN nq).cell? ⟨g,off+j*5,none⟩=some (.int .i64 m.frm):=k0;have k1:(W1.drewN nq).cell? ⟨g,off+j*5+1,none⟩=some (.int .i64 m.dst):=k1;have k2:(W1.drewN nq).cell? ⟨g,off+j*5+2,none⟩=some (.int .i64 m.kind):=k2;have k3:(W1.drewN nq).cell? ⟨g,off+j*5+3,none⟩=some (.slice an m.N.length cn):=k3;have k4:(W1.drewN nq).cell? ⟨g,off+j*5+4,none⟩=some (.slice ub m.B.length bb):=k4;have hk0:(W1.drewN nq).cell? ⟨M,0,none⟩=some (.int .i64 3):=hk0;clear hb2 HS1 HMG HQ0 M1 HML;generalize W1.drewN nq=W2 at *;go_upto_region 29 with (fail)
  have hbw2:Below W2.heap.size W2 (W2.alloc (.cells #[.int .i64 m.frm,.int .i64 m.dst,.int .i64 m.kind,.slice an m.N.length cn,.slice ub m.B.length bb] 51)):=(aB _ _).alloc (ah _) _;have HBX:=ab (aJ W2 (.cells #[.int .i64 m.frm,.int .i64 m.dst,.int .i64 m.kind,.slice an m.N.length cn,.slice ub m.B.length bb] 51));have HS3:=ab (HS2.out.below hbw2);have HMG3:=ab (HMG2.out.below hbw2);have M3:Hid (Mv A A Z Z w (W2.alloc (.cells #[.int .i64 m.frm,.int .i64 m.dst,.int .i64 m.kind,.slice an m.N.length cn,.slice ub m.B.length bb] 51))):=ab (M2.out.trans (Mv.below hbw2));have hc3:(W2.alloc (.cells #[.int .i64 m.frm,.int .i64 m.dst,.int .i64 m.kind,.slice an m.N.length cn,.slice ub m.B.length bb] 51)).cell? ⟨c,3,none⟩=some (.slice (some ⟨g,off,none⟩) S.q.length cq):=cell_later hbw2 hc3;have hk0:(W2.alloc (.cells #[.int .i64 m.frm,.int .i64 m.dst,.int .i64 m.kind,.slice an m.N.length cn,.slice ub m.B.length bb] 51)).cell? ⟨M,0,none⟩=some (.int .i64 3):=cell_later hbw2 hk0;have HHA:Hid (W2.heap.size∉A):=ab (λhb=>by have:=HS2.out.alt _ hb;omega);have HMH:Hid (M≠W2.heap.size):=ab (by have:=HML2.out;omega);clear hbw2 k0 k1 k2 k3 k4 HS2 HMG2 M2 HML2;generalize W2.alloc (.cells #[.int .i64 m.frm,.int .i64 m.dst,.int .i64 m.kind,.slice an m.N.length cn,.slice ub m.B.length bb] 51)=W3 at *;generalize W2.heap.size=H at *;have k0:W3.cell? ⟨H,0,none⟩=some (.int .i64 m.frm):=by rw [af HBX.out];rfl
  have k1:W3.cell? ⟨H,1,none⟩=some (.int .i64 m.dst):=by rw [af HBX.out];rfl
  have k2:W3.cell? ⟨H,2,none⟩=some (.int .i64 m.kind):=by rw [af HBX.out];rfl
  have k3:W3.cell? ⟨H,3,none⟩=some (.slice an m.N.length cn):=by rw [af HBX.out];rfl
  have k4:W3.cell? ⟨H,4,none⟩=some (.slice ub m.B.length bb):=by rw [af HBX.out];rfl
  have HTW:Hid (S.twice K={ S with q:=gM S.q m }):=ab (by
   unfold Mn.twice;rw [HJ.out,show S.q[j]? = some m by rw [<-HMM.out];exact jv hj2])
  by_cases hfull:S.q.length<2000
  ·have hfull2:(S.q.length:Int)<2000:=by omega
   have HTE:Hid (S.twice K={ S with q:=S.q++[m]}):=ab (by rw [HTW.out];unfold gM;rw [ax hfull]);have HK:Hid (∀(T:List Nat) (V w2:World),Below W3.heap.size W3 V->Only T V w2->(∀b∈T,b∈A)->w2.cell? ⟨H,0,none⟩=some (.int .i64 m.frm)/\w2.cell? ⟨H,1,none⟩=some (.int .i64 m.dst)/\w2.cell? ⟨H,2,none⟩=some (.int .i64 m.kind)/\w2.cell? ⟨H,3,none⟩=some (.slice an m.N.length cn)/\w2.cell? ⟨H,4,none⟩=some (.slice ub m.B.length bb)):=ab (λT V w2 hb ho hT=>by
     have h1:=ho.keeps ((Only.ofBelow hb []).keeps HBX.out (by simp)) (λhm=>HHA.out (hT _ hm));exact ⟨by rw [af h1];rfl,by rw [af h1];rfl,by rw [af h1];rfl,by rw [af h1];rfl,by rw [af h1];rfl⟩)
   have hs0:W3.drew.cell? ⟨H,0,none⟩=some (.int .i64 m.frm)/\W3.drew.cell? ⟨H,1,none⟩=some (.int .i64 m.dst)/\W3.drew.cell? ⟨H,2,none⟩=some (.int .i64 m.kind)/\W3.drew.cell? ⟨H,3,none⟩=some (.slice an m.N.length cn)/\W3.drew.cell? ⟨H,4,none⟩=some (.slice ub m.B.length bb):=⟨k0,k1,k2,k3,k4⟩
   have HS0:=ab hs0;clear k0 k1 k2 k3 k4 hs0 hfull;go_upto_region 30 with (fail)
   go_wp2_with fail
   refine wp_region_held_drew (S:=λw'=>w'.cell? ⟨H,0,none⟩=some (.int .i64 m.frm)/\w'.cell? ⟨H,1,none⟩=some (.int .i64 m.dst)/\w'.cell? ⟨H,2,none⟩=some (.int .i64 m.kind)/\w'.cell? ⟨H,3,none⟩=some (.slice an m.N.length cn)/\w'.cell? ⟨H,4,none⟩=some (.slice ub m.B.length bb)) (by kernel_rfl) HS0.out (λam=>?_);refine az 0 ?_;refine az 1 ?_;refine az 2 ?_;refine az 3 ?_;refine az 5 ?_;have HB1:Hid (Below W3.heap.size W3 W3.drew):=ab (ap W3 1);have HV1:=ab (HS3.out.below HB1.out);generalize W3.drew=V1 at *;refine gJ 4 6 (λK hK=>?_) λK hK=>?_
   ·have hy3:V1.cell? ⟨c,3,none⟩=some (.slice (some ⟨g,off,none⟩) S.q.length cq):=by rw [af HV1.out.cell];rfl
    go_simp
    clear hy3;refine hK.out _ _ am (λam=>?_);clear hK K;refine bu ?_;refine cf 6 λK hK=>?_;go_simp
    refine hK.out _ _ (HK.out [] _ _ (HB1.out.alloc HB1.out.size (.cells #[.int .i64 m.frm,.int .i64 m.dst,.int .i64 m.kind,.slice an m.N.length cn,.slice ub m.B.length bb] 51)) (Only.refl _ _) (λb hb=>by cases hb)) (λam=>?_);clear hK K;refine bu ?_;have HB2:=ab (HB1.out.alloc HB1.out.size (.cells #[.int .i64 m.frm,.int .i64 m.dst,.int .i64 m.kind,.slice an m.N.length cn,.slice ub m.B.length bb] 51));have HV2:=ab (HS3.out.below HB2.out);have HMG2:=ab (HMG3.out.below HB2.out);have HH2:=aJ V1 (.cells #[.int .i64 m.frm,.int .i64 m.dst,.int .i64 m.kind,.slice an m.N.length cn,.slice ub m.B.length bb] 51);generalize hV2:V1.alloc (.cells #[.int .i64 m.frm,.int .i64 m.dst,.int .i64 m.kind,.slice an m.N.length cn,.slice ub m.B.length bb] 51)=V2 at *;generalize V1.heap.size=H2 at *;clear hV2;exact xB
   ·go_simp
    refine hK.out _ _ (HK.out [] _ _ (HB1.out.alloc HB1.out.size (.cells #[.int .i64 m.frm,.int .i64 m.dst,.int .i64 m.kind,.slice an m.N.length cn,.slice ub m.B.length bb] 51)) (Only.refl _ _) (λb hb=>by cases hb)) (λam=>?_);clear hK K;refine bu ?_;have HB2:=ab (HB1.out.alloc HB1.out.size (.cells #[.int .i64 m.frm,.int .i64 m.dst,.int .i64 m.kind,.slice an m.N.length cn,.slice ub m.B.length bb] 51));have HV2:=ab (HS3.out.below HB2.out);have HMG2:=ab (HMG3.out.below HB2.out);have HH2:=aJ V1 (.cells #[.int .i64 m.frm,.int .i64 m.dst,.int .i64 m.kind,.slice an m.N.length cn,.slice ub m.B.length bb] 51);generalize hV2:V1.alloc (.cells #[.int .i64 m.frm,.int .i64 m.dst,.int .i64 m.kind,.slice an m.N.length cn,.slice ub m.B.length bb] 51)=V2 at *;generalize V1.heap.size=H2 at *;clear hV2;refine cf 4 λK hK=>?_;have hy3:V2.cell? ⟨c,3,none⟩=some (.slice (some ⟨g,off,none⟩) S.q.length cq):=by rw [af HV2.out.cell];rfl
    go_simp
    clear hy3;refine hK.out _ _ am (λam=>?_);clear hK K;refine bu ?_;exact xB
  ·have hfull2:¬(S.q.length:Int)<2000:=by omega
   have HF:Hid (SyP w W3 A Z c n (S.twice K)):=ab (by
     rw [HTW.out];unfold gM;rw [aw hfull];exact SyP.trans M3.out ⟨A,Z,⟨_,_,_,_,_,_,_,_,_,_,_,HS3.out,HZ.out⟩,Mv.refl _ _ _⟩)
   go_wp2_with fail
   (try simp only [Exit.inBlock,Exit.then])
   refine bodyPost_ret (results_none rfl _ _ _) rfl ?_;exact ⟨rfl,HF.out⟩
end
def Mn.crash (S:Mn) (i:Nat) (keep:Int):Mn:=S.set i ⟨(S.at i).s,dN (S.at i).k keep,false⟩
section
variable {w w':World} {A A' Y Z Z':List Nat} {c n cl:Nat} {S:Mn} {rs ds ls:Nat->Nat} {Xs:Nat->List Nat} {vr vd:Value} {gu:Nat} {qv gv lv:Value}
set_option maxHeartbeats 4000000 in
theorem Ae (h:Sy w A Z c n S) (hi:∀i,i<n->qn (S.at i).k/\(S.at i).k.total<=1048576) (N K P:Int) (hP1 : -9223372036854775808<=P) (hP2:P<=9223372036854775807) (ba:Option Addr) (bl bc:Nat) (hn:1<=n) :
  Calls Try.prog 11 #[.pointer (some ⟨c,0,none⟩),.agg #[.int .i64 4,.int .i64 N,.int .i64 K,.int .i64 P,.slice ba bl bc]] w λe w'=>e = .returned (.tuple #[])/\SyP w w' A Z c n (S.crash (iX N n) P):=by
 have hbw:Below w.heap.size w (w.alloc (.cells #[.int .i64 4,.int .i64 N,.int .i64 K,.int .i64 P,.slice ba bl bc] 31)):=(aB _ _).alloc (ah _) _;have hbx:=aJ w (.cells #[.int .i64 4,.int .i64 N,.int .i64 K,.int .i64 P,.slice ba bl bc] 31);have hs1:=h.below hbw;have HM0:Hid (Mv A A Z Z w (w.alloc (.cells #[.int .i64 4,.int .i64 N,.int .i64 K,.int .i64 P,.slice ba bl bc] 31))):=ab (Mv.below hbw);have HMA:Hid (w.heap.size∉A):=ab (λhb=>by have:=h.alt _ hb;omega);obtain ⟨hq1,hq2⟩:=gW N n hn;have HQ1:=ab hq1;obtain ⟨Y,rs,ds,ls,Xs,vr,vd,gu,qv,gv,lv,hs,hz⟩:=hs1;obtain ⟨gr,kr,evr,hkr,hrow⟩:=df hs.rr (by omega);subst evr;obtain ⟨gd,kd,evd,hkd,hrowd⟩:=df hs.dr (by omega);subst evd;have hc0:(w.alloc (.cells #[.int .i64 4,.int .i64 N,.int .i64 K,.int .i64 P,.slice ba bl bc] 31)).cell? ⟨c,0,none⟩=some (.slice (some ⟨gr,0,none⟩) n kr):=by rw [af hs.cell];rfl
 have hc1:(w.alloc (.cells #[.int .i64 4,.int .i64 N,.int .i64 K,.int .i64 P,.slice ba bl bc] 31)).cell? ⟨c,1,none⟩=some (.slice (some ⟨gd,0,none⟩) n kd):=by rw [af hs.cell];rfl
 have hc2:(w.alloc (.cells #[.int .i64 4,.int .i64 N,.int .i64 K,.int .i64 P,.slice ba bl bc] 31)).cell? ⟨c,2,none⟩=some (.slice (some ⟨gu,0,none⟩) n n):=by rw [af hs.cell];rfl
 have hk0:(w.alloc (.cells #[.int .i64 4,.int .i64 N,.int .i64 K,.int .i64 P,.slice ba bl bc] 31)).cell? ⟨w.heap.size,0,none⟩=some (.int .i64 4):=by rw [af hbx];rfl
 have hk1:(w.alloc (.cells #[.int .i64 4,.int .i64 N,.int .i64 K,.int .i64 P,.slice ba bl bc] 31)).cell? ⟨w.heap.size,1,none⟩=some (.int .i64 N):=by rw [af hbx];rfl
 have hk2:(w.alloc (.cells #[.int .i64 4,.int .i64 N,.int .i64 K,.int .i64 P,.slice ba bl bc] 31)).cell? ⟨w.heap.size,2,none⟩=some (.int .i64 K):=by rw [af hbx];rfl
 have hk3:(w.alloc (.cells #[.int .i64 4,.int .i64 N,.int .i64 K,.int .i64 P,.slice ba bl bc] 31)).cell? ⟨w.heap.size,3,none⟩=some (.int .i64 P):=by rw [af hbx];rfl
 have hk4:(w.alloc (.cells #[.int .i64 4,.int .i64 N,.int .i64 K,.int .i64 P,.slice ba bl bc] 31)).cell? ⟨w.heap.size,4,none⟩=some (.slice ba bl bc):=by rw [af hbx];rfl
 have hrd:=hrowd _ hq2;have hrq:=hrow _ hq2;have HS:=ab hs;have HZ:=ab hz;have HI:=ab hi;have HML:Hid (w.heap.size<(w.alloc (.cells #[.int .i64 4,.int .i64 N,.int .i64 K,.int .i64 P,.slice ba bl bc] 31)).heap.size):=ab (by simp);clear hs hz h hi hbw hbx hrow hrowd;generalize iX N n=q at *;go_enter Try.func11,Try.ntmps11
 go_upto_region 1 with (fail)
 generalize w.alloc (.cells #[.int .i64 4,.int .i64 N,.int .i64 K,.int .i64 P,.slice ba bl bc] 31)=W at *;generalize w.heap.size=M at *;go_cut [4] (λv wx=>v = .int .i64 (q:Int)/\∃nq,wx=W.drewN nq)
 case first =>
  go_quiet (fail)
  go_wp2_with fail
  go_meet
  exact ⟨by rw [<-HQ1.out],nq,rfl⟩
 case rest =>
 obtain ⟨rfl,nq,rfl⟩:=hcut;have hb1:=ap W nq;have HS1:=ab (HS.out.below hb1);have M1:Hid (Mv A A Z Z w (W.drewN nq)):=ab (HM0.out.trans (Mv.below hb1));have hup:=HS1.out.upAt q hq2;have hc0:(W.drewN nq).cell? ⟨c,0,none⟩=some (.slice (some ⟨gr,0,none⟩) n kr):=hc0;have hc1:(W.drewN nq).cell? ⟨c,1,none⟩=some (.slice (some ⟨gd,0,none⟩) n kd):=hc1;have hc2:(W.drewN nq).cell? ⟨c,2,none⟩=some (.slice (some ⟨gu,0,none⟩) n n):=hc2;have hk0:(W.drewN nq).cell? ⟨M,0,none⟩=some (.int .i64 4):=hk0;have hk1:(W.drewN nq).cell? ⟨M,1,none⟩=some (.int .i64 N):=hk1;have hk2:(W.drewN nq).cell? ⟨M,2,none⟩=some (.int .i64 K):=hk2;have hk3:(W.drewN nq).cell? ⟨M,3,none⟩=some (.int .i64 P):=hk3;have hk4:(W.drewN nq).cell? ⟨M,4,none⟩=some (.slice ba bl bc):=hk4;have hrd:(W.drewN nq).cell? ⟨gd,q,none⟩=some (.pointer (some ⟨ds q,0,none⟩)):=hrd;have hrq:(W.drewN nq).cell? ⟨gr,q,none⟩=some (.pointer (some ⟨rs q,0,none⟩)):=hrq;have HML:Hid (M<(W.drewN nq).heap.size):=ab HML.out;have hq3:(q:Int)<(n:Int):=by omega
 clear hb1 HS HM0 hq1 HQ1;generalize W.drewN nq=W1 at *;obtain ⟨D,hdk,hDX⟩:=(HS1.out.node q hq2).dk;have HDX:=ab hDX;have hdk2:IsDk W1.drew D (ds q) (S.at q).k:=hdk.below (ap W1 1);have HCR:=ab (wQ hdk2 P hP1 hP2 (λl k hf=>⟨(HI.out q hq2).1 l k hf,by
  have h9:=(HI.out q hq2).2;unfold Dk.total at h9;rw [hf] at h9;exact h9⟩))
 have hXZ:=(HS1.out.node q hq2).xA;have hcD:c∉D:=λhm=>HS1.out.yx q hq2 c HS1.out.cY (hDX c hm);have hgdD:gd∉D:=λhm=>HS1.out.yx q hq2 gd (HS1.out.dY gd rfl) (hDX gd hm);have hMD:M∉D:=λhm=>HMA.out (hXZ M (hDX M hm));have hs0:W1.drew.cell? ⟨c,1,none⟩=some (.slice (some ⟨gd,0,none⟩) n kd)/\W1.drew.cell? ⟨gd,q,none⟩=some (.pointer (some ⟨ds q,0,none⟩))/\W1.drew.cell? ⟨M,3,none⟩=some (.int .i64 P):=⟨hc1,hrd,hk3⟩
 have HK:Hid (∀w2,Only D W1.drew w2->w2.cell? ⟨c,1,none⟩=some (.slice (some ⟨gd,0,none⟩) n kd)/\w2.cell? ⟨gd,q,none⟩=some (.pointer (some ⟨ds q,0,none⟩))/\w2.cell? ⟨M,3,none⟩=some (.int .i64 P)):=ab (λw2 ho=>⟨ho.cell hs0.1 hcD,ho.cell hs0.2.1 hgdD,ho.cell hs0.2.2 hMD⟩);have HCD:=ab hcD;clear hdk hDX hdk2 hXZ hgdD hMD hcD;go_upto_region 7 with (fail)
 go_cut [] (λwx=>∃D',IsDk wx D' (ds q) (dN (S.at q).k P)/\Moves D D' W1.drew wx)
 case first =>
  as_aux_lemma =>
  refine wp_region_held_drew (S:=λw'=>w'.cell? ⟨c,1,none⟩=some (.slice (some ⟨gd,0,none⟩) n kd)/\w'.cell? ⟨gd,q,none⟩=some (.pointer (some ⟨ds q,0,none⟩))/\w'.cell? ⟨M,3,none⟩=some (.int .i64 P)) (by kernel_rfl) hs0 (λam=>?_);refine az 0 ?_;refine az 1 ?_;refine az 2 ?_;refine az 3 ?_;refine az 4 ?_;refine az 5 ?_;refine az 6 ?_;refine az 7 ?_;refine az 8 ?_;generalize W1.drew=V1 at *;refine cf 9 λK hK=>?_;go_simp
  refine HCR.out.mono ?_;rintro e W2 ⟨D',rfl,hd2,hm2⟩;have HD2:=ab hd2;have HM2:=ab hm2;have hk7:=HK.out _ hm2.only;clear hd2 hm2;go_wp2_with fail
  refine hK.out _ _ hk7 (λam=>?_);clear hK K;refine bu ?_;clear hk7;refine fc ?_;clear am;go_wp2_with fail
  go_meet
  exact ⟨D',HD2.out,HM2.out⟩
 case rest =>
 obtain ⟨D',hd2,hm2⟩:=hcut;rename World=>W2;have hs2:SyC W1.drew A Y c n S rs ds ls Xs _ _ gu qv gv lv:=HS1.out.below (ap W1 1);have HF:=ab (SyP.trans (M1.out.trans (Mv.below (ap W1 1))) (hs2.crashed HZ.out hq2 HDX.out hd2 hm2));have hce:=hm2.only.keeps hs2.cell HCD.out;have hue:=hm2.only.keeps hs2.up (λhm=>hs2.yx q hq2 gu hs2.uY (HDX.out gu hm));have hy2:W2.cell? ⟨c,2,none⟩=some (.slice (some ⟨gu,0,none⟩) n n):=by rw [af hce];rfl
 have hzu:=aO hue q;obtain ⟨zu,hku⟩:∃z,W2.cell? ⟨gu,q,none⟩=some z:=by
  rw [af hue];exact ⟨_,gp _ _ (by rw [aQ,hs2.nl];exact hq2)⟩
 clear hs2 hce hue hd2 hm2 hup;go_wp2_with fail
 go_end0
 exact ⟨rfl,HF.out⟩
end
def Mn.back (S:Mn) (n i:Nat):Mn:=if (S.at i).up then S else S.set i ⟨fN i n (S.at i).s (S.at i).k,fu (S.at i).s (S.at i).k,true⟩
section
variable {w w':World} {A A' Y Z Z':List Nat} {c n cl:Nat} {S:Mn} {rs ds ls:Nat->Nat} {Xs:Nat->List Nat} {vr vd:Value} {gu:Nat} {qv gv lv:Value}
set_option maxHeartbeats 4000000 in
theorem BI (h:Sy w A Z c n S) (hi:∀i,i<n->(S.at i).up=false->DnI (S.at i).s (S.at i).k/\(S.at i).s.n=n/\0<=(S.at i).k.lives/\(S.at i).k.lives<=1000000) (N K P:Int) (ba:Option Addr) (bl bc:Nat) (hn:1<=n) (hn5:n<=5) :
  Calls Try.prog 11 #[.pointer (some ⟨c,0,none⟩),.agg #[.int .i64 5,.int .i64 N,.int .i64 K,.int .i64 P,.slice ba bl bc]] w λe w'=>e = .returned (.tuple #[])/\SyP w w' A Z c n (S.back n (iX N n)):=by
 have hbw:Below w.heap.size w (w.alloc (.cells #[.int .i64 5,.int .i64 N,.int .i64 K,.int .i64 P,.slice ba bl bc] 31)):=(aB _ _).alloc (ah _) _;have hbx:=aJ w (.cells #[.int .i64 5,.int .i64 N,.int .i64 K,.int .i64 P,.slice ba bl bc] 31);have hs1:=h.below hbw;have HM0:Hid (Mv A A Z Z w (w.alloc (.cells #[.int .i64 5,.int .i64 N,.int .i64 K,.int .i64 P,.slice ba bl bc] 31))):=ab (Mv.below hbw);have HMA:Hid (w.heap.size∉A):=ab (λhb=>by have:=h.alt _ hb;omega);obtain ⟨hq1,hq2⟩:=gW N n hn;have HQ1:=ab hq1;obtain ⟨Y,rs,ds,ls,Xs,vr,vd,gu,qv,gv,lv,hs,hz⟩:=hs1;obtain ⟨gr,kr,evr,hkr,hrow⟩:=df hs.rr (by omega);subst evr;obtain ⟨gd,kd,evd,hkd,hrowd⟩:=df hs.dr (by omega);subst evd;have hc0:(w.alloc (.cells #[.int .i64 5,.int .i64 N,.int .i64 K,.int .i64 P,.slice ba bl bc] 31)).cell? ⟨c,0,none⟩=some (.slice (some ⟨gr,0,none⟩) n kr):=by rw [af hs.cell];rfl
 have hc1:(w.alloc (.cells #[.int .i64 5,.int .i64 N,.int .i64 K,.int .i64 P,.slice ba bl bc] 31)).cell? ⟨c,1,none⟩=some (.slice (some ⟨gd,0,none⟩) n kd):=by rw [af hs.cell];rfl
 have hc2:(w.alloc (.cells #[.int .i64 5,.int .i64 N,.int .i64 K,.int .i64 P,.slice ba bl bc] 31)).cell? ⟨c,2,none⟩=some (.slice (some ⟨gu,0,none⟩) n n):=by rw [af hs.cell];rfl
 have hk0:(w.alloc (.cells #[.int .i64 5,.int .i64 N,.int .i64 K,.int .i64 P,.slice ba bl bc] 31)).cell? ⟨w.heap.size,0,none⟩=some (.int .i64 5):=by rw [af hbx];rfl
 have hk1:(w.alloc (.cells #[.int .i64 5,.int .i64 N,.int .i64 K,.int .i64 P,.slice ba bl bc] 31)).cell? ⟨w.heap.size,1,none⟩=some (.int .i64 N):=by rw [af hbx];rfl
 have hk2:(w.alloc (.cells #[.int .i64 5,.int .i64 N,.int .i64 K,.int .i64 P,.slice ba bl bc] 31)).cell? ⟨w.heap.size,2,none⟩=some (.int .i64 K):=by rw [af hbx];rfl
 have hk3:(w.alloc (.cells #[.int .i64 5,.int .i64 N,.int .i64 K,.int .i64 P,.slice ba bl bc] 31)).cell? ⟨w.heap.size,3,none⟩=some (.int .i64 P):=by rw [af hbx];rfl
 have hk4:(w.alloc (.cells #[.int .i64 5,.int .i64 N,.int .i64 K,.int .i64 P,.slice ba bl bc] 31)).cell? ⟨w.heap.size,4,none⟩=some (.slice ba bl bc):=by rw [af hbx];rfl
 have hrd:=hrowd _ hq2;have hrq:=hrow _ hq2;have HS:=ab hs;have HZ:=ab hz;have HI:=ab hi;have HML:Hid (w.heap.size<(w.alloc (.cells #[.int .i64 5,.int .i64 N,.int .i64 K,.int .i64 P,.slice ba bl bc] 31)).heap.size):=ab (by simp);clear hs hz h hi hbw hbx hrow hrowd;generalize iX N n=q at *;go_enter Try.func11,Try.ntmps11
 go_upto_region 1 with (fail)
 generalize w.alloc (.cells #[.int .i64 5,.int .i64 N,.int .i64 K,.int .i64 P,.slice ba bl bc] 31)=W at *;generalize w.heap.size=M at *;go_cut [4] (λv wx=>v = .int .i64 (q:Int)/\∃nq,wx=W.drewN nq)
 case first =>
  go_quiet (fail)
  go_wp2_with fail
  go_meet
  exact ⟨by rw [<-HQ1.out],nq,rfl⟩
 case rest =>
 obtain ⟨rfl,nq,rfl⟩:=hcut;have hb1:=ap W nq;have HS1:=ab (HS.out.below hb1);have M1:Hid (Mv A A Z Z w (W.drewN nq)):=ab (HM0.out.trans (Mv.below hb1));have hup:=HS1.out.upAt q hq2;have hc0:(W.drewN nq).cell? ⟨c,0,none⟩=some (.slice (some ⟨gr,0,none⟩) n kr):=hc0;have hc1:(W.drewN nq).cell? ⟨c,1,none⟩=some (.slice (some ⟨gd,0,none⟩) n kd):=hc1;have hc2:(W.drewN nq).cell? ⟨c,2,none⟩=some (.slice (some ⟨gu,0,none⟩) n n):=hc2;have hk0:(W.drewN nq).cell? ⟨M,0,none⟩=some (.int .i64 5):=hk0;have hk1:(W.drewN nq).cell? ⟨M,1,none⟩=some (.int .i64 N):=hk1;have hk2:(W.drewN nq).cell? ⟨M,2,none⟩=some (.int .i64 K):=hk2;have hk3:(W.drewN nq).cell? ⟨M,3,none⟩=some (.int .i64 P):=hk3;have hk4:(W.drewN nq).cell? ⟨M,4,none⟩=some (.slice ba bl bc):=hk4;have hrd:(W.drewN nq).cell? ⟨gd,q,none⟩=some (.pointer (some ⟨ds q,0,none⟩)):=hrd;have hrq:(W.drewN nq).cell? ⟨gr,q,none⟩=some (.pointer (some ⟨rs q,0,none⟩)):=hrq;have HML:Hid (M<(W.drewN nq).heap.size):=ab HML.out;have hq3:(q:Int)<(n:Int):=by omega
 clear hb1 HS HM0 hq1 HQ1;generalize W.drewN nq=W1 at *;cases hupq:(S.at q).up with
 | true =>
  rw [hupq] at hup;have HF:Hid (SyP w W1 A Z c n (S.back n q)):=ab (by
   unfold Mn.back;rw [hupq];exact (⟨_,_,_,_,_,_,_,_,_,_,_,HS1.out,HZ.out⟩:Sy _ A Z c n S).syp M1.out)
  go_wp2_with fail
  go_end0
  exact ⟨rfl,HF.out⟩
 | false =>
  rw [hupq] at hup;obtain ⟨hdn,hsn,hl0,hl1⟩:=HI.out q hq2 hupq;have HBE:Hid (S.back n q=S.set q ⟨fN q n (S.at q).s (S.at q).k,fu (S.at q).s (S.at q).k,true⟩):=ab (by unfold Mn.back;rw [hupq];rfl);have hdk:=(HS1.out.node q hq2).dn hupq;have hXA:=(HS1.out.node q hq2).xA;have HON:=ab (Cp hdk (by omega) hl0);obtain ⟨ht,hr,htot,ns,hb,hd,hk,hns⟩:=qd hdn;have HYX:=ab (HS1.out.yx q hq2);have HXA:=ab hXA;have HOPEN:Hid (∀V,IsDk V (Xs q) (ds q) (BZ (S.at q).k)->(∀b∈A,b<V.heap.size)->Calls Try.prog 21 #[.int .i64 (q:Int),.int .i64 (n:Int),.pointer (some ⟨ds q,0,none⟩)] V λe w'=>∃r l A' X',e = .returned (.tuple #[.pointer (some ⟨r,0,none⟩),.int .i64 0])/\Nd w' A' X' r (ds q) l (fN q n (S.at q).s (S.at q).k) (fu (S.at q).s (S.at q).k)/\Mv A A' (Xs q) X' V w'):=ab (λV hv hA=>by
   have h9:=nw (A:=A) hv rfl q n hn5 hq2 ns (by rw [<-hb];exact ht) (by rw [<-hb];exact hr) htot ((jF (dz q n (BZ (S.at q).k).lives (ns.map Note.bytes)) (iI n) rfl rfl rfl rfl ns).2.2.2.2 (by rw [<-hsn];exact hk)) hns hA HXA.out;rw [<-hb] at h9;have e:fN q n (S.at q).s (S.at q).k=cK (dz q n ((S.at q).k.lives+1) (dT (S.at q).s (S.at q).k)) ns:=by unfold fN;rw [hd]
   rw [e];exact h9)
  clear hdn hsn hl0 hl1 hdk hXA ht hr htot hb hd hk hns;generalize hsb:fN q n (S.at q).s (S.at q).k=sb at *;generalize hkb:fu (S.at q).s (S.at q).k=kb at *;clear hsb hkb;go_wp2_with fail
  refine HON.out.mono ?_;rintro e W2 ⟨rfl,hd2,ho2⟩;have HD2:Hid (IsDk W2 (Xs q) (ds q) (BZ (S.at q).k)):=ab hd2;have HO2:=ab ho2;have hcX:c∉Xs q:=HYX.out c HS1.out.cY;have hgrX:gr∉Xs q:=HYX.out gr (HS1.out.rY gr rfl);have hgdX:gd∉Xs q:=HYX.out gd (HS1.out.dY gd rfl);have hguX:gu∉Xs q:=HYX.out gu HS1.out.uY;have hc0:W2.cell? ⟨c,0,none⟩=some (.slice (some ⟨gr,0,none⟩) n kr):=ho2.cell hc0 hcX;have hc1:W2.cell? ⟨c,1,none⟩=some (.slice (some ⟨gd,0,none⟩) n kd):=ho2.cell hc1 hcX;have hrd:W2.cell? ⟨gd,q,none⟩=some (.pointer (some ⟨ds q,0,none⟩)):=ho2.cell hrd hgdX;have hA2:∀b∈A,b<W2.drew.heap.size:=λb hb=>aH (HS1.out.alt b hb) ho2.size;have hd3:IsDk W2.drew (Xs q) (ds q) (BZ (S.at q).k):=HD2.out.below (ap W2 1);have HOP:=ab (HOPEN.out W2.drew hd3 hA2);have hs0:W2.drew.cell? ⟨c,0,none⟩=some (.slice (some ⟨gr,0,none⟩) n kr)/\W2.drew.cell? ⟨c,1,none⟩=some (.slice (some ⟨gd,0,none⟩) n kd)/\W2.drew.cell? ⟨gd,q,none⟩=some (.pointer (some ⟨ds q,0,none⟩)):=⟨hc0,hc1,hrd⟩
  have HK:Hid (∀w2,Only (Xs q) W2.drew w2->w2.cell? ⟨c,0,none⟩=some (.slice (some ⟨gr,0,none⟩) n kr)/\w2.cell? ⟨c,1,none⟩=some (.slice (some ⟨gd,0,none⟩) n kd)/\w2.cell? ⟨gd,q,none⟩=some (.pointer (some ⟨ds q,0,none⟩))):=ab (λw2 ho=>⟨ho.cell hs0.1 hcX,ho.cell hs0.2.1 hcX,ho.cell hs0.2.2 hgdX⟩);have HX:=ab (And.intro hcX (And.intro hgrX hguX));have hD0:Only (Xs q) W1 W2:=ho2;have HMX:Hid (Mv A A (Xs q) (Xs q) W1 W2.drew):=ab ((Mv.only hD0 (λb hb=>hb)).trans (Mv.below (ap W2 1)));clear hd2 ho2 hcX hgrX hgdX hguX hA2 hd3 hD0;go_upto_region 12 with (fail)
  go_cut [5,6] (λv e6 wx=>e6 = .int .i64 0/\∃r' l' A3 X3,v = .pointer (some ⟨r',0,none⟩)/\Nd wx A3 X3 r' (ds q) l' sb kb/\Mv A A3 (Xs q) X3 W2.drew wx)
  case first =>
   as_aux_lemma =>
   refine wp_region_held_drew (S:=λw'=>w'.cell? ⟨c,0,none⟩=some (.slice (some ⟨gr,0,none⟩) n kr)/\w'.cell? ⟨c,1,none⟩=some (.slice (some ⟨gd,0,none⟩) n kd)/\w'.cell? ⟨gd,q,none⟩=some (.pointer (some ⟨ds q,0,none⟩))) (by kernel_rfl) hs0 (λam=>?_);refine az 0 ?_;refine az 1 ?_;refine az 2 ?_;refine az 3 ?_;refine az 4 ?_;refine az 5 ?_;refine az 6 ?_;refine az 7 ?_;refine az 8 ?_;refine az 9 ?_;refine az 10 ?_;refine az 11 ?_;refine az 12 ?_;generalize W2.drew=V1 at *;refine cf 13 λK hK=>?_;go_simp
   refine HOP.out.mono ?_;rintro e W3 ⟨r',l',A3,X3,rfl,hn3,hm3⟩;have HN3:=ab hn3;have HM3:=ab hm3;have hk12:=HK.out _ hm3.mv.only;clear hn3 hm3;go_wp2_with fail
   refine hK.out _ _ hk12 (λam=>?_);clear hK K;refine bu ?_;clear hk12;refine az 14 ?_;refine az 15 ?_;refine az 16 ?_;refine az 17 ?_;refine az 18 ?_;refine fc ?_;clear am;go_wp2_with fail
   go_meet
   exact ⟨rfl,r',l',A3,X3,rfl,HN3.out,HM3.out⟩
  case rest =>
  obtain ⟨rfl,r',l',A3,X3,rfl,hn3,hm3⟩:=hcut;rename World=>W3;have hmm:=HMX.out.trans hm3;have HF:Hid (SyP w ((W3.setCell ⟨gr,q,none⟩ (ia r')).setCell ⟨gu,q,none⟩ (.bool true)) A Z c n (S.back n q)):=ab (by
   rw [HBE.out];exact SyP.trans M1.out (HS1.out.backed (nd:=⟨sb,kb,true⟩) HZ.out hq2 hmm hn3 rfl))
  have hce:=hmm.mv.only.keeps HS1.out.cell HX.out.1;have hue:=hmm.mv.only.keeps HS1.out.up HX.out.2.2;have hr1:=bg HS1.out.rr hmm.mv.only (λb hb=>by cases hb;exact HX.out.2.1);have hge:=bU hr1 (show (Value.slice (some ⟨gr,0,none⟩) n kr).ownBlock=some gr from rfl);have hne:gu≠gr:=b8 hue hge (by decide);have hneC:c≠gr:=b8 hce hge (by decide);have hyr:W3.cell? ⟨gr,q,none⟩=some (.pointer (some ⟨rs q,0,none⟩)):=by
   obtain ⟨g9,k9,e9,_,hrow9⟩:=df hr1 (by omega);cases e9;exact hrow9 q hq2
  have hzr:=aO hge q;have hy0:W3.cell? ⟨c,0,none⟩=some (.slice (some ⟨gr,0,none⟩) n kr):=by rw [af hce];rfl
  have hon:Only [gr] W3 (W3.setCell ⟨gr,q,none⟩ (.pointer (some ⟨r',0,none⟩))):=(Only.refl _ _).setCell (by simp) _;have hce2:=hon.keeps hce (by simpa using hneC);have hue2:=hon.keeps hue (by simpa using hne);have hy2:(W3.setCell ⟨gr,q,none⟩ (.pointer (some ⟨r',0,none⟩))).cell? ⟨c,2,none⟩=some (.slice (some ⟨gu,0,none⟩) n n):=by rw [af hce2];rfl
  obtain ⟨zu,hyu⟩:∃z,(W3.setCell ⟨gr,q,none⟩ (.pointer (some ⟨r',0,none⟩))).cell? ⟨gu,q,none⟩=some z:=by
   rw [af hue2];exact ⟨_,gp _ _ (by rw [aQ,HS1.out.nl];exact hq2)⟩
  have hzu:=aO hue2 q;unfold ia at HF;clear hn3 hm3 hmm hce hue hr1 hge hon hce2 hue2 hup hc0 hc1 hc2 hs0 hk0 hk1 hk2 hk3 hk4 hrd hrq;go_upto_region 16 with (fail)
  generalize W3.setCell ⟨gr,q,none⟩ (.pointer (some ⟨r',0,none⟩))=W4 at *;go_wp2_with fail
  go_end0
  exact ⟨rfl,HF.out⟩
end
def ImmZ (w:World) (A:List Nat) (v:Value) (l:List UInt8):Prop:=l.length=0\/Imm w A v l
section
variable {w w':World} {A X:List Nat} {r d l:Nat} {s:Rp} {k:Dk}
theorem ImmZ.below {v:Value} {l:List UInt8} (h:ImmZ w A v l) (hb:Below w.heap.size w w'):ImmZ w' A v l:=h.imp id (λh=>h.below hb)
theorem qD (h:Nd w A X r d l s k) (hw:Wf s k) (ao:Option Addr) (n c:Nat) (rec:List UInt8) (hi:ImmZ w A (.slice ao n c) rec) (hn:n=rec.length) (hnb:n<=1000000):Calls Try.prog 16 #[.pointer (some ⟨r,0,none⟩),.slice ao n c] w λe w'=>SbP w w' A X r d l e (bJ s k rec):=by
 rcases hi with hi | hi
 ·have HE:Hid (bJ s k rec=([],1,s,k)):=ab (by unfold bJ;rw [ax hi]);have H:=ab h;have hn0:n=0:=by omega
  subst hn0;clear h hw hn hi;go_enter Try.func16,Try.ntmps16
  go_wp2_with fail
  go_ret2
  rw [HE.out];exact SbP.none (H.out.ndp (Mv.refl _ _ _))
 ·exact te h hw ao n c rec hi hn hnb
end
end Go.Proofs.Ytnicaicjgaoolaa
