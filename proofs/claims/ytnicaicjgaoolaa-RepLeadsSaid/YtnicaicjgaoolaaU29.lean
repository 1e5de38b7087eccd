/-
  What the proof of the law leans on: contracts of the program's functions, one behind another. No condition.
-/
import Derived.Test.YtnicaicjgaoolaaU0
import Derived.Test.YtnicaicjgaoolaaU28
import Derived.Test.YtnicaicjgaoolaaU3
import Derived.Test.YtnicaicjgaoolaaU25
import Derived.Test.YtnicaicjgaoolaaU24
import Derived.Test.YtnicaicjgaoolaaU17
set_option linter.unusedVariables false
set_option linter.unusedSimpArgs false
namespace Go.Proofs.Ytnicaicjgaoolaa
open Go.RowKit Go.ChangeMaps Go.WideMaps Go.Maps
set_option maxRecDepth 20000
theorem xz {p:Prop} (h:p:=by
 refine cf 8 λK hK=>?_;obtain ⟨vs0,hgr⟩:=HV2.out.gave;obtain ⟨i0,hi0,hz0,hz1,hz2⟩:=info_parts F.tL;refine bL rfl λQ' hQ=>?_;refine d7 rfl (.tmp 145) (.tmp 148) 36 rfl 29 i0 (.slice none 0 0) 1 24 Try.underlying36 hi0 hz0 hz1 hz2 rfl (by decide) (.slice ag S2.gn cg) S2.gn vs0 (by rfl) hgr (some ⟨V1.heap.size,0,none⟩) 1 1 (by rfl) (λe=>by cases e) [.slice ba bl bc] (by rfl) (Ch HH2) (λu hu=>by rw [aj.1 hu];rfl) (by unfold maxLen;have:=HGN.out;omega) (by have:=HGN.out;omega) ?_;intro v3 V3 hr3 ho3 hf3;obtain ⟨a3,c3,e3,_⟩:=dw hr3;subst e3;have hk3:=HK.out _ _ (hMV2.mono (λb hb=>by cases hb) |>.trans ho3) HMG.out;refine hQ _ _ ?_;clear hQ Q';refine hK.out _ _ hk3 (λam=>?_);clear hK K;refine bu ?_;have HF:=ab (SyP.trans HMV2.out (HV2.out.setg HZ2.out hr3 ho3 hf3));have hc3:=ho3.keeps HV2.out.cell HCG.out;clear hr3 ho3 hf3 hgr hk3;refine az 9 ?_;refine az 10 ?_;refine cf 11 λK hK=>?_;have hy4:V3.cell? ⟨c,4,none⟩=some (.slice ag S2.gn cg):=by rw [af hc3];rfl
 have hz4:=aO hc3 4;go_simp
 clear hy4 hz4;have hk4s:=((Only.refl [c] V3).setCell (p:=⟨c,4,none⟩) (by simp) (.slice a3 (S2.gn+1) c3)).cell am (by simpa using HMC.out);refine hK.out _ _ hk4s (λam=>?_);clear hK K;refine bu ?_;refine fc ?_;clear am;go_wp2_with fail
 go_meet
 exact HF.out):p:=h
def Mn.submit (S:Mn) (i:Nat) (rec:List UInt8):Mn :=
 if (S.at i).up then
  let p:=bJ (S.at i).s (S.at i).k rec
  let S1:=S.set i ⟨p.2.2.1,p.2.2.2,true⟩
  (if p.2.1=0 then { S1 with gn:=S1.gn+1 } else S1).send p.1
 else S
section
variable {w w':World} {A A' Y Z Z':List Nat} {c n cl:Nat} {S:Mn} {rs ds ls:Nat->Nat} {Xs:Nat->List Nat} {vr vd:Value} {gu:Nat} {qv gv lv:Value}
set_option maxHeartbeats 4000000 in
theorem wP (h:Sy w A Z c n S) (hi:SInv n cl S) (N K P:Int) (ba:Option Addr) (bl bc:Nat) (rec:List UInt8) (hb:ImmZ w A (.slice ba bl bc) rec) (hbl:bl=rec.length) (hb2:bl<=1000000) (hgn:S.gn<=1000000) (hn:1<=n) :
  Calls Try.prog 11 #[.pointer (some ⟨c,0,none⟩),.agg #[.int .i64 6,.int .i64 N,.int .i64 K,.int .i64 P,.slice ba bl bc]] w λe w'=>e = .returned (.tuple #[])/\SyP w w' A Z c n (S.submit (iX N n) rec):=by
 have HIB0:=ab hb;have HBL:=ab hbl;have HGN0:=ab hgn;have HZA:=ab h.zA;clear hb hbl hgn;have hbw:Below w.heap.size w (w.alloc (.cells #[.int .i64 6,.int .i64 N,.int .i64 K,.int .i64 P,.slice ba bl bc] 31)):=(aB _ _).alloc (ah _) _;have hbx:=aJ w (.cells #[.int .i64 6,.int .i64 N,.int .i64 K,.int .i64 P,.slice ba bl bc] 31);have hs1:=h.below hbw;have HM0:Hid (Mv A A Z Z w (w.alloc (.cells #[.int .i64 6,.int .i64 N,.int .i64 K,.int .i64 P,.slice ba bl bc] 31))):=ab (Mv.below hbw);have HMA:Hid (w.heap.size∉A):=ab (λhb=>by have:=h.alt _ hb;omega);obtain ⟨hq1,hq2⟩:=gW N n hn;have HQ1:=ab hq1;obtain ⟨Y,rs,ds,ls,Xs,vr,vd,gu,qv,gv,lv,hs,hz⟩:=hs1;obtain ⟨gr,kr,evr,hkr,hrow⟩:=df hs.rr (by omega);subst evr;obtain ⟨gd,kd,evd,hkd,hrowd⟩:=df hs.dr (by omega);subst evd;have hc0:(w.alloc (.cells #[.int .i64 6,.int .i64 N,.int .i64 K,.int .i64 P,.slice ba bl bc] 31)).cell? ⟨c,0,none⟩=some (.slice (some ⟨gr,0,none⟩) n kr):=by rw [af hs.cell];rfl
 have hc1:(w.alloc (.cells #[.int .i64 6,.int .i64 N,.int .i64 K,.int .i64 P,.slice ba bl bc] 31)).cell? ⟨c,1,none⟩=some (.slice (some ⟨gd,0,none⟩) n kd):=by rw [af hs.cell];rfl
 have hc2:(w.alloc (.cells #[.int .i64 6,.int .i64 N,.int .i64 K,.int .i64 P,.slice ba bl bc] 31)).cell? ⟨c,2,none⟩=some (.slice (some ⟨gu,0,none⟩) n n):=by rw [af hs.cell];rfl
 have hk0:(w.alloc (.cells #[.int .i64 6,.int .i64 N,.int .i64 K,.int .i64 P,.slice ba bl bc] 31)).cell? ⟨w.heap.size,0,none⟩=some (.int .i64 6):=by rw [af hbx];rfl
 have hk1:(w.alloc (.cells #[.int .i64 6,.int .i64 N,.int .i64 K,.int .i64 P,.slice ba bl bc] 31)).cell? ⟨w.heap.size,1,none⟩=some (.int .i64 N):=by rw [af hbx];rfl
 have hk2:(w.alloc (.cells #[.int .i64 6,.int .i64 N,.int .i64 K,.int .i64 P,.slice ba bl bc] 31)).cell? ⟨w.heap.size,2,none⟩=some (.int .i64 K):=by rw [af hbx];rfl
 have hk3:(w.alloc (.cells #[.int .i64 6,.int .i64 N,.int .i64 K,.int .i64 P,.slice ba bl bc] 31)).cell? ⟨w.heap.size,3,none⟩=some (.int .i64 P):=by rw [af hbx];rfl
 have hk4:(w.alloc (.cells #[.int .i64 6,.int .i64 N,.int .i64 K,.int .i64 P,.slice ba bl bc] 31)).cell? ⟨w.heap.size,4,none⟩=some (.slice ba bl bc):=by rw [af hbx];rfl
 have hrd:=hrowd _ hq2;have hrq:=hrow _ hq2;have HS:=ab hs;have HZ:=ab hz;have HI:=ab hi;have HML:Hid (w.heap.size<(w.alloc (.cells #[.int .i64 6,.int .i64 N,.int .i64 K,.int .i64 P,.slice ba bl bc] 31)).heap.size):=ab (by simp);have HIBW:Hid (ImmZ (w.alloc (.cells #[.int .i64 6,.int .i64 N,.int .i64 K,.int .i64 P,.slice ba bl bc] 31)) A (.slice ba bl bc) rec):=ab (HIB0.out.below hbw);clear hs hz h hi hbw hbx hrow hrowd;generalize iX N n=q at *;go_enter Try.func11,Try.ntmps11
 go_upto_region 1 with (fail)
 generalize w.alloc (.cells #[.int .i64 6,.int .i64 N,.int .i64 K,.int .i64 P,.slice ba bl bc] 31)=W at *;generalize w.heap.size=M at *;go_cut [4] (λv wx=>v = .int .i64 (q:Int)/\∃nq,wx=W.drewN nq)
 case first =>
  go_quiet (fail)
  go_wp2_with fail
  go_meet
  exact ⟨by rw [<-HQ1.out],nq,rfl⟩
 case rest =>
 obtain ⟨rfl,nq,rfl⟩:=hcut;have hb1:=ap W nq;have HS1:=ab (HS.out.below hb1);have M1:Hid (Mv A A Z Z w (W.drewN nq)):=ab (HM0.out.trans (Mv.below hb1));have hup:=HS1.out.upAt q hq2;have hc0:(W.drewN nq).cell? ⟨c,0,none⟩=some (.slice (some ⟨gr,0,none⟩) n kr):=hc0;have hc1:(W.drewN nq).cell? ⟨c,1,none⟩=some (.slice (some ⟨gd,0,none⟩) n kd):=hc1;have hc2:(W.drewN nq).cell? ⟨c,2,none⟩=some (.slice (some ⟨gu,0,none⟩) n n):=hc2;have hk0:(W.drewN nq).cell? ⟨M,0,none⟩=some (.int .i64 6):=hk0;have hk1:(W.drewN nq).cell? ⟨M,1,none⟩=some (.int .i64 N):=hk1;have hk2:(W.drewN nq).cell? ⟨M,2,none⟩=some (.int .i64 K):=hk2;have hk3:(W.drewN nq).cell? ⟨M,3,none⟩=some (.int .i64 P):=hk3;have hk4:(W.drewN nq).cell? ⟨M,4,none⟩=some (.slice ba bl bc):=hk4;have hrd:(W.drewN nq).cell? ⟨gd,q,none⟩=some (.pointer (some ⟨ds q,0,none⟩)):=hrd;have hrq:(W.drewN nq).cell? ⟨gr,q,none⟩=some (.pointer (some ⟨rs q,0,none⟩)):=hrq;have HML:Hid (M<(W.drewN nq).heap.size):=ab HML.out;have hq3:(q:Int)<(n:Int):=by omega
 clear hb1 HS HM0 hq1 HQ1;have HIBW:Hid (ImmZ (W.drewN nq) A (.slice ba bl bc) rec):=ab (HIBW.out.below (ap W nq));generalize W.drewN nq=W1 at *;have HIB:Hid (ImmZ W1 A (.slice ba bl bc) rec):=HIBW;cases hupq:(S.at q).up with
 | false =>
  rw [hupq] at hup;have HF:Hid (SyP w W1 A Z c n (S.submit q rec)):=ab (by
   unfold Mn.submit;rw [hupq];exact (⟨_,_,_,_,_,_,_,_,_,_,_,HS1.out,HZ.out⟩:Sy _ A Z c n S).syp M1.out)
  go_wp2_with fail
  go_end0
  exact ⟨rfl,HF.out⟩
 | true =>
  rw [hupq] at hup;obtain ⟨hwf,hck⟩:=HI.out.wf q hq2 hupq;have HIDJ:=ab (HI.out.id q hq2);have HOUT:=ab (kD hwf rec);have HSE:Hid (S.submit q rec=(if (bJ (S.at q).s (S.at q).k rec).2.1=0 then { (S.set q ⟨(bJ (S.at q).s (S.at q).k rec).2.2.1,(bJ (S.at q).s (S.at q).k rec).2.2.2,true⟩) with gn:=S.gn+1 } else S.set q ⟨(bJ (S.at q).s (S.at q).k rec).2.2.1,(bJ (S.at q).s (S.at q).k rec).2.2.2,true⟩).send (bJ (S.at q).s (S.at q).k rec).1):=ab (by unfold Mn.submit;rw [hupq];rfl);have hs1d:SyC W1.drew A Y c n S rs ds ls Xs _ _ gu qv gv lv:=HS1.out.below (ap W1 1);have hibd:ImmZ W1.drew A (.slice ba bl bc) rec:=HIB.out.below (ap W1 1);have HSB:=ab ((qD ((hs1d.node q hq2).up hupq) hwf ba bl bc rec hibd HBL.out hb2).mono (λe w' hp=>hs1d.sbp HZ.out hq2 hupq hp));have hMZ:Hid (M∉Z):=ab (λhm=>HMA.out (HZA.out _ hm));have HK:Hid (∀T w2,Only T W1.drew w2->M∉T->w2.cell? ⟨M,4,none⟩=some (.slice ba bl bc)):=ab (λT w2 ho e=>ho.cell (show W1.drew.cell? ⟨M,4,none⟩=_ from hk4) e);have HG3:Hid (∀x∈(bJ (S.at q).s (S.at q).k rec).1,x.frm=(q:Int)/\(x.dst==(q:Int))=false/\0<=x.dst/\x.dst<(n:Int)):=ab (by
   have h9:=HOUT.out.ms;rw [HIDJ.out.1,HIDJ.out.2] at h9;exact iB h9)
  have HQL:Hid (S.q.length<=2000):=ab HI.out.ql;have hkM:W1.drew.cell? ⟨M,4,none⟩=some (.slice ba bl bc):=hk4;have hy0:W1.drew.cell? ⟨c,0,none⟩=some (.slice (some ⟨gr,0,none⟩) n kr):=hc0;have hyr:W1.drew.cell? ⟨gr,q,none⟩=some (.pointer (some ⟨rs q,0,none⟩)):=hrq;clear hwf hck HOUT hs1d hibd;generalize bJ (S.at q).s (S.at q).k rec=p at *;obtain ⟨ms,err,s',k'⟩:=p
  (try simp only at HSB);(try simp only at HSE);(try simp only at HG3)
  go_upto_region 19 with (fail)
  go_cut [7,8] (λv e8 wx=>e8 = .int .i64 err/\∃A2 Z2,Sy wx A2 Z2 c n (S.set q ⟨s',k',true⟩)/\MsRow wx A2 v ms/\Mv A A2 Z Z2 W1.drew wx)
  case first =>
   as_aux_lemma =>
   refine wp_region_held_drew (S:=λw'=>w'.cell? ⟨M,4,none⟩=some (.slice ba bl bc)) (by kernel_rfl) hk4 (λam=>?_);refine az 0 ?_;refine az 1 ?_;refine az 2 ?_;refine az 4 ?_;refine az 7 ?_;refine az 8 ?_;generalize W1.drew=V1 at *;refine cf 3 λK hK=>?_;go_simp
   refine hK.out _ _ am (λam=>?_);clear hK K;refine bu ?_;refine az 5 ?_;refine cf 6 λK hK=>?_;go_simp
   refine hK.out _ _ am (λam=>?_);clear hK K;refine bu ?_;refine cf 9 λK hK=>?_;go_simp
   refine HSB.out.mono ?_;rintro e W2 ⟨v2,A2,Z2,rfl,hs2,hr2,hm2⟩;have HS2:=ab hs2;have HR2:=ab hr2;have HM2:=ab hm2;have hk19:=HK.out _ _ hm2.mv.only hMZ.out;clear hs2 hr2 hm2;go_wp2_with fail
   refine hK.out _ _ hk19 (λam=>?_);clear hK K;refine bu ?_;clear hk19;refine az 10 ?_;refine az 11 ?_;refine az 12 ?_;refine az 13 ?_;refine az 14 ?_;refine fc ?_;clear am;go_wp2_with fail
   go_meet
   exact ⟨rfl,A2,Z2,HS2.out,HR2.out,HM2.out⟩
  case rest =>
  obtain ⟨rfl,A2,Z2,hs2,hr2,hm2⟩:=hcut;rename World=>W2;have HS2:=ab hs2;have HR2:=ab hr2;have HM2:Hid (Mv A A2 Z Z2 w W2):=ab ((M1.out.trans (Mv.below (ap W1 1))).trans hm2);have HKM:Hid (W2.cell? ⟨M,4,none⟩=some (.slice ba bl bc)):=ab (HK.out _ _ hm2.mv.only hMZ.out);have HMZ2:Hid (M∉Z2):=ab (λhm=>by
   rcases hm2.mv.gr _ hm with h1 | h1
   ·exact hMZ.out h1
   ·have:W1.drew.heap.size=W1.heap.size:=rfl;have:=HML.out;omega)
  clear hs2 hr2 hm2 hup hc0 hc1 hc2 hk0 hk1 hk2 hk3 hk4 hrd hrq hkM hy0 hyr;by_cases herr:err=0
  ·subst herr;rw [ax rfl] at HSE;generalize hS2:S.set q ⟨s',k',true⟩=S2 at *;have HG2:Hid (S2.gn=S.gn/\S2.q=S.q):=ab (by rw [<-hS2];exact ⟨rfl,rfl⟩);clear hS2;obtain ⟨Y2,rs2,ds2,ls2,Xs2,vr2,vd2,gu2,qv2,gv2,lv2,hs2,hz2⟩:=HS2.out;obtain ⟨vs2,hg2⟩:=hs2.gave;obtain ⟨ag,cg,e9,_⟩:=dw hg2;subst e9;have HV0:=ab hs2;have HZ2:=ab hz2;have HGN:Hid (S2.gn<=1000000):=ab (by rw [HG2.out.1];exact HGN0.out);have HCG:Hid (c∉(Value.slice ag S2.gn cg).ownBlock.toList):=ab (λhm=>by
    have:=bU hg2 (show (Value.slice ag S2.gn cg).ownBlock=some c by simpa using hm);rw [hs2.cell] at this;simp at this)
   have HMG:Hid (M∉(Value.slice ag S2.gn cg).ownBlock.toList):=ab (λhm=>HMZ2.out ((hz2 M).2 (.inl (hs2.gY M (by simpa using hm)))));have HMC:Hid (M≠c):=ab (λe=>HMZ2.out ((hz2 M).2 (.inl (by rw [e];exact hs2.cY))));clear hs2 hz2 hg2 HK;go_upto_region 21 with (fail)
   have HV:Hid (SyC W2.drew A2 Y2 c n S2 rs2 ds2 ls2 Xs2 vr2 vd2 gu2 qv2 (.slice ag S2.gn cg) lv2):=ab (HV0.out.below (ap W2 1));have HK:Hid (∀T w2,Only T W2.drew w2->M∉T->w2.cell? ⟨M,4,none⟩=some (.slice ba bl bc)):=ab (λT w2 ho e=>ho.cell (show W2.drew.cell? ⟨M,4,none⟩=_ from HKM.out) e);have hk4:W2.drew.cell? ⟨M,4,none⟩=some (.slice ba bl bc):=HKM.out;have HMM:Hid (Mv A2 A2 Z2 Z2 W2 W2.drew):=ab (Mv.below (ap W2 1));go_cut [] (λwx=>SyP W2.drew wx A2 Z2 c n { S2 with gn:=S2.gn+1 })
   case first =>
    as_aux_lemma =>
    refine wp_region_held_drew (S:=λw'=>w'.cell? ⟨M,4,none⟩=some (.slice ba bl bc)) (by kernel_rfl) hk4 (λam=>?_);refine az 0 ?_;refine az 1 ?_;refine az 2 ?_;refine az 3 ?_;refine az 5 ?_;refine az 6 ?_;generalize W2.drew=V1 at *;refine gJ 4 7 (λK hK=>?_) λK hK=>?_
    ·have hy4:V1.cell? ⟨c,4,none⟩=some (.slice ag S2.gn cg):=by rw [af HV.out.cell];rfl
     go_simp
     clear hy4;refine hK.out _ _ am (λam=>?_);clear hK K;refine bu ?_;refine cf 7 λK hK=>?_;go_simp
     refine hK.out _ _ (HK.out [] _ (Only.ofBelow ((aB _ _).alloc (ah _) (.cells #[.slice ba bl bc] 29)) []) (λh=>by cases h)) (λam=>?_);clear hK K;refine bu ?_;have HV2:=ab (HV.out.below ((aB _ _).alloc (ah _) (.cells #[.slice ba bl bc] 29)));have HH2:=aJ V1 (.cells #[.slice ba bl bc] 29);have HMV2:Hid (Mv A2 A2 Z2 Z2 V1 (V1.alloc (.cells #[.slice ba bl bc] 29))):=ab (Mv.below ((aB _ _).alloc (ah _) (.cells #[.slice ba bl bc] 29)));have hMV2:Only [] V1 (V1.alloc (.cells #[.slice ba bl bc] 29)):=Only.ofBelow ((aB _ _).alloc (ah _) (.cells #[.slice ba bl bc] 29)) [];generalize hV2:V1.alloc (.cells #[.slice ba bl bc] 29)=V2 at *;clear hV2;exact xz
    ·go_simp
     refine hK.out _ _ (HK.out [] _ (Only.ofBelow ((aB _ _).alloc (ah _) (.cells #[.slice ba bl bc] 29)) []) (λh=>by cases h)) (λam=>?_);clear hK K;refine bu ?_;have HV2:=ab (HV.out.below ((aB _ _).alloc (ah _) (.cells #[.slice ba bl bc] 29)));have HH2:=aJ V1 (.cells #[.slice ba bl bc] 29);have HMV2:Hid (Mv A2 A2 Z2 Z2 V1 (V1.alloc (.cells #[.slice ba bl bc] 29))):=ab (Mv.below ((aB _ _).alloc (ah _) (.cells #[.slice ba bl bc] 29)));have hMV2:Only [] V1 (V1.alloc (.cells #[.slice ba bl bc] 29)):=Only.ofBelow ((aB _ _).alloc (ah _) (.cells #[.slice ba bl bc] 29)) [];generalize hV2:V1.alloc (.cells #[.slice ba bl bc] 29)=V2 at *;clear hV2;refine cf 4 λK hK=>?_;have hy4:V2.cell? ⟨c,4,none⟩=some (.slice ag S2.gn cg):=by rw [af HV2.out.cell];rfl
     go_simp
     clear hy4;refine hK.out _ _ am (λam=>?_);clear hK K;refine bu ?_;exact xz
   case rest =>
   obtain ⟨A5,Z5,h5,m5⟩:=hcut;rename World=>W5;have HR5:=ab (HR2.out.step (HMM.out.trans m5).mv.only HS2.out.zA (HMM.out.trans m5).ext);have H5:=ab h5;have M5:=ab ((HM2.out.trans HMM.out).trans m5);have HQ5:Hid (({ S2 with gn:=S2.gn+1 }:Mn).q.length<=2000):=ab (by show S2.q.length<=2000;rw [HG2.out.2];exact HQL.out);clear h5 m5;go_wp2_with fail
   refine (iC H5.out HQ5.out u7 _ HR5.out q HG3.out).mono ?_;rintro e W6 ⟨rfl,hs6⟩;have HF:Hid (SyP w W6 A Z c n (S.submit q rec)):=ab (by
    rw [HSE.out,<-HG2.out.1];exact SyP.trans M5.out hs6)
   clear hs6;go_wp2_with fail
   go_end0
   exact ⟨rfl,HF.out⟩
  ·rw [aw herr] at HSE;have herr2:(err==0)=false:=by simpa using herr
   clear herr;go_wp2_with fail
   refine (iC HS2.out (by exact HQL.out) u7 _ HR2.out q HG3.out).mono ?_;rintro e W6 ⟨rfl,hs6⟩;have HF:Hid (SyP w W6 A Z c n (S.submit q rec)):=ab (by
    rw [HSE.out];exact SyP.trans HM2.out hs6)
   clear hs6;go_wp2_with fail
   go_end0
   exact ⟨rfl,HF.out⟩
end
theorem sI {p:Prop} (h:p:=by
 refine cf 8 λK hK=>?_;refine bL rfl λQ' hQ=>?_;refine eo rfl (.tmp 202) (.tmp 208) rfl (by rfl) (by rfl) hr1 ?_;refine hQ _ _ ?_;clear hQ Q';refine hK.out _ _ trivial (λam=>?_);clear hK K;refine bu ?_;clear hr1 ho1;refine cf 16 λK hK=>?_;refine bL rfl λQ' hQ=>?_;refine eo rfl (.tmp 209) (.tmp 216) rfl (by rfl) (by rfl) HR2.out ?_;refine hQ _ _ ?_;clear hQ Q';have hk6:=HO2.out.cell HC3V.out (by simp);refine hK.out _ _ trivial (λam=>?_);clear hK K;refine bu ?_;have hc6:=HO2.out.keeps HV.out.cell (by simp);refine az 17 ?_;refine az 18 ?_;refine cf 19 λK hK=>?_;have hz6:=aO hc6 3;go_simp
 clear hz6 hk6;refine hK.out _ _ trivial (λam=>?_);clear hK K;refine bu ?_;refine fc ?_;clear am;go_wp2_with fail
 all_goals (go_meet;rw [HLE.out];exact HV.out.setq HZ.out HQP.out)):p:=h
theorem xy {p:Prop} (h:p:=by
 refine gJ 8 12 (λK hK=>?_) λK hK=>?_
 ·refine bL rfl λQ' hQ=>?_;refine eo rfl (.tmp 202) (.tmp 208) rfl (by rfl) (by rfl) hr1 ?_;refine hQ _ _ ?_;clear hQ Q';refine hK.out _ _ trivial (λam=>?_);clear hK K;refine bu ?_;clear hr1 ho1;refine cf 12 λK hK=>?_;have hyl:=HK5.out;go_simp
  clear hyl;refine hK.out _ _ trivial (λam=>?_);clear hK K;refine bu ?_;refine az 15 ?_;refine cf 16 λK hK=>?_;refine bL rfl λQ' hQ=>?_;refine eo rfl (.tmp 209) (.tmp 216) rfl (by rfl) (by rfl) HR2.out ?_;refine hQ _ _ ?_;clear hQ Q';have hk6:=HO2.out.cell HC3V.out (by simp);refine hK.out _ _ trivial (λam=>?_);clear hK K;refine bu ?_;have hc6:=HO2.out.keeps HV.out.cell (by simp);refine az 17 ?_;refine az 18 ?_;refine cf 19 λK hK=>?_;have hz6:=aO hc6 3;go_simp
  clear hz6 hk6;refine hK.out _ _ trivial (λam=>?_);clear hK K;refine bu ?_;refine fc ?_;clear am;go_wp2_with fail
  all_goals (go_meet;rw [HLE.out];exact HV.out.setq HZ.out HQP.out)
 ·have hyl:=HC4.out;go_simp
  clear hyl;refine hK.out _ _ trivial (λam=>?_);clear hK K;refine bu ?_;refine az 15 ?_;exact sI):p:=h
theorem xw {p:Prop} (h:p:=by
 refine cf 1 λK hK=>?_;go_simp
 refine hK.out _ _ trivial (λam=>?_);clear hK K;refine bu ?_;generalize hV4:V3.alloc (.cells #[] 51)=V4 at *;clear hV4;obtain ⟨p1,n1,c1,W5,hr1,ho1,p2,n2,c2,W6,hr2,ho2,hqp⟩:=HLP.out.ex;have HQP:=ab hqp;have HO2:=ab ho2;rw [HE9.out] at hr2;have HR2:=ab hr2;have HK5:=ab (ho1.cell (HC4.out) HCV.out);clear hqp ho2 hr2;exact sI):p:=h
theorem xv {p:Prop} (h:p:=by
 refine cf 5 λK hK=>?_;have hyl:=HC4.out;go_simp
 clear hyl;refine hK.out _ _ trivial (λam=>?_);clear hK K;refine bu ?_;refine az 7 ?_;exact sI):p:=h
section
variable {w w':World} {A A' Y Z Z':List Nat} {c n cl:Nat} {S:Mn} {rs ds ls:Nat->Nat} {Xs:Nat->List Nat} {vr vd:Value} {gu:Nat} {qv gv lv:Value}
set_option maxHeartbeats 4000000 in
theorem Ad (h:Sy w A Z c n S) (hi:SInv n cl S) (N K P:Int) (ba:Option Addr) (bl bc:Nat) (hn:1<=n) :
  Calls Try.prog 11 #[.pointer (some ⟨c,0,none⟩),.agg #[.int .i64 1,.int .i64 N,.int .i64 K,.int .i64 P,.slice ba bl bc]] w λe w'=>e = .returned (.tuple #[])/\SyP w w' A Z c n (S.fetch K):=by
 have HZA:=ab h.zA;have hbw:Below w.heap.size w (w.alloc (.cells #[.int .i64 1,.int .i64 N,.int .i64 K,.int .i64 P,.slice ba bl bc] 31)):=(aB _ _).alloc (ah _) _;have hbx:=aJ w (.cells #[.int .i64 1,.int .i64 N,.int .i64 K,.int .i64 P,.slice ba bl bc] 31);have hs1:=h.below hbw;have HM0:Hid (Mv A A Z Z w (w.alloc (.cells #[.int .i64 1,.int .i64 N,.int .i64 K,.int .i64 P,.slice ba bl bc] 31))):=ab (Mv.below hbw);have HMA:Hid (w.heap.size∉A):=ab (λhb=>by have:=h.alt _ hb;omega);obtain ⟨hq1,hq2⟩:=gW N n hn;have HQ1:=ab hq1;obtain ⟨Y,rs,ds,ls,Xs,vr,vd,gu,qv,gv,lv,hs,hz⟩:=hs1;obtain ⟨gr,kr,evr,hkr,hrow⟩:=df hs.rr (by omega);subst evr;obtain ⟨gd,kd,evd,hkd,hrowd⟩:=df hs.dr (by omega);subst evd;have hc0:(w.alloc (.cells #[.int .i64 1,.int .i64 N,.int .i64 K,.int .i64 P,.slice ba bl bc] 31)).cell? ⟨c,0,none⟩=some (.slice (some ⟨gr,0,none⟩) n kr):=by rw [af hs.cell];rfl
 have hc1:(w.alloc (.cells #[.int .i64 1,.int .i64 N,.int .i64 K,.int .i64 P,.slice ba bl bc] 31)).cell? ⟨c,1,none⟩=some (.slice (some ⟨gd,0,none⟩) n kd):=by rw [af hs.cell];rfl
 have hc2:(w.alloc (.cells #[.int .i64 1,.int .i64 N,.int .i64 K,.int .i64 P,.slice ba bl bc] 31)).cell? ⟨c,2,none⟩=some (.slice (some ⟨gu,0,none⟩) n n):=by rw [af hs.cell];rfl
 have hk0:(w.alloc (.cells #[.int .i64 1,.int .i64 N,.int .i64 K,.int .i64 P,.slice ba bl bc] 31)).cell? ⟨w.heap.size,0,none⟩=some (.int .i64 1):=by rw [af hbx];rfl
 have hk1:(w.alloc (.cells #[.int .i64 1,.int .i64 N,.int .i64 K,.int .i64 P,.slice ba bl bc] 31)).cell? ⟨w.heap.size,1,none⟩=some (.int .i64 N):=by rw [af hbx];rfl
 have hk2:(w.alloc (.cells #[.int .i64 1,.int .i64 N,.int .i64 K,.int .i64 P,.slice ba bl bc] 31)).cell? ⟨w.heap.size,2,none⟩=some (.int .i64 K):=by rw [af hbx];rfl
 have hk3:(w.alloc (.cells #[.int .i64 1,.int .i64 N,.int .i64 K,.int .i64 P,.slice ba bl bc] 31)).cell? ⟨w.heap.size,3,none⟩=some (.int .i64 P):=by rw [af hbx];rfl
 have hk4:(w.alloc (.cells #[.int .i64 1,.int .i64 N,.int .i64 K,.int .i64 P,.slice ba bl bc] 31)).cell? ⟨w.heap.size,4,none⟩=some (.slice ba bl bc):=by rw [af hbx];rfl
 have hrd:=hrowd _ hq2;have hrq:=hrow _ hq2;have HS:=ab hs;have HZ:=ab hz;have HI:=ab hi;have HML:Hid (w.heap.size<(w.alloc (.cells #[.int .i64 1,.int .i64 N,.int .i64 K,.int .i64 P,.slice ba bl bc] 31)).heap.size):=ab (by simp);clear hs hz h hi hbw hbx hrow hrowd;generalize iX N n=q at *;go_enter Try.func11,Try.ntmps11
 go_upto_region 1 with (fail)
 generalize w.alloc (.cells #[.int .i64 1,.int .i64 N,.int .i64 K,.int .i64 P,.slice ba bl bc] 31)=W at *;generalize w.heap.size=M at *;go_cut [4] (λv wx=>v = .int .i64 (q:Int)/\∃nq,wx=W.drewN nq)
 case first =>
  go_quiet (fail)
  go_wp2_with fail
  go_meet
  exact ⟨by rw [<-HQ1.out],nq,rfl⟩
 case rest =>
 obtain ⟨rfl,nq,rfl⟩:=hcut;have hb1:=ap W nq;have HS1:=ab (HS.out.below hb1);have M1:Hid (Mv A A Z Z w (W.drewN nq)):=ab (HM0.out.trans (Mv.below hb1));have hup:=HS1.out.upAt q hq2;have hc0:(W.drewN nq).cell? ⟨c,0,none⟩=some (.slice (some ⟨gr,0,none⟩) n kr):=hc0;have hc1:(W.drewN nq).cell? ⟨c,1,none⟩=some (.slice (some ⟨gd,0,none⟩) n kd):=hc1;have hc2:(W.drewN nq).cell? ⟨c,2,none⟩=some (.slice (some ⟨gu,0,none⟩) n n):=hc2;have hk0:(W.drewN nq).cell? ⟨M,0,none⟩=some (.int .i64 1):=hk0;have hk1:(W.drewN nq).cell? ⟨M,1,none⟩=some (.int .i64 N):=hk1;have hk2:(W.drewN nq).cell? ⟨M,2,none⟩=some (.int .i64 K):=hk2;have hk3:(W.drewN nq).cell? ⟨M,3,none⟩=some (.int .i64 P):=hk3;have hk4:(W.drewN nq).cell? ⟨M,4,none⟩=some (.slice ba bl bc):=hk4;have hrd:(W.drewN nq).cell? ⟨gd,q,none⟩=some (.pointer (some ⟨ds q,0,none⟩)):=hrd;have hrq:(W.drewN nq).cell? ⟨gr,q,none⟩=some (.pointer (some ⟨rs q,0,none⟩)):=hrq;have HML:Hid (M<(W.drewN nq).heap.size):=ab HML.out;have hq3:(q:Int)<(n:Int):=by omega
 clear hb1 HS HM0 hq1 HQ1;generalize W.drewN nq=W1 at *;have hq0:=HS1.out.q;obtain ⟨aq,cq,eq9,hcq,_⟩:=hq0.shape;subst eq9;have hc3:W1.cell? ⟨c,3,none⟩=some (.slice aq S.q.length cq):=by rw [af HS1.out.cell];rfl
 have HSY:Hid (Sy W1 A Z c n S):=ab ⟨_,_,_,_,_,_,_,_,_,_,_,HS1.out,HZ.out⟩;clear hup hrd hrq hc0 hc1 hc2;by_cases hl0:S.q.length=0
 ·have HF:Hid (SyP w W1 A Z c n (S.fetch K)):=ab (by
   rw [wI K hl0];exact HSY.out.syp M1.out)
  rw [hl0] at hc3;clear hq0 hq3;go_wp2_with fail
  (try simp only [Exit.inBlock,Exit.then])
  refine bodyPost_ret (results_none rfl _ _ _) rfl ?_;exact ⟨rfl,HF.out⟩
 ·have hl1:1<=S.q.length:=by omega
  have HL2:Hid (S.q.length<=2000):=ab HI.out.ql;obtain ⟨hj1,hj2⟩:=qk K S.q.length hl1;have HQJ:=ab hj1;have HJE:Hid (gG K S.q.length=gG K S.q.length):=ab rfl;generalize hj:gG K S.q.length=j at HQJ hj1 hj2;have HJ:=ab hj;obtain ⟨g,off,cc,mv,mu,e9,_,k0,k1,k2,k3,k4,hmsg⟩:=hq0.at j hj2;cases e9;generalize hmm:S.q[j]=m at *;have HMM:=ab hmm;obtain ⟨an,cn,e9,_⟩:=id hmsg.n;subst e9;obtain ⟨ub,bb,e9⟩:=fU hmsg.b;subst e9;have HMG:=ab hmsg;have HQ0:=ab hq0;have hl2:¬(S.q.length:Int)=0:=by omega
  have hj3:(j:Int)<(S.q.length:Int):=by omega
  clear hmm hj hj1 HJE hmsg hq0 hq3 hl0;go_upto_region 27 with (fail)
  go_cut [9] (λv wx=>v = .int .i64 (j:Int)/\∃nq,wx=W1.drewN nq)
  case first =>
   go_quiet (fail)
   go_wp2_with fail
   go_meet
   exact ⟨by rw [<-HQJ.out],nq,rfl⟩
  case rest =>
  obtain ⟨rfl,nq,rfl⟩:=hcut;go_upto_region 28 with (fail)
  have hb2:=ap W1 nq;have HS2:=ab (HS1.out.below hb2);have HMG2:=ab (HMG.out.below hb2);have M2:Hid (Mv A A Z Z w (W1.drewN nq)):=ab (M1.out.trans (Mv.below hb2));have HML2:Hid (M<(W1.drewN nq).heap.size):=ab HML.out;have hc3:(W1.drewN nq).cell? ⟨c,3,none⟩=some (.slice (some ⟨g,off,none⟩) S.q.length cq):=hc3;have k0:(W1.drewN nq).cell? ⟨g,off+j*5,none⟩=some (.int .i64 m.frm):=k0;have k1:(W1.drewN nq).cell? ⟨g,off+j*5+1,none⟩=some (.int .i64 m.dst):=k1;have k2:(W1.drewN nq).cell? ⟨g,off+j*5+2,none⟩=some (.int .i64 m.kind):=k2;have k3:(W1.drewN nq).cell? ⟨g,off+j*5+3,none⟩=some (.slice an m.N.length cn):=k3;have k4:(W1.drewN nq).cell? ⟨g,off+j*5+4,none⟩=some (.slice ub m.B.length bb):=k4;have hk0:(W1.drewN nq).cell? ⟨M,0,none⟩=some (.int .i64 1):=hk0;clear hb2 HS1 HMG HQ0 M1 HML;generalize W1.drewN nq=W2 at *;go_upto_region 29 with (fail)
  have hbw2:Below W2.heap.size W2 (W2.alloc (.cells #[.int .i64 m.frm,.int .i64 m.dst,.int .i64 m.kind,.slice an m.N.length cn,.slice ub m.B.length bb] 51)):=(aB _ _).alloc (ah _) _;have HBX:=ab (aJ W2 (.cells #[.int .i64 m.frm,.int .i64 m.dst,.int .i64 m.kind,.slice an m.N.length cn,.slice ub m.B.length bb] 51));have HS3:=ab (HS2.out.below hbw2);have HMG3:=ab (HMG2.out.below hbw2);have M3:Hid (Mv A A Z Z w (W2.alloc (.cells #[.int .i64 m.frm,.int .i64 m.dst,.int .i64 m.kind,.slice an m.N.length cn,.slice ub m.B.length bb] 51))):=ab (M2.out.trans (Mv.below hbw2));have hc3:(W2.alloc (.cells #[.int .i64 m.frm,.int .i64 m.dst,.int .i64 m.kind,.slice an m.N.length cn,.slice ub m.B.length bb] 51)).cell? ⟨c,3,none⟩=some (.slice (some ⟨g,off,none⟩) S.q.length cq):=cell_later hbw2 hc3;have hk0:(W2.alloc (.cells #[.int .i64 m.frm,.int .i64 m.dst,.int .i64 m.kind,.slice an m.N.length cn,.slice ub m.B.length bb] 51)).cell? ⟨M,0,none⟩=some (.int .i64 1):=cell_later hbw2 hk0;have HHA:Hid (W2.heap.size∉A):=ab (λhb=>by have:=HS2.out.alt _ hb;omega);have HMH:Hid (M≠W2.heap.size):=ab (by have:=HML2.out;omega);clear hbw2 k0 k1 k2 k3 k4 HS2 HMG2 M2 HML2;generalize W2.alloc (.cells #[.int .i64 m.frm,.int .i64 m.dst,.int .i64 m.kind,.slice an m.N.length cn,.slice ub m.B.length bb] 51)=W3 at *;generalize W2.heap.size=H at *;have HV:Hid (SyC W3.drew A Y c n S _ _ _ _ _ _ _ _ _ _):=ab (HS3.out.below (ap W3 1));have HC3V:Hid (W3.drew.cell? ⟨c,3,none⟩=some (.slice (some ⟨g,off,none⟩) S.q.length cq)):=ab hc3;have HC4:Hid ((W3.drew.alloc (.cells #[] 51)).cell? ⟨c,3,none⟩=some (.slice (some ⟨g,off,none⟩) S.q.length cq)):=ab (cell_later ((aB _ _).alloc (ah _) _) HC3V.out);have HLP:=ab (zl HV.out.q HV.out.yA HV.out.alt j hj2 HL2.out 35 35 #[]);have HCV:Hid (c∉[W3.drew.heap.size]):=ab (λhm=>by have:=HV.out.alt c (HV.out.yA c HV.out.cY);rw [aj.1 hm] at this;omega);have hjc:j<=cq:=by omega
  have hlb:=HL2.out;have q8:IntKind.i64.wrap ((j:Int)+1)=(j:Int)+1:=IntWalk.i64_in _ (by omega);have q9:((j:Int)+1).toNat=j+1:=by omega
  have q10:(0:Int)<=(j:Int)+1:=by omega
  have q11:j+1<=S.q.length:=by omega
  have q13:(j:Int)+1<=(S.q.length:Int):=by omega
  have q12:S.q.length<=cq:=hcq;have HLE:Hid (S.lose K={ S with q:=S.q.take j++S.q.drop (j+1)}):=ab (by unfold Mn.lose;rw [HJ.out]);have HE9:Hid (some (if cq=j+1 then (⟨g,off,none⟩:Addr) else (⟨g,off,none⟩:Addr).add ((j+1)*5))=(if cq=j+1 then some ⟨g,off,none⟩ else some ⟨g,off+(j+1)*5,none⟩)):=ab (by split<;>simp [Addr.add_lit]);clear hc3 hlb;go_upto_region 32 with (fail)
  go_cut [] (λwx=>SyP W3.drew wx A Z c n (S.lose K))
  case first =>
   as_aux_lemma =>
   refine wp_region_held_drew (S:=λ_=>True) (by kernel_rfl) trivial (λam=>?_);refine az 0 ?_;refine az 2 ?_;refine az 3 ?_;refine az 4 ?_;refine az 6 ?_;refine az 9 ?_;refine az 10 ?_;refine az 11 ?_;refine az 13 ?_;refine az 14 ?_;generalize W3.drew=V3 at *;refine vH 1 5 12 (λK hK=>?_) (λK hK=>?_) λK hK=>?_
   ·go_simp
    refine hK.out _ _ trivial (λam=>?_);clear hK K;refine bu ?_;generalize hV4:V3.alloc (.cells #[] 51)=V4 at *;clear hV4;obtain ⟨p1,n1,c1,W5,hr1,ho1,p2,n2,c2,W6,hr2,ho2,hqp⟩:=HLP.out.ex;have HQP:=ab hqp;have HO2:=ab ho2;rw [HE9.out] at hr2;have HR2:=ab hr2;have HK5:=ab (ho1.cell (HC4.out) HCV.out);clear hqp ho2 hr2;refine gJ 5 12 (λK hK=>?_) λK hK=>?_
    ·have hyl:=HC4.out;go_simp
     clear hyl;refine hK.out _ _ trivial (λam=>?_);clear hK K;refine bu ?_;refine az 7 ?_;exact xy
    ·have hyl:=HC4.out;go_simp
     clear hyl;refine hK.out _ _ trivial (λam=>?_);clear hK K;refine bu ?_;refine az 15 ?_;exact xv
   ·have hyl:=HC3V.out;go_simp
    clear hyl;refine hK.out _ _ trivial (λam=>?_);clear hK K;refine bu ?_;refine az 7 ?_;refine gJ 1 12 (λK hK=>?_) λK hK=>?_
    ·go_simp
     refine hK.out _ _ trivial (λam=>?_);clear hK K;refine bu ?_;generalize hV4:V3.alloc (.cells #[] 51)=V4 at *;clear hV4;obtain ⟨p1,n1,c1,W5,hr1,ho1,p2,n2,c2,W6,hr2,ho2,hqp⟩:=HLP.out.ex;have HQP:=ab hqp;have HO2:=ab ho2;rw [HE9.out] at hr2;have HR2:=ab hr2;have HK5:=ab (ho1.cell (HC4.out) HCV.out);clear hqp ho2 hr2;exact xy
    ·have hyl:=HC3V.out;go_simp
     clear hyl;refine hK.out _ _ trivial (λam=>?_);clear hK K;refine bu ?_;refine az 15 ?_;exact xw
   ·have hyl:=HC3V.out;go_simp
    clear hyl;refine hK.out _ _ trivial (λam=>?_);clear hK K;refine bu ?_;refine az 15 ?_;refine gJ 1 5 (λK hK=>?_) λK hK=>?_
    ·go_simp
     refine hK.out _ _ trivial (λam=>?_);clear hK K;refine bu ?_;generalize hV4:V3.alloc (.cells #[] 51)=V4 at *;clear hV4;obtain ⟨p1,n1,c1,W5,hr1,ho1,p2,n2,c2,W6,hr2,ho2,hqp⟩:=HLP.out.ex;have HQP:=ab hqp;have HO2:=ab ho2;rw [HE9.out] at hr2;have HR2:=ab hr2;have HK5:=ab (ho1.cell (HC4.out) HCV.out);clear hqp ho2 hr2;exact xv
    ·have hyl:=HC3V.out;go_simp
     clear hyl;refine hK.out _ _ trivial (λam=>?_);clear hK K;refine bu ?_;refine az 7 ?_;exact xw
  case rest =>
  obtain ⟨A7,Z7,h7,m7⟩:=hcut;rename World=>W7;have hk0:W7.cell? ⟨M,0,none⟩=some (.int .i64 1):=m7.mv.only.cell (show W3.drew.cell? _=_ from hk0) (λhm=>HMA.out (HZA.out _ hm));have MD:Hid (Mv A A Z Z w W3.drew):=ab (M3.out.trans (Mv.below (ap W3 1)));have hbx7:=m7.mv.only.keeps (show W3.drew.heap[H]? = _ from HBX.out) (λhm=>HHA.out (HZA.out _ hm));have hmg7:IsMsg W7 A7 m (.slice an m.N.length cn) (.slice ub m.B.length bb):=(HMG3.out.below (ap W3 1)).step m7.mv.only HZA.out m7.ext;have k0:W7.cell? ⟨H,0,none⟩=some (.int .i64 m.frm):=by rw [af hbx7];rfl
  have k1:W7.cell? ⟨H,1,none⟩=some (.int .i64 m.dst):=by rw [af hbx7];rfl
  have k2:W7.cell? ⟨H,2,none⟩=some (.int .i64 m.kind):=by rw [af hbx7];rfl
  have k3:W7.cell? ⟨H,3,none⟩=some (.slice an m.N.length cn):=by rw [af hbx7];rfl
  have k4:W7.cell? ⟨H,4,none⟩=some (.slice ub m.B.length bb):=by rw [af hbx7];rfl
  have hgm:=HI.out.q m (by rw [<-HMM.out];exact dy _);obtain ⟨fr,hfr,hgm⟩:=hgm;have hton:m.dst.toNat<n:=by have:=hgm.d0;have:=hgm.dn;omega
  have HIL:=HI.out.lose K;have HBR:Hid (Calls Try.prog 25 #[.pointer (some ⟨c,0,none⟩),eA m (.slice an m.N.length cn) (.slice ub m.B.length bb)] W7 λe w'=>e = .returned (.tuple #[])/\SyP W7 w' A7 Z7 c n ((S.lose K).bring m)):=ab
   (pk h7 HIL.ql m _ _ hmg7 m.dst.toNat (by have:=hgm.d0;omega) hton (λhu=>(HIL.wf _ hton hu).1) (HIL.id _ hton).1 (HIL.id _ hton).2 hgm.n1 (by have:=hgm.bl;omega) (by have:=hgm.nl;omega))
  have HFE:Hid (S.fetch K=(S.lose K).bring m):=ab (by
   unfold Mn.fetch;rw [HJ.out,show S.q[j]? = some m by rw [<-HMM.out];exact jv hj2])
  have M7:Hid (Mv A A7 Z Z7 w W7):=ab (MD.out.trans m7);clear h7 m7 hbx7 hmg7 hgm HIL hfr;go_wp2_with fail
  refine HBR.out.mono ?_;rintro e w6 ⟨rfl,hs6⟩;have HF:Hid (SyP w w6 A Z c n (S.fetch K)):=ab (by rw [HFE.out];exact SyP.trans M7.out hs6);clear hs6;go_wp2_with fail
  go_end0
  exact ⟨rfl,HF.out⟩
end
section
variable {w w':World} {A A' Y Z Z':List Nat} {c n cl:Nat} {S:Mn} {rs ds ls:Nat->Nat} {Xs:Nat->List Nat} {vr vd:Value} {gu:Nat} {qv gv lv:Value}
set_option maxHeartbeats 4000000 in
theorem Ab (h:Sy w A Z c n S) (hi:SInv n cl S) (o N K P:Int) (ba:Option Addr) (bl bc:Nat) (hn:1<=n) (h0:o≠0) (h1:o≠1) (h2:o≠2) (h3:o≠3) (h4:o≠4) (h5:o≠5) (h6:o≠6) :
  Calls Try.prog 11 #[.pointer (some ⟨c,0,none⟩),.agg #[.int .i64 o,.int .i64 N,.int .i64 K,.int .i64 P,.slice ba bl bc]] w λe w'=>e = .returned (.tuple #[])/\SyP w w' A Z c n S:=by
 have hbw:Below w.heap.size w (w.alloc (.cells #[.int .i64 o,.int .i64 N,.int .i64 K,.int .i64 P,.slice ba bl bc] 31)):=(aB _ _).alloc (ah _) _;have hbx:=aJ w (.cells #[.int .i64 o,.int .i64 N,.int .i64 K,.int .i64 P,.slice ba bl bc] 31);have hs1:=h.below hbw;have HM0:Hid (Mv A A Z Z w (w.alloc (.cells #[.int .i64 o,.int .i64 N,.int .i64 K,.int .i64 P,.slice ba bl bc] 31))):=ab (Mv.below hbw);have HMA:Hid (w.heap.size∉A):=ab (λhb=>by have:=h.alt _ hb;omega);obtain ⟨hq1,hq2⟩:=gW N n hn;have HQ1:=ab hq1;obtain ⟨Y,rs,ds,ls,Xs,vr,vd,gu,qv,gv,lv,hs,hz⟩:=hs1;obtain ⟨gr,kr,evr,hkr,hrow⟩:=df hs.rr (by omega);subst evr;obtain ⟨gd,kd,evd,hkd,hrowd⟩:=df hs.dr (by omega);subst evd;have hc0:(w.alloc (.cells #[.int .i64 o,.int .i64 N,.int .i64 K,.int .i64 P,.slice ba bl bc] 31)).cell? ⟨c,0,none⟩=some (.slice (some ⟨gr,0,none⟩) n kr):=by rw [af hs.cell];rfl
 have hc1:(w.alloc (.cells #[.int .i64 o,.int .i64 N,.int .i64 K,.int .i64 P,.slice ba bl bc] 31)).cell? ⟨c,1,none⟩=some (.slice (some ⟨gd,0,none⟩) n kd):=by rw [af hs.cell];rfl
 have hc2:(w.alloc (.cells #[.int .i64 o,.int .i64 N,.int .i64 K,.int .i64 P,.slice ba bl bc] 31)).cell? ⟨c,2,none⟩=some (.slice (some ⟨gu,0,none⟩) n n):=by rw [af hs.cell];rfl
 have hk0:(w.alloc (.cells #[.int .i64 o,.int .i64 N,.int .i64 K,.int .i64 P,.slice ba bl bc] 31)).cell? ⟨w.heap.size,0,none⟩=some (.int .i64 o):=by rw [af hbx];rfl
 have hk1:(w.alloc (.cells #[.int .i64 o,.int .i64 N,.int .i64 K,.int .i64 P,.slice ba bl bc] 31)).cell? ⟨w.heap.size,1,none⟩=some (.int .i64 N):=by rw [af hbx];rfl
 have hk2:(w.alloc (.cells #[.int .i64 o,.int .i64 N,.int .i64 K,.int .i64 P,.slice ba bl bc] 31)).cell? ⟨w.heap.size,2,none⟩=some (.int .i64 K):=by rw [af hbx];rfl
 have hk3:(w.alloc (.cells #[.int .i64 o,.int .i64 N,.int .i64 K,.int .i64 P,.slice ba bl bc] 31)).cell? ⟨w.heap.size,3,none⟩=some (.int .i64 P):=by rw [af hbx];rfl
 have hk4:(w.alloc (.cells #[.int .i64 o,.int .i64 N,.int .i64 K,.int .i64 P,.slice ba bl bc] 31)).cell? ⟨w.heap.size,4,none⟩=some (.slice ba bl bc):=by rw [af hbx];rfl
 have hrd:=hrowd _ hq2;have hrq:=hrow _ hq2;have HS:=ab hs;have HZ:=ab hz;have HI:=ab hi;have HML:Hid (w.heap.size<(w.alloc (.cells #[.int .i64 o,.int .i64 N,.int .i64 K,.int .i64 P,.slice ba bl bc] 31)).heap.size):=ab (by simp);clear hs hz h hi hbw hbx hrow hrowd;generalize iX N n=q at *;go_enter Try.func11,Try.ntmps11
 go_upto_region 1 with (fail)
 generalize w.alloc (.cells #[.int .i64 o,.int .i64 N,.int .i64 K,.int .i64 P,.slice ba bl bc] 31)=W at *;generalize w.heap.size=M at *;go_cut [4] (λv wx=>v = .int .i64 (q:Int)/\∃nq,wx=W.drewN nq)
 case first =>
  go_quiet (fail)
  go_wp2_with fail
  go_meet
  exact ⟨by rw [<-HQ1.out],nq,rfl⟩
 case rest =>
 obtain ⟨rfl,nq,rfl⟩:=hcut;have hb1:=ap W nq;have HS1:=ab (HS.out.below hb1);have M1:Hid (Mv A A Z Z w (W.drewN nq)):=ab (HM0.out.trans (Mv.below hb1));have hup:=HS1.out.upAt q hq2;have hc0:(W.drewN nq).cell? ⟨c,0,none⟩=some (.slice (some ⟨gr,0,none⟩) n kr):=hc0;have hc1:(W.drewN nq).cell? ⟨c,1,none⟩=some (.slice (some ⟨gd,0,none⟩) n kd):=hc1;have hc2:(W.drewN nq).cell? ⟨c,2,none⟩=some (.slice (some ⟨gu,0,none⟩) n n):=hc2;have hk0:(W.drewN nq).cell? ⟨M,0,none⟩=some (.int .i64 o):=hk0;have hk1:(W.drewN nq).cell? ⟨M,1,none⟩=some (.int .i64 N):=hk1;have hk2:(W.drewN nq).cell? ⟨M,2,none⟩=some (.int .i64 K):=hk2;have hk3:(W.drewN nq).cell? ⟨M,3,none⟩=some (.int .i64 P):=hk3;have hk4:(W.drewN nq).cell? ⟨M,4,none⟩=some (.slice ba bl bc):=hk4;have hrd:(W.drewN nq).cell? ⟨gd,q,none⟩=some (.pointer (some ⟨ds q,0,none⟩)):=hrd;have hrq:(W.drewN nq).cell? ⟨gr,q,none⟩=some (.pointer (some ⟨rs q,0,none⟩)):=hrq;have HML:Hid (M<(W.drewN nq).heap.size):=ab HML.out;have hq3:(q:Int)<(n:Int):=by omega
 clear hb1 HS HM0 hq1 HQ1;generalize W.drewN nq=W1 at *;have HF:Hid (SyP w W1 A Z c n S):=ab ((⟨_,_,_,_,_,_,_,_,_,_,_,HS1.out,HZ.out⟩:Sy _ A Z c n S).syp M1.out);have e0:(o==0)=false:=by simpa using h0
 have e1:(o==1)=false:=by simpa using h1
 have e2:(o==2)=false:=by simpa using h2
 have e3:(o==3)=false:=by simpa using h3
 have e4:(o==4)=false:=by simpa using h4
 have e5:(o==5)=false:=by simpa using h5
 have e6:(o==6)=false:=by simpa using h6
 clear h0 h1 h2 h3 h4 h5 h6;go_wp2_with fail
 go_end0
 exact ⟨rfl,HF.out⟩
end
def iu (l:List Ac) (dh:Nat):Bool:=decide (l.length<=dh)&&l.all λx=>decide (x.B.length<=300)
theorem rv (l:List Ac) (dh:Nat) (h:iu l dh=true):l.length<=dh/\∀x∈l,x.B.length<=300:=by
 unfold iu at h;simp only [bk,aR,fx] at h;exact h
section
variable {w:World}
set_option maxHeartbeats 4000000 in
theorem wo (ao:Option Addr) (n c:Nat) (l:List Ac) (h:IsAx w ao n l) (hn:n<=140737488355328) (dh:Nat) (hm:dh<=1000) :
  Calls Try.prog 9 #[.slice ao n c,.int .i64 (dh:Int)] w λe w'=>e = .returned (.bool (iu l dh))/\Below w.heap.size w w':=by
 have H:=ab h;have hlen:=h.len;go_enter Try.func9,Try.ntmps9
 by_cases hbig:(dh:Int)<(n:Int)
 ·have HF:Hid (iu l dh=false):=ab (by
   unfold iu;rw [show decide (l.length<=dh)=false by simp;omega];rfl)
  clear h;go_wp2_with fail
  go_ret
  exact ⟨by rw [HF.out];rfl,aB _ _⟩
 ·clear h;go_wp2_with fail
  go_loopw [5] (λi wr=>∃j:Nat,j<=n/\i = .int .i64 (j:Int)/\Below w.heap.size w wr/\∀q,q<j->(l.getD q qp).B.length<=300) (λi _=>n - (intOf i).toNat)
  case atStart=>exact ⟨0,aA _,rfl,aB _ _,λq hq=>by omega⟩
  case round =>
   obtain ⟨j,hj,rfl,hbw,hB⟩:=hrel;have HB:=ab hB;have HBW:=ab hbw;clear hB;rename World=>w2;have q6:IntKind.i64.wrap ((j:Int)+1)=(j:Int)+1:=IntWalk.i64_in _ (by omega);by_cases hlt:j<n
   ·have hlt2:(j:Int)<(n:Int):=by omega
    obtain ⟨b,off,rfl,hat⟩:∃b off,ao=some ⟨b,off,none⟩/\∀i,i<n->AtAc w b (off+i*5) (l.getD i qp):=by
     rcases H.out.at_ with h0 | h0
     ·omega
     ·exact h0
    obtain ⟨bo,bc,k4,k5,k6⟩:=((hat j hlt).below hbw).c4;have HX:Hid ((l.getD j qp).B.length=(l.getD j qp).B.length):=ab rfl;have hxl:∃x,l.getD j qp=x/\x∈l:=by
     refine ⟨_,rfl,?_⟩;have e:l.getD j qp=l[j]'(by omega):=by simp [List.getD,show j<l.length by omega]
     rw [e];exact dy _
    obtain ⟨x,hx1,hx2⟩:=hxl;have HXE:=ab hx1;have HXM:=ab hx2;rw [hx1] at k4 k5 k6;have hbl:∃y,x.B.length=y:=⟨_,rfl⟩
    obtain ⟨bl,hbl⟩:=hbl;have HBL:=ab hbl;rw [hbl] at k4 k5 k6;clear hat hx1 hx2 hbl HX k5;by_cases h3:(300:Int)<(bl:Int)
    ·have HF:Hid (iu l dh=false):=ab (by
      cases h9:iu l dh with
      | false=>rfl
      | true =>
       have:=(rv l dh h9).2 x HXM.out;have:=HBL.out;omega)
     go_wp2_with fail
     go_ret
     exact ⟨by rw [HF.out];rfl,HBW.out⟩
    ·have HB2:Hid (∀q,q<j+1->(l.getD q qp).B.length<=300):=ab (λq hq=>by
      by_cases e:q=j
      ·rw [e,HXE.out,HBL.out];omega
      ·exact HB.out q (by omega))
     go_wp2_with fail
     go_roundw
     case rel=>exact ⟨j+1,by omega,by simp,HBW.out,HB2.out⟩
     case measure=>simp [intOf];omega
   ·obtain rfl:j=n:=by omega
    have hlt2:¬(j:Int)<(j:Int):=by omega
    have HF:Hid (iu l dh=true):=ab (by
     unfold iu;rw [show decide (l.length<=dh)=true by simp;omega,Bool.true_and,fx];intro x hx;obtain ⟨q,hq,rfl⟩:=List.getElem_of_mem hx;have:=HB.out q (by omega);rw [show l.getD q qp=l[q] by simp [List.getD,hq]] at this;simpa using this)
    go_wp2_with fail
    go_ret
    exact ⟨by rw [HF.out];rfl,HBW.out⟩
end
end Go.Proofs.Ytnicaicjgaoolaa
