/-
  What the proof of the law leans on: contracts of the program's functions, one behind another. No condition.
-/
import Derived.Test.YtnicaicjgaoolaaU0
import Derived.Test.YtnicaicjgaoolaaU24
import Derived.Test.YtnicaicjgaoolaaU25
import Derived.Test.YtnicaicjgaoolaaU3
set_option linter.unusedVariables false
set_option linter.unusedSimpArgs false
namespace Go.Proofs.Ytnicaicjgaoolaa
open Go.RowKit Go.ChangeMaps Go.WideMaps Go.Maps
set_option maxRecDepth 20000
section
variable {w w':World} {A A' Y Z Z':List Nat} {c n cl:Nat} {S:Mn} {rs ds ls:Nat->Nat} {Xs:Nat->List Nat} {vr vd:Value} {gu:Nat} {qv gv lv:Value}
theorem SyC.newq {q:List Msg} {v':Value} (h:SyC w A Y c n S rs ds ls Xs vr vd gu qv gv lv) (hz:∀b,b∈Z↔b∈Y\/∃i,i<n/\b∈Xs i) (hq:IsQ w A Y v' q):SyP w (w.setCell ⟨c,3,none⟩ v') A Z c n { S with q:=q } :=
 h.setq hz ⟨A,Y,hq,Mv.refl _ _ _,h.alt,h.yA,λb hb=>.inl hb,[],Only.refl _ _,λb hb=>by cases hb⟩
theorem IsQ.head {m:Msg} {ms:List Msg} {v:Value} (h:IsQ w A Y v (m::ms)):∃g off k mv mu,v = .slice (some ⟨g,off,none⟩) (ms.length+1) k/\ms.length+1<=k/\w.cell? ⟨g,off,none⟩=some (.int .i64 m.frm)/\w.cell? ⟨g,off+1,none⟩=some (.int .i64 m.dst)/\w.cell? ⟨g,off+2,none⟩=some (.int .i64 m.kind)/\w.cell? ⟨g,off+3,none⟩=some mv/\w.cell? ⟨g,off+4,none⟩=some mu/\IsMsg w A m mv mu:=by
 rcases h with ⟨_,h⟩ | ⟨g,off,k,cur,h1,h2,h3,h4,h5,h6,h7⟩
 ·cases h
 ·obtain ⟨mv,mu,k0,k1,k2,k3,k4,hm⟩:=h7 0 (by simp);refine ⟨g,off*5,k,mv,mu,by rw [h1];rfl,by simpa using h2,?_,?_,?_,?_,?_,hm⟩<;>rw [af h5]
  ·exact k0
  ·exact k1
  ·exact k2
  ·exact k3
  ·exact k4
theorem i8 (S:Mn) (i:Nat):S.ticks (i+1)=(S.ticks i).tick i:=by
 unfold Mn.ticks;rw [cE,cZ];rfl
set_option maxHeartbeats 16000000 in
theorem lC (h:Sy w A Z c n S) (hi:SInv n cl S) (r:Nat) (hr:cl+r*n<=999999) (hr2:r<=1000) (hn1:1<=n) :
  Calls Try.prog 14 #[.pointer (some ⟨c,0,none⟩),.int .i64 (r:Int)] w λe w'=>e = .returned (.bool (Mn.calm n r S).1)/\SyP w w' A Z c n (Mn.calm n r S).2:=by
 have H:=ab h;have HI:=ab hi;have HZA:=ab h.zA;have HRB:=ab hr;clear h hi hr;go_enter Try.func14,Try.ntmps14
 go_wp2_with fail
 go_loopw [5] (λi wr=>∃(t:Nat) (T:Mn),t<=r/\i = .int .i64 (t:Int)/\SyP w wr A Z c n T/\SInv n (cl+t*n) T/\Mn.calm n r S=Mn.calm n (r - t) T) (λi _=>r - (intOf i).toNat)
 case atStart=>exact ⟨0,S,aA _,rfl,H.out.syp (Mv.refl _ _ _),by simpa using HI.out,rfl⟩
 case round =>
  obtain ⟨t,T,ht,rfl,hsy,hin,hcm⟩:=hrel;have HSY:=ab hsy;have HIN:=ab hin;have HCM:=ab hcm;clear hsy hin hcm;have q6:IntKind.i64.wrap ((t:Int)+1)=(t:Int)+1:=IntWalk.i64_in _ (by omega);by_cases hlt:t<r
  ·have hlt2:(t:Int)<(r:Int):=by omega
   have HTN:Hid (cl+t*n+n<=999999):=ab (by
    have h1:t*n+n<=r*n:=by
     have:=Nat.mul_le_mul_right n (show t+1<=r by omega);rw [AK] at this;exact this
    have:=HRB.out;omega)
   go_wp2_with fail
   go_loopw [6] (λi w2=>∃j:Nat,j<=n/\i = .int .i64 (j:Int)/\SyP w w2 A Z c n (T.ticks j)) (λi _=>n - (intOf i).toNat)
   case atStart=>exact ⟨0,aA _,rfl,HSY.out⟩
   case round =>
    obtain ⟨j,hj,rfl,A1,Z1,h1,m1⟩:=hrel;have HT1:=ab (HIN.out.ticks j hj);have M1:=ab m1;have hsx:=h1;obtain ⟨Y,rs,ds,ls,Xs,vr,vd,gu,qv,gv,lv,hs,hz⟩:=h1;have hn5:=hs.n5;have q7:IntKind.i64.wrap ((j:Int)+1)=(j:Int)+1:=IntWalk.i64_in _ (by omega);obtain ⟨gr,kr,evr,hkr,hrow⟩:=df hs.rr (by omega);subst evr;rename World=>w2;have hc0:w2.cell? ⟨c,0,none⟩=some (.slice (some ⟨gr,0,none⟩) n kr):=by rw [af hs.cell];rfl
    by_cases hjn:j<n
    ·have hup:=hs.upAt j hjn;have hrj:=hrow j hjn;have hc2:w2.cell? ⟨c,2,none⟩=some (.slice (some ⟨gu,0,none⟩) n n):=by rw [af hs.cell];rfl
     have hjn2:(j:Int)<(n:Int):=by omega
     cases hupj:((T.ticks j).at j).up with
     | false =>
      rw [hupj] at hup;have HF:Hid (SyP w w2 A Z c n (T.ticks (j+1))):=ab (by
       rw [i8];unfold Mn.tick;rw [hupj];exact hsx.syp m1)
      clear hs hz hsx m1 hrow;go_wp2_with fail
      go_roundw
      case rel=>exact ⟨j+1,by omega,by simp,HF.out⟩
      case measure=>simp [intOf];omega
     | true =>
      rw [hupj] at hup;obtain ⟨hwf,hck⟩:=HT1.out.wf j hjn hupj;have HIDJ:=ab (HT1.out.id j hjn);have HOUT:=ab (lh hwf);have HQ:Hid ((T.ticks j).q.length<=2000):=ab HT1.out.ql;have HTK:Hid (T.ticks (j+1)=((T.ticks j).set j ⟨(eh ((T.ticks j).at j).s ((T.ticks j).at j).k).2.1,(eh ((T.ticks j).at j).s ((T.ticks j).at j).k).2.2,true⟩).send (eh ((T.ticks j).at j).s ((T.ticks j).at j).k).1):=ab (by
       rw [i8];unfold Mn.tick;rw [hupj];rfl)
      have HTICK:=ab ((qA ((hs.node j hjn).up hupj) hwf (by have:=HTN.out;omega)).mono (λe w' hp=>hs.msp hz hjn hupj hp));have HG3:Hid (∀x∈(eh ((T.ticks j).at j).s ((T.ticks j).at j).k).1,x.frm=(j:Int)/\(x.dst==(j:Int))=false/\0<=x.dst/\x.dst<(n:Int)):=ab (by
       have h9:=HOUT.out.ms;rw [HIDJ.out.1,HIDJ.out.2] at h9;exact iB h9)
      clear hs hz hsx m1 hrow hwf hck HOUT;generalize eh ((T.ticks j).at j).s ((T.ticks j).at j).k=p at *;go_wp2_with fail
      refine HTICK.out.mono ?_;rintro e w3 ⟨v3,A3,Z3,rfl,hs3,hr3,hm3⟩;have HS3:=ab hs3;have HR3:=ab hr3;have HM3:=ab hm3;clear hs3 hr3 hm3;go_wp2_with fail
      refine (iC HS3.out (by exact HQ.out) v3 _ HR3.out j HG3.out).mono ?_;rintro e w4 ⟨rfl,hs4⟩;have HF:Hid (SyP w w4 A Z c n (T.ticks (j+1))):=ab (by
       rw [HTK.out];exact SyP.trans (M1.out.trans HM3.out) hs4)
      clear hs4;go_wp2_with fail
      go_roundw
      case rel=>exact ⟨j+1,by omega,by simp,HF.out⟩
      case measure=>simp [intOf];omega
    ·obtain rfl:j=n:=by omega
     have HSX:=ab (hsx.syp m1);have hrn:¬(j:Int)<(j:Int):=by omega
     clear hs hz hsx m1 hrow;have HT1:Hid (SInv j (cl+t*j+j) (T.ticks j)):=HT1;generalize hD0:(T.ticks j).drain 4000=D0 at *;have HD0:=ab hD0;clear hD0;go_wp2_with fail
     go_loopw [7] (λi w2=>∃(f:Nat) (D:Mn),f<=4000/\i = .int .i64 (f:Int)/\SyP w w2 A Z c j D/\SInv j (cl+t*j+j) D/\(T.ticks j).drain 4000=D.drain (4000 - f)) (λi _=>4000 - (intOf i).toNat)
     case atStart=>exact ⟨0,T.ticks j,by omega,rfl,HSX.out,HT1.out,rfl⟩
     case round =>
      obtain ⟨f,D,hf,rfl,⟨A2,Z2,h2,m2⟩,hin2,hdr⟩:=hrel;have HIN2:=ab hin2;have HDR:=ab hdr;have M2:=ab m2;have HSY2:=ab h2;obtain ⟨Y,rs,ds,ls,Xs,vr,vd,gu,qv,gv,lv,hs,hz⟩:=h2;rename World=>w3;have q8:IntKind.i64.wrap ((f:Int)+1)=(f:Int)+1:=IntWalk.i64_in _ (by omega);cases hDq:D.q with
      | nil =>
       have hq0:=hs.q;rw [hDq] at hq0;obtain ⟨aq,cq,eq9,_⟩:=hq0.shape;subst eq9;have hc3:w3.cell? ⟨c,3,none⟩=some (.slice aq 0 cq):=by rw [af hs.cell];rfl
       have HDD:Hid (D.drain (4000 - f)=D):=ab (by
        cases h9:4000 - f with
        | zero=>rfl
        | succ x=>unfold Mn.drain;rw [hDq])
       have HNX:Hid (Mn.calm j r S=Mn.calm j (r - (t+1)) D):=ab (by
        rw [HCM.out,show r - t=(r - (t+1))+1 by omega];show (if ((T.ticks j).drain 4000).q.length=0 then _ else _)=_;rw [HDR.out,HDD.out,ax (by rw [hDq];rfl)])
       have HF:Hid (SyP w w3 A Z c j D):=ab (HSY2.out.syp M2.out);have HI9:Hid (SInv j (cl+(t+1)*j) D):=ab (by
        have h9:=HIN2.out;rw [show cl+t*j+j=cl+(t+1)*j by rw [AK];omega] at h9;exact h9)
       clear hs hz m2 hin2 hdr hq0 hc0;by_cases hf4:f<4000
       ·have hf5:(f:Int)<4000:=by omega
        go_wp2_with fail
        go_roundw
        case rel=>exact ⟨t+1,D,by omega,by simp,HF.out,HI9.out,HNX.out⟩
        case measure=>simp [intOf];omega
       ·have hf5:¬(f:Int)<4000:=by omega
        go_wp2_with fail
        go_roundw
        case rel=>exact ⟨t+1,D,by omega,by simp,HF.out,HI9.out,HNX.out⟩
        case measure=>simp [intOf];omega
      | cons m q =>
       have hq0:=hs.q;rw [hDq] at hq0;obtain ⟨g,off,k,mv,mu,evq,hk1,k0,k1,k2,k3,k4,hmsg⟩:=hq0.head;subst evq;obtain ⟨an,cn,e9,_⟩:=id hmsg.n;subst e9;obtain ⟨ub,bc,e9⟩:=fU hmsg.b;subst e9;have htl:=hq0.tail;have HTL:Hid (IsQ w3 A2 Y (.slice (if k=1 then some ⟨g,off,none⟩ else some ⟨g,off+5,none⟩) q.length (k - 1)) q):=ab (by
        have e:some (if k=1 then (⟨g,off,none⟩:Addr) else (⟨g,off,none⟩:Addr).add 5)=(if k=1 then some ⟨g,off,none⟩ else some ⟨g,off+5,none⟩):=by
         rw [Addr.add_lit];split<;>rfl
        rw [e] at htl;exact htl)
       have hc3:w3.cell? ⟨c,3,none⟩=some (.slice (some ⟨g,off,none⟩) (q.length+1) k):=by rw [af hs.cell];rfl
       have hql:(0:Int)<(q.length:Int)+1:=by omega
       by_cases hf4:f<4000
       ·have hf5:(f:Int)<4000:=by omega
        have hk2:1<=k:=by omega
        have HS3:=ab hs;have HZ3:=ab hz;have HMG:=ab hmsg;have hz3:=aO hs.cell 3;have hlt3:=aU hs.cell;have HDS:Hid (D.drain (4000 - f)=(({ D with q:=q }:Mn).bring m).drain (4000 - (f+1))):=ab (by
         rw [show 4000 - f=(4000 - (f+1))+1 by omega];show (match D.q with | []=>D | m::q=>Mn.drain (4000 - (f+1)) (({ D with q:=q }:Mn).bring m))=_;rw [hDq])
        clear hs hz m2 hin2 hdr hq0 hc0 htl hmsg;go_upto_region 13 with (fail)
        have hbx:=ab (aJ w3 (.cells #[.int .i64 m.frm,.int .i64 m.dst,.int .i64 m.kind,.slice an m.N.length cn,.slice ub m.B.length bc] 51));have hbw:Below w3.heap.size w3 (w3.alloc (.cells #[.int .i64 m.frm,.int .i64 m.dst,.int .i64 m.kind,.slice an m.N.length cn,.slice ub m.B.length bc] 51)):=(aB _ _).alloc (ah _) _;have HS4:=ab (HS3.out.below hbw);have HMG4:=ab (HMG.out.below hbw);have HTL4:=ab (HTL.out.keep (Only.ofBelow hbw []) (λb hb=>by cases hb) (λb hb cur hc hm=>by cases hm) (Ext.refl _ _) (λb hb=>hb));have HBW:=ab hbw;have hy3:=cell_later hbw hc3;have hz4:(w3.alloc (.cells #[.int .i64 m.frm,.int .i64 m.dst,.int .i64 m.kind,.slice an m.N.length cn,.slice ub m.B.length bc] 51)).frozen? ⟨c,3,none⟩=false:=aO HS4.out.cell 3;have hcM:c≠w3.heap.size:=by omega
        clear hbw hc3 hz3 k0 k1 k2 k3 k4;generalize w3.alloc (.cells #[.int .i64 m.frm,.int .i64 m.dst,.int .i64 m.kind,.slice an m.N.length cn,.slice ub m.B.length bc] 51)=w4 at *;go_upto_region 14 with (fail)
        generalize (if k=1 then (some ⟨g,off,none⟩:Option Addr) else some ⟨g,off+5,none⟩)=aq at *;obtain ⟨A5,Z5,h5,m5⟩:=HS4.out.newq HZ3.out HTL4.out;have hon:Only [c] w4 (w4.setCell ⟨c,3,none⟩ (.slice aq q.length (k - 1))):=(Only.refl _ _).setCell (by simp) _;have hbx5:=hon.keeps hbx.out (by simpa using hcM.symm);have hZA2:=HSY2.out.zA;have HMG5:=ab (HMG4.out.step m5.mv.only hZA2 m5.ext);have H5:=ab h5;have M5:=ab ((M2.out.trans (Mv.below HBW.out)).trans m5);obtain ⟨fr,hfr,hgm⟩:=HIN2.out.q m (by rw [hDq];exact aP);have hIN5:=HIN2.out.pop hDq;have HIN6:Hid (SInv j (cl+t*j+j) (({ D with q:=q }:Mn).bring m)):=ab (hIN5.bring m hgm.d0 hgm.dn);have hton:m.dst.toNat<j:=by have:=hgm.d0;have:=hgm.dn;omega
        have HBR:Hid (Calls Try.prog 25 #[.pointer (some ⟨c,0,none⟩),.agg #[.int .i64 m.frm,.int .i64 m.dst,.int .i64 m.kind,.slice an m.N.length cn,.slice ub m.B.length bc]] (w4.setCell ⟨c,3,none⟩ (.slice aq q.length (k - 1))) λe w'=>e = .returned (.tuple #[])/\SyP (w4.setCell ⟨c,3,none⟩ (.slice aq q.length (k - 1))) w' A5 Z5 c j (({ D with q:=q }:Mn).bring m)):=ab
         (pk H5.out hIN5.ql m _ _ HMG5.out m.dst.toNat (by have:=hgm.d0;omega) hton (λhu=>(hIN5.wf _ hton hu).1) (hIN5.id _ hton).1 (hIN5.id _ hton).2 hgm.n1 (by have:=hgm.bl;omega) (by have:=hgm.nl;omega))
        have hk0:(w4.setCell ⟨c,3,none⟩ (.slice aq q.length (k - 1))).cell? ⟨w3.heap.size,0,none⟩=some (.int .i64 m.frm):=by rw [af hbx5];rfl
        have hk1':(w4.setCell ⟨c,3,none⟩ (.slice aq q.length (k - 1))).cell? ⟨w3.heap.size,1,none⟩=some (.int .i64 m.dst):=by rw [af hbx5];rfl
        have hk2':(w4.setCell ⟨c,3,none⟩ (.slice aq q.length (k - 1))).cell? ⟨w3.heap.size,2,none⟩=some (.int .i64 m.kind):=by rw [af hbx5];rfl
        have hk3:(w4.setCell ⟨c,3,none⟩ (.slice aq q.length (k - 1))).cell? ⟨w3.heap.size,3,none⟩=some (.slice an m.N.length cn):=by rw [af hbx5];rfl
        have hk4:(w4.setCell ⟨c,3,none⟩ (.slice aq q.length (k - 1))).cell? ⟨w3.heap.size,4,none⟩=some (.slice ub m.B.length bc):=by rw [af hbx5];rfl
        clear h5 m5 hon hbx5 hZA2 hgm hIN5 hy3 hz4 hcM;generalize w4.setCell ⟨c,3,none⟩ (.slice aq q.length (k - 1))=w5 at *;go_wp2_with fail
        refine HBR.out.mono ?_;rintro e w6 ⟨rfl,hs6⟩;have HF:=ab (SyP.trans M5.out hs6);have HDS2:=ab (HDR.out.trans HDS.out);clear hs6;go_wp2_with fail
        go_roundw
        case rel=>exact ⟨f+1,_,by omega,by simp,HF.out,HIN6.out,HDS2.out⟩
        case measure=>simp [intOf];omega
       ·have hf6:f=4000:=by omega
        have hf5:¬(f:Int)<4000:=by omega
        have HNX:Hid (Mn.calm j r S=(false,D)):=ab (by
         rw [HCM.out,show r - t=(r - (t+1))+1 by omega];show (if ((T.ticks j).drain 4000).q.length=0 then _ else _)=_;rw [HDR.out,hf6];show (if D.q.length=0 then _ else (false,D))=_;rw [aw (by rw [hDq];simp)])
        have HF:Hid (SyP w w3 A Z c j D):=ab (HSY2.out.syp M2.out);clear hs hz m2 hin2 hdr hq0 hc0 htl hmsg;go_wp2_with fail
        go_ret
        rw [HNX.out];exact ⟨rfl,HF.out⟩
  ·obtain rfl:t=r:=by omega
   have HE:Hid (Mn.calm n t S=(true,T)):=ab (by rw [HCM.out,pu];rfl);have hlt2:¬(t:Int)<(t:Int):=by omega
   go_wp2_with fail
   go_ret
   rw [HE.out];exact ⟨rfl,HSY.out⟩
end
theorem sJ {p:Prop} (h:p:=by
 refine cf 8 λK hK=>?_;refine bL rfl λQ' hQ=>?_;refine eo rfl (.tmp 202) (.tmp 208) rfl (by rfl) (by rfl) hr1 ?_;refine hQ _ _ ?_;clear hQ Q';refine hK.out _ _ trivial (λam=>?_);clear hK K;refine bu ?_;clear hr1 ho1;refine cf 16 λK hK=>?_;refine bL rfl λQ' hQ=>?_;refine eo rfl (.tmp 209) (.tmp 216) rfl (by rfl) (by rfl) HR2.out ?_;refine hQ _ _ ?_;clear hQ Q';have hk6:=HO2.out.cell HC3V.out (by simp);refine hK.out _ _ trivial (λam=>?_);clear hK K;refine bu ?_;have hc6:=HO2.out.keeps HV.out.cell (by simp);refine az 17 ?_;refine az 18 ?_;refine cf 19 λK hK=>?_;have hz6:=aO hc6 3;go_simp
 clear hz6 hk6;refine hK.out _ _ trivial (λam=>?_);clear hK K;refine bu ?_;refine fc ?_;clear am;go_wp2_with fail
 all_goals (go_meet;rw [HLE.out];exact HV.out.setq HZ.out HQP.out)):p:=h
theorem xE {p:Prop} (h:p:=by
 refine gJ 8 12 (λK hK=>?_) λK hK=>?_
 ·refine bL rfl λQ' hQ=>?_;refine eo rfl (.tmp 202) (.tmp 208) rfl (by rfl) (by rfl) hr1 ?_;refine hQ _ _ ?_;clear hQ Q';refine hK.out _ _ trivial (λam=>?_);clear hK K;refine bu ?_;clear hr1 ho1;refine cf 12 λK hK=>?_;have hyl:=HK5.out;go_simp
  clear hyl;refine hK.out _ _ trivial (λam=>?_);clear hK K;refine bu ?_;refine az 15 ?_;refine cf 16 λK hK=>?_;refine bL rfl λQ' hQ=>?_;refine eo rfl (.tmp 209) (.tmp 216) rfl (by rfl) (by rfl) HR2.out ?_;refine hQ _ _ ?_;clear hQ Q';have hk6:=HO2.out.cell HC3V.out (by simp);refine hK.out _ _ trivial (λam=>?_);clear hK K;refine bu ?_;have hc6:=HO2.out.keeps HV.out.cell (by simp);refine az 17 ?_;refine az 18 ?_;refine cf 19 λK hK=>?_;have hz6:=aO hc6 3;go_simp
  clear hz6 hk6;refine hK.out _ _ trivial (λam=>?_);clear hK K;refine bu ?_;refine fc ?_;clear am;go_wp2_with fail
  all_goals (go_meet;rw [HLE.out];exact HV.out.setq HZ.out HQP.out)
 ·have hyl:=HC4.out;go_simp
  clear hyl;refine hK.out _ _ trivial (λam=>?_);clear hK K;refine bu ?_;refine az 15 ?_;exact sJ):p:=h
theorem xD {p:Prop} (h:p:=by
 refine cf 1 λK hK=>?_;go_simp
 refine hK.out _ _ trivial (λam=>?_);clear hK K;refine bu ?_;generalize hV4:V3.alloc (.cells #[] 51)=V4 at *;clear hV4;obtain ⟨p1,n1,c1,W5,hr1,ho1,p2,n2,c2,W6,hr2,ho2,hqp⟩:=HLP.out.ex;have HQP:=ab hqp;have HO2:=ab ho2;rw [HE9.out] at hr2;have HR2:=ab hr2;have HK5:=ab (ho1.cell (HC4.out) HCV.out);clear hqp ho2 hr2;exact sJ):p:=h
theorem xC {p:Prop} (h:p:=by
 refine cf 5 λK hK=>?_;have hyl:=HC4.out;go_simp
 clear hyl;refine hK.out _ _ trivial (λam=>?_);clear hK K;refine bu ?_;refine az 7 ?_;exact sJ):p:=h
section
variable {w w':World} {A A' Y Z Z':List Nat} {c n cl:Nat} {S:Mn} {rs ds ls:Nat->Nat} {Xs:Nat->List Nat} {vr vd:Value} {gu:Nat} {qv gv lv:Value}
set_option maxHeartbeats 4000000 in
theorem BH (h:Sy w A Z c n S) (hi:SInv n cl S) (N K P:Int) (ba:Option Addr) (bl bc:Nat) (hn:1<=n) :
  Calls Try.prog 11 #[.pointer (some ⟨c,0,none⟩),.agg #[.int .i64 2,.int .i64 N,.int .i64 K,.int .i64 P,.slice ba bl bc]] w λe w'=>e = .returned (.tuple #[])/\SyP w w' A Z c n (S.lose K):=by
 have HZA:=ab h.zA;have hbw:Below w.heap.size w (w.alloc (.cells #[.int .i64 2,.int .i64 N,.int .i64 K,.int .i64 P,.slice ba bl bc] 31)):=(aB _ _).alloc (ah _) _;have hbx:=aJ w (.cells #[.int .i64 2,.int .i64 N,.int .i64 K,.int .i64 P,.slice ba bl bc] 31);have hs1:=h.below hbw;have HM0:Hid (Mv A A Z Z w (w.alloc (.cells #[.int .i64 2,.int .i64 N,.int .i64 K,.int .i64 P,.slice ba bl bc] 31))):=ab (Mv.below hbw);have HMA:Hid (w.heap.size∉A):=ab (λhb=>by have:=h.alt _ hb;omega);obtain ⟨hq1,hq2⟩:=gW N n hn;have HQ1:=ab hq1;obtain ⟨Y,rs,ds,ls,Xs,vr,vd,gu,qv,gv,lv,hs,hz⟩:=hs1;obtain ⟨gr,kr,evr,hkr,hrow⟩:=df hs.rr (by omega);subst evr;obtain ⟨gd,kd,evd,hkd,hrowd⟩:=df hs.dr (by omega);subst evd;have hc0:(w.alloc (.cells #[.int .i64 2,.int .i64 N,.int .i64 K,.int .i64 P,.slice ba bl bc] 31)).cell? ⟨c,0,none⟩=some (.slice (some ⟨gr,0,none⟩) n kr):=by rw [af hs.cell];rfl
 have hc1:(w.alloc (.cells #[.int .i64 2,.int .i64 N,.int .i64 K,.int .i64 P,.slice ba bl bc] 31)).cell? ⟨c,1,none⟩=some (.slice (some ⟨gd,0,none⟩) n kd):=by rw [af hs.cell];rfl
 have hc2:(w.alloc (.cells #[.int .i64 2,.int .i64 N,.int .i64 K,.int .i64 P,.slice ba bl bc] 31)).cell? ⟨c,2,none⟩=some (.slice (some ⟨gu,0,none⟩) n n):=by rw [af hs.cell];rfl
 have hk0:(w.alloc (.cells #[.int .i64 2,.int .i64 N,.int .i64 K,.int .i64 P,.slice ba bl bc] 31)).cell? ⟨w.heap.size,0,none⟩=some (.int .i64 2):=by rw [af hbx];rfl
 have hk1:(w.alloc (.cells #[.int .i64 2,.int .i64 N,.int .i64 K,.int .i64 P,.slice ba bl bc] 31)).cell? ⟨w.heap.size,1,none⟩=some (.int .i64 N):=by rw [af hbx];rfl
 have hk2:(w.alloc (.cells #[.int .i64 2,.int .i64 N,.int .i64 K,.int .i64 P,.slice ba bl bc] 31)).cell? ⟨w.heap.size,2,none⟩=some (.int .i64 K):=by rw [af hbx];rfl
 have hk3:(w.alloc (.cells #[.int .i64 2,.int .i64 N,.int .i64 K,.int .i64 P,.slice ba bl bc] 31)).cell? ⟨w.heap.size,3,none⟩=some (.int .i64 P):=by rw [af hbx];rfl
 have hk4:(w.alloc (.cells #[.int .i64 2,.int .i64 N,.int .i64 K,.int .i64 P,.slice ba bl bc] 31)).cell? ⟨w.heap.size,4,none⟩=some (.slice ba bl bc):=by rw [af hbx];rfl
 have hrd:=hrowd _ hq2;have hrq:=hrow _ hq2;have HS:=ab hs;have HZ:=ab hz;have HI:=ab hi;have HML:Hid (w.heap.size<(w.alloc (.cells #[.int .i64 2,.int .i64 N,.int .i64 K,.int .i64 P,.slice ba bl bc] 31)).heap.size):=ab (by simp);clear hs hz h hi hbw hbx hrow hrowd;generalize iX N n=q at *;go_enter Try.func11,Try.ntmps11
 go_upto_region 1 with (fail)
 generalize w.alloc (.cells #[.int .i64 2,.int .i64 N,.int .i64 K,.int .i64 P,.slice ba bl bc] 31)=W at *;generalize w.heap.size=M at *;go_cut [4] (λv wx=>v = .int .i64 (q:Int)/\∃nq,wx=W.drewN nq)
 case first =>
  go_quiet (fail)
  go_wp2_with fail
  go_meet
  exact ⟨by rw [<-HQ1.out],nq,rfl⟩
 case rest =>
 obtain ⟨rfl,nq,rfl⟩:=hcut;have hb1:=ap W nq;have HS1:=ab (HS.out.below hb1);have M1:Hid (Mv A A Z Z w (W.drewN nq)):=ab (HM0.out.trans (Mv.below hb1));have hup:=HS1.out.upAt q hq2;have hc0:(W.drewN nq).cell? ⟨c,0,none⟩=some (.slice (some ⟨gr,0,none⟩) n kr):=hc0;have hc1:(W.drewN nq).cell? ⟨c,1,none⟩=some (.slice (some ⟨gd,0,none⟩) n kd):=hc1;have hc2:(W.drewN nq).cell? ⟨c,2,none⟩=some (.slice (some ⟨gu,0,none⟩) n n):=hc2;have hk0:(W.drewN nq).cell? ⟨M,0,none⟩=some (.int .i64 2):=hk0;have hk1:(W.drewN nq).cell? ⟨M,1,none⟩=some (.int .i64 N):=hk1;have hk2:(W.drewN nq).cell? ⟨M,2,none⟩=some (.int .i64 K):=hk2;have hk3:(W.drewN nq).cell? ⟨M,3,none⟩=some (.int .i64 P):=hk3;have hk4:(W.drewN nq).cell? ⟨M,4,none⟩=some (.slice ba bl bc):=hk4;have hrd:(W.drewN nq).cell? ⟨gd,q,none⟩=some (.pointer (some ⟨ds q,0,none⟩)):=hrd;have hrq:(W.drewN nq).cell? ⟨gr,q,none⟩=some (.pointer (some ⟨rs q,0,none⟩)):=hrq;have HML:Hid (M<(W.drewN nq).heap.size):=ab HML.out;have hq3:(q:Int)<(n:Int):=by omega
 clear hb1 HS HM0 hq1 HQ1;generalize W.drewN nq=W1 at *;have hq0:=HS1.out.q;obtain ⟨aq,cq,eq9,hcq,_⟩:=hq0.shape;subst eq9;have hc3:W1.cell? ⟨c,3,none⟩=some (.slice aq S.q.length cq):=by rw [af HS1.out.cell];rfl
 have HSY:Hid (Sy W1 A Z c n S):=ab ⟨_,_,_,_,_,_,_,_,_,_,_,HS1.out,HZ.out⟩;clear hup hrd hrq hc0 hc1 hc2;by_cases hl0:S.q.length=0
 ·have HF:Hid (SyP w W1 A Z c n (S.lose K)):=ab (by
   rw [zm K hl0];exact HSY.out.syp M1.out)
  rw [hl0] at hc3;clear hq0 hq3;go_wp2_with fail
  (try simp only [Exit.inBlock,Exit.then])
  refine bodyPost_ret (results_none rfl _ _ _) rfl ?_;exact ⟨rfl,HF.out⟩
 ·have hl1:1<=S.q.length:=by omega
  have HL2:Hid (S.q.length<=2000):=ab HI.out.ql;obtain ⟨hj1,hj2⟩:=qk K S.q.length hl1;have HQJ:=ab hj1;have HJE:Hid (gG K S.q.length=gG K S.q.length):=ab rfl;generalize hj:gG K S.q.length=j at HQJ hj1 hj2;have HJ:=ab hj;obtain ⟨g,off,cc,mv,mu,e9,_,k0,k1,k2,k3,k4,hmsg⟩:=hq0.at j hj2;cases e9;generalize hmm:S.q[j]=m at *;have HMM:=ab hmm;obtain ⟨an,cn,e9,_⟩:=id hmsg.n;subst e9;obtain ⟨ub,bb,e9⟩:=fU hmsg.b;subst e9;have HMG:=ab hmsg;have HQ0:=ab hq0;have hl2:¬(S.q.length:Int)=0:=by omega
  have hj3:(j:Int)<(S.q.length:Int):=by omega
  clear hmm hj hj1 HJE hmsg hq0 hq3 hl0;go_upto_region 27 with (fail)
  go_cut [9] (λv wx=>v = .int .i64 (j:Int)/\∃nq,wx=W1.drewN nq)
  case first =>
   go_quiet (fail)
   go_wp2_with fail
   go_meet
   exact ⟨by rw [<-HQJ.out],nq,rfl⟩
  case rest =>
  obtain ⟨rfl,nq,rfl⟩:=hcut;go_upto_region 28 with (fail)
  have hb2:=ap W1 nq;have HS2:=ab (HS1.out.below hb2);have HMG2:=ab (HMG.out.below hb2);have M2:Hid (Mv A A Z Z w (W1.drewN nq)):=ab (M1.out.trans (Mv.below hb2));have HML2:Hid (M<(W1.drewN nq).heap.size):=ab HML.out;have hc3:(W1.drewN nq).cell? ⟨c,3,none⟩=some (.slice (some ⟨g,off,none⟩) S.q.length cq):=hc3;have k0:(W1.drewN nq).cell? ⟨g,off+j*5,none⟩=some (.int .i64 m.frm):=k0;have k1:(W1.drewN nq).cell? ⟨g,off+j*5+1,none⟩=some (.int .i64 m.dst):=k1;have k2:(W1.drewN nq).cell? ⟨g,off+j*5+2,none⟩=some (.int .i64 m.kind):=k2;have k3:(W1.drewN nq).cell? ⟨g,off+j*5+3,none⟩=some (.slice an m.N.length cn):=k3;have k4:(W1.drewN nq).cell? ⟨g,off+j*5+4,none⟩=some (.slice ub m.B.length bb):=k4;have hk0:(W1.drewN nq).cell? ⟨M,0,none⟩=some (.int .i64 2):=hk0;clear hb2 HS1 HMG HQ0 M1 HML;generalize W1.drewN nq=W2 at *;go_upto_region 29 with (fail)
  have hbw2:Below W2.heap.size W2 (W2.alloc (.cells #[.int .i64 m.frm,.int .i64 m.dst,.int .i64 m.kind,.slice an m.N.length cn,.slice ub m.B.length bb] 51)):=(aB _ _).alloc (ah _) _;have HBX:=ab (aJ W2 (.cells #[.int .i64 m.frm,.int .i64 m.dst,.int .i64 m.kind,.slice an m.N.length cn,.slice ub m.B.length bb] 51));have HS3:=ab (HS2.out.below hbw2);have HMG3:=ab (HMG2.out.below hbw2);have M3:Hid (Mv A A Z Z w (W2.alloc (.cells #[.int .i64 m.frm,.int .i64 m.dst,.int .i64 m.kind,.slice an m.N.length cn,.slice ub m.B.length bb] 51))):=ab (M2.out.trans (Mv.below hbw2));have hc3:(W2.alloc (.cells #[.int .i64 m.frm,.int .i64 m.dst,.int .i64 m.kind,.slice an m.N.length cn,.slice ub m.B.length bb] 51)).cell? ⟨c,3,none⟩=some (.slice (some ⟨g,off,none⟩) S.q.length cq):=cell_later hbw2 hc3;have hk0:(W2.alloc (.cells #[.int .i64 m.frm,.int .i64 m.dst,.int .i64 m.kind,.slice an m.N.length cn,.slice ub m.B.length bb] 51)).cell? ⟨M,0,none⟩=some (.int .i64 2):=cell_later hbw2 hk0;have HHA:Hid (W2.heap.size∉A):=ab (λhb=>by have:=HS2.out.alt _ hb;omega);have HMH:Hid (M≠W2.heap.size):=ab (by have:=HML2.out;omega);clear hbw2 k0 k1 k2 k3 k4 HS2 HMG2 M2 HML2;generalize W2.alloc (.cells #[.int .i64 m.frm,.int .i64 m.dst,.int .i64 m.kind,.slice an m.N.length cn,.slice ub m.B.length bb] 51)=W3 at *;generalize W2.heap.size=H at *;have HV:Hid (SyC W3.drew A Y c n S _ _ _ _ _ _ _ _ _ _):=ab (HS3.out.below (ap W3 1));have HC3V:Hid (W3.drew.cell? ⟨c,3,none⟩=some (.slice (some ⟨g,off,none⟩) S.q.length cq)):=ab hc3;have HC4:Hid ((W3.drew.alloc (.cells #[] 51)).cell? ⟨c,3,none⟩=some (.slice (some ⟨g,off,none⟩) S.q.length cq)):=ab (cell_later ((aB _ _).alloc (ah _) _) HC3V.out);have HLP:=ab (zl HV.out.q HV.out.yA HV.out.alt j hj2 HL2.out 35 35 #[]);have HCV:Hid (c∉[W3.drew.heap.size]):=ab (λhm=>by have:=HV.out.alt c (HV.out.yA c HV.out.cY);rw [aj.1 hm] at this;omega);have hjc:j<=cq:=by omega
  have hlb:=HL2.out;have q8:IntKind.i64.wrap ((j:Int)+1)=(j:Int)+1:=IntWalk.i64_in _ (by omega);have q9:((j:Int)+1).toNat=j+1:=by omega
  have q10:(0:Int)<=(j:Int)+1:=by omega
  have q11:j+1<=S.q.length:=by omega
  have q13:(j:Int)+1<=(S.q.length:Int):=by omega
  have q12:S.q.length<=cq:=hcq;have HLE:Hid (S.lose K={ S with q:=S.q.take j++S.q.drop (j+1)}):=ab (by unfold Mn.lose;rw [HJ.out]);have HE9:Hid (some (if cq=j+1 then (⟨g,off,none⟩:Addr) else (⟨g,off,none⟩:Addr).add ((j+1)*5))=(if cq=j+1 then some ⟨g,off,none⟩ else some ⟨g,off+(j+1)*5,none⟩)):=ab (by split<;>simp [Addr.add_lit]);clear hc3 hlb;go_upto_region 32 with (fail)
  go_cut [] (λwx=>SyP W3.drew wx A Z c n (S.lose K))
  case first =>
   as_aux_lemma =>
   refine wp_region_held_drew (S:=λ_=>True) (by kernel_rfl) trivial (λam=>?_);refine az 0 ?_;refine az 2 ?_;refine az 3 ?_;refine az 4 ?_;refine az 6 ?_;refine az 9 ?_;refine az 10 ?_;refine az 11 ?_;refine az 13 ?_;refine az 14 ?_;generalize W3.drew=V3 at *;refine vH 1 5 12 (λK hK=>?_) (λK hK=>?_) λK hK=>?_
   ·go_simp
    refine hK.out _ _ trivial (λam=>?_);clear hK K;refine bu ?_;generalize hV4:V3.alloc (.cells #[] 51)=V4 at *;clear hV4;obtain ⟨p1,n1,c1,W5,hr1,ho1,p2,n2,c2,W6,hr2,ho2,hqp⟩:=HLP.out.ex;have HQP:=ab hqp;have HO2:=ab ho2;rw [HE9.out] at hr2;have HR2:=ab hr2;have HK5:=ab (ho1.cell (HC4.out) HCV.out);clear hqp ho2 hr2;refine gJ 5 12 (λK hK=>?_) λK hK=>?_
    ·have hyl:=HC4.out;go_simp
     clear hyl;refine hK.out _ _ trivial (λam=>?_);clear hK K;refine bu ?_;refine az 7 ?_;exact xE
    ·have hyl:=HC4.out;go_simp
     clear hyl;refine hK.out _ _ trivial (λam=>?_);clear hK K;refine bu ?_;refine az 15 ?_;exact xC
   ·have hyl:=HC3V.out;go_simp
    clear hyl;refine hK.out _ _ trivial (λam=>?_);clear hK K;refine bu ?_;refine az 7 ?_;refine gJ 1 12 (λK hK=>?_) λK hK=>?_
    ·go_simp
     refine hK.out _ _ trivial (λam=>?_);clear hK K;refine bu ?_;generalize hV4:V3.alloc (.cells #[] 51)=V4 at *;clear hV4;obtain ⟨p1,n1,c1,W5,hr1,ho1,p2,n2,c2,W6,hr2,ho2,hqp⟩:=HLP.out.ex;have HQP:=ab hqp;have HO2:=ab ho2;rw [HE9.out] at hr2;have HR2:=ab hr2;have HK5:=ab (ho1.cell (HC4.out) HCV.out);clear hqp ho2 hr2;exact xE
    ·have hyl:=HC3V.out;go_simp
     clear hyl;refine hK.out _ _ trivial (λam=>?_);clear hK K;refine bu ?_;refine az 15 ?_;exact xD
   ·have hyl:=HC3V.out;go_simp
    clear hyl;refine hK.out _ _ trivial (λam=>?_);clear hK K;refine bu ?_;refine az 15 ?_;refine gJ 1 5 (λK hK=>?_) λK hK=>?_
    ·go_simp
     refine hK.out _ _ trivial (λam=>?_);clear hK K;refine bu ?_;generalize hV4:V3.alloc (.cells #[] 51)=V4 at *;clear hV4;obtain ⟨p1,n1,c1,W5,hr1,ho1,p2,n2,c2,W6,hr2,ho2,hqp⟩:=HLP.out.ex;have HQP:=ab hqp;have HO2:=ab ho2;rw [HE9.out] at hr2;have HR2:=ab hr2;have HK5:=ab (ho1.cell (HC4.out) HCV.out);clear hqp ho2 hr2;exact xC
    ·have hyl:=HC3V.out;go_simp
     clear hyl;refine hK.out _ _ trivial (λam=>?_);clear hK K;refine bu ?_;refine az 7 ?_;exact xD
  case rest =>
  obtain ⟨A7,Z7,h7,m7⟩:=hcut;rename World=>W7;have hk0:W7.cell? ⟨M,0,none⟩=some (.int .i64 2):=m7.mv.only.cell (show W3.drew.cell? _=_ from hk0) (λhm=>HMA.out (HZA.out _ hm));have MD:Hid (Mv A A Z Z w W3.drew):=ab (M3.out.trans (Mv.below (ap W3 1)));have HF:Hid (SyP w W7 A Z c n (S.lose K)):=ab (SyP.trans MD.out ⟨A7,Z7,h7,m7⟩);clear h7 m7;go_wp2_with fail
  go_end0
  exact ⟨rfl,HF.out⟩
end
end Go.Proofs.Ytnicaicjgaoolaa
