/- What the law leans on. No condition. -/
import Derived.Test.YtnhefallmioefaaGreatW0
import Derived.Test.YtnhefallmioefaaGreatW1
import Derived.Test.YtnhefallmioefaaGreatW5
import Derived.Test.YtnhefallmioefaaGreatW6
import Derived.Test.YtnhefallmioefaaGreatW4
set_option maxHeartbeats 8000000
set_option linter.unusedVariables false
set_option linter.unusedSimpArgs false
namespace Go.Proofs.YtnhefallmioefaaGreat
open Go.RowKit Go.ChangeMaps Go.WideMaps Go.Maps
set_option maxRecDepth 20000
theorem CB {p:Prop} (h:p:=by
 refine hK.out _ _ trivial (λaD=>?_);clear hK K;refine bX ?_;refine aJ 7 ?_;refine dh 8 λK hK=>?_;go_simp
 refine (HP.out _ TA.out _ HI4.out).mono ?_;rintro e w5 ⟨rfl,O8⟩;have Vo:=af O8;clear O8;go_wp2_with fail
 refine hK.out _ _ trivial (λaD=>?_);clear hK K;refine bX ?_;refine aJ 9 ?_;refine iX ?_;go_wp2_with fail
 go_meet
 exact ⟨by rfl,Vo.out⟩):p:=h
structure Yk (w w':World) (A X:List Nat) (r d l:Nat) (e:Ending) (p:List OM×Int×Rp×Dk):Prop where
 ex:∃v A' X',e = .returned (.tuple #[v,.int .i64 p.2.1])/\Nd w' A' X' r d l p.2.2.1 p.2.2.2/\PG w' A' w.heap.size v p.1/\Mv A A' X X' w w'/\∀b,v.ownBlock=some b->b∉A'
section
variable {w w':World} {A A' X X':List Nat} {r d l:Nat} {s s':Rp} {k k':Dk}
theorem Yk.none {z:Int} (h:Py w w' A X r d l s' k'):Yk w w' A X r d l (.returned (.tuple #[.slice none 0 0,.int .i64 z])) ([],z,s',k'):=JN
theorem xG (h:Nd w A X r d l s k) (hw:Wf s k) (ao:Option Addr) (n c:Nat) (rec:List UInt8) (hi:Qi w A (.slice ao n c) rec) (hn:n=rec.length) (Un:n<=1000000):Calls Tryz.prog 47 #[.pointer (some ⟨r,0,none⟩),.slice ao n c] w λe w'=>Yk w w' A X r d l e (bF s k rec):=by
 have HD:=af (ke h);have HXR:=af h.rX;have UO:Hid (rec.length=n):=af hn.symm;have HXA:=af (h.xA r h.rX);have HW:=af (iC hw);have HIM:=af hi;have H:=af h;by_cases h0:n=0
 ·have HE:Hid (bF s k rec=([],1,s,k)):=af (by unfold bF;rw [ay az]);clear h hw hi;exact KC
 ·by_cases h8:8000<n
  ·have HE:Hid (bF s k rec=([],2,s,k)):=af (by unfold bF;rw [am az,ay az]);have g8:(8000:Int)<(n:Int):=az;have g0:((n:Int)==0)=false:=gD;clear h hw hi;exact KC
  ·have HE:Hid (bF s k rec=(let s1:=bw s k
    if s1.done then ([],10,s1,k) else if !s1.Oy then ([],15,s1,k) else if 200<=jC s1\/2000<=s1.many then ([],9,s1,k) else
    let p:=gt s1 k ⟨s1.Ow,rec⟩
    if p.1 then (let s2:=(bZ p.2.1).2;(dB s2 (cF s2),0,s2,p.2.2)) else ([],10,p.2))):=af (by unfold bF;rw [am az,am az])
   have g8:¬(8000:Int)<(n:Int):=az;have g0:((n:Int)==0)=false:=gD
   (try simp only at HE)
   have hdd:(bw s k).done=eG s k:=rfl;clear h hw hi hn;generalize bw s k=s1 at *;go_enter Tryz.func47,Tryz.ntmps47
   go_wp2_with fail
   refine HD.out.mono ?_;rintro e w2 ⟨rfl,Pf,OZ⟩;have H2:=af Pf;have M2:=af (Mv.only (A:=A) OZ (by simpa using HXR.out));have HI2:=af (HIM.out.step OZ (by simpa using HXA.out) (Ext.refl _ _));obtain ⟨vl,gv,gn,gm,gh,hcell⟩:=Pf.cells;have Qh:w2.cell? ⟨r,11,none⟩=some (.bool s1.Oy):=iI;have YZ:w2.cell? ⟨r,10,none⟩=some (.int .i64 (s1.many:Int)):=iI;have Re:w2.cell? ⟨r,6,none⟩=some (.int .i64 s1.Ow):=iI;clear Pf OZ hcell;cases P5:eG s k with
   | true =>
    rw [ay (by rw [hdd,P5])] at HE;exact I6
   | false =>
    rw [am (by rw [hdd,P5];decide)] at HE;cases P9:s1.Oy with
    | false =>
     rw [P9] at Qh HE;rw [ay dZ] at HE;exact I6
    | true =>
     rw [P9] at Qh HE;rw [am dZ] at HE;have HOP:=af (DE H2.out HW.out.Rg (by have:=HW.out.QV;omega));generalize jC s1=om at *;by_cases Qq:200<=om\/2000<=s1.many
     ·rw [ay Qq] at HE;by_cases ho:200<=om
      ·have g2:(200:Int)<=(om:Int):=by omega
       clear Qq;go_wp2_with fail
       refine HOP.out.mono ?_;rintro e w3 ⟨rfl,hb3⟩;have Pk:=af hb3;exact L8
      ·have g2:¬(200:Int)<=(om:Int):=by omega
       have g3:(2000:Int)<=(s1.many:Int):=az;clear Qq;go_wp2_with fail
       refine HOP.out.mono ?_;rintro e w3 ⟨rfl,hb3⟩;have Pk:=af hb3;have hk10:=cell_later hb3 YZ;exact L8
     ·rw [am Qq] at HE;have g2:¬(200:Int)<=(om:Int):=az;have g3:¬(2000:Int)<=(s1.many:Int):=az;clear Qq;have Vn:=af Un;go_wp2_with fail
      refine HOP.out.mono ?_;rintro e W3 ⟨rfl,hb3⟩;have h3:Nd W3.drew A X r d l s1 k:=(H2.out.below hb3).below (aB W3 1);have M3:Hid (Mv A A X X w W3.drew):=af (M2.out.trans ((Mv.below hb3).trans (Mv.below (aB W3 1))));have hi3:Qi W3.drew A (.slice ao n c) rec:=(HI2.out.below hb3).below (aB W3 1);have hk10:=cell_later hb3 YZ;have hk6:=cell_later hb3 Re;have hkv6:W3.drew.cell? ⟨r,6,none⟩=some (.int .i64 s1.Ow):=hk6;have Xl:Hid (Pg W3.drew ao n c rec):=af (by
       obtain ⟨Wj,c',e,h1,_⟩:=hi3;rw [UO.out] at e h1;cases e;exact h1)
      have HAD:=af h3.alt;have hrl8:rec.length<=8000:=by rw [UO.out];omega
      have HP:Hid (∀W',Below W3.drew.heap.size W3.drew W'->∀u,Qi W' A u rec->Calls Tryz.prog 79 #[.pointer (some ⟨r,0,none⟩),.agg #[.int .i64 s1.Ow,u]] W' λe w'=>e = .returned (.bool (gt s1 k ⟨s1.Ow,rec⟩).1)/\Py w w' A X r d l (gt s1 k ⟨s1.Ow,rec⟩).2.1 (gt s1 k ⟨s1.Ow,rec⟩).2.2):=af (λW' hb u hu =>
       (zq (h3.below hb) HW.out ⟨s1.Ow,rec⟩ hrl8 u hu).mono (by rintro e w' ⟨q1,q2⟩;exact ⟨q1,q2.trans (M3.out.trans (Mv.below hb))⟩))
      have ZV:=af (qr HW.out ⟨s1.Ow,rec⟩ hrl8);have Zi:=af (nT (s:=s1) (k:=k) ⟨s1.Ow,rec⟩);have YO:s1.Oy=true:=P9;have Xk:=af YO;clear hb3 hi3 h3 hrl8 YZ Qh Re
      (try simp only at HE)
      generalize gt s1 k ⟨s1.Ow,rec⟩=p at *;obtain ⟨ok,s2,k2⟩:=p
      (try simp only at HE);(try simp only at HP);(try simp only at ZV);(try simp only at Zi)
      go_upto_region 11 with (fail)
      go_cut [43] (λv wx=>v = .bool (!ok)/\Py w wx A X r d l s2 k2)
      case first =>
       as_aux_lemma =>
       refine wp_region_held_drew (S:=λ_=>True) dW trivial (λaD=>?_);refine aJ 0 ?_;refine aJ 1 ?_;refine aJ 2 ?_;refine aJ 3 ?_;refine aJ 5 ?_;generalize W3.drew=V3 at *;refine mf 4 6 (λK hK=>?_) λK hK=>?_
       ·go_simp
        refine hK.out _ _ trivial (λaD=>?_);clear hK K;refine bX ?_;refine dh 6 λK hK=>?_;go_simp
        refine (F.dV ao n c rec _ Xl.out (by have:=Vn.out;omega)).mono ?_;rintro e w4 ⟨v4,rfl,Rb,hb4⟩;have HI4:=af (Qi.new Rb HAD.out);have TA:=af hb4;have hk4:=cell_later hb4 hkv6;obtain ⟨a4,c4,e4,_⟩:=id HI4.out;rw [UO.out] at e4;subst e4;clear Rb hb4;go_wp2_with fail
        exact CB
       ·go_simp
        refine (F.dV ao n c rec _ Xl.out (by have:=Vn.out;omega)).mono ?_;rintro e w4 ⟨v4,rfl,Rb,hb4⟩;have HI4:=af (Qi.new Rb HAD.out);have TA:=af hb4;have hk4:=cell_later hb4 hkv6;obtain ⟨a4,c4,e4,_⟩:=id HI4.out;rw [UO.out] at e4;subst e4;clear Rb hb4;go_wp2_with fail
        refine hK.out _ _ trivial (λaD=>?_);clear hK K;refine bX ?_;refine dh 4 λK hK=>?_;go_simp
        exact CB
      case rest =>
      obtain ⟨rfl,O8⟩:=hcut;have Vo:=af O8;clear O8;cases ok with
      | false =>
       rw [am bL] at HE;go_wp2_with fail
       go_ret2
       rw [HE.out];exact Yk.none Vo.out
      | true =>
       rw [ay rfl] at HE;obtain ⟨A2,X2,h5,m5⟩:=Vo.out;have H5:=af h5;have M5:=af m5;clear h5 m5;go_wp2_with fail
       refine (my H5.out ZV.out).mono ?_;rintro e w6 ⟨rfl,A3,X3,h6,m6⟩;have H6:=af h6;have M6:=af (M5.out.trans m6);have Zf:=af (gL ZV.out);have HL6:Hid ((bZ s2).2.Oy=true):=af (by
         obtain ⟨w0,d0,l0,e0⟩:=Zi.out;rw [kv,e0];exact Xk.out)
       clear h6 m6;generalize (bZ s2).1=ob at *;generalize (bZ s2).2=s3 at *;go_wp2_with fail
       refine (iA H6.out Zf.out.n5 Zf.out (λi _=>(Zf.out.lead HL6.out i).1)).mono ?_;rintro e w7 ⟨v7,rfl,WN,Yd⟩;have HF:Hid (Yk w w7 A X r d l (.returned (.tuple #[v7,.int .i64 0])) (dB s3 (cF s3),0,s3,k2)):=af ⟨v7,A3,X3,rfl,H6.out.below Yd,WN.mono M6.out.mv.only.size,M6.out.trans (Mv.below Yd),λb hb8 hm8=>by have:=(WN.lt b (by simp [hb8])).1;have:=H6.out.alt b hm8;omega⟩;clear WN Yd;go_wp2_with fail
       go_ret2
       rw [HE.out];exact HF.out
end
def SB (w:World) (A:List Nat) (v:Value) (l:List UInt8):Prop:=l.length=0\/Qi w A v l
section
variable {w w':World} {A X:List Nat} {r d l:Nat} {s:Rp} {k:Dk}
theorem SB.below {v:Value} {l:List UInt8} (h:SB w A v l) (hb:Below w.heap.size w w'):SB w' A v l:=h.imp id (λh=>h.below hb)
theorem SB.step {A' S:List Nat} {v:Value} {l:List UInt8} (h:SB w A v l) (ho:Only S w w') (hS:∀b∈S,b∈A) (he:Ext A A' w):SB w' A' v l:=h.imp id (λh=>h.step ho hS he)
theorem Db (h:Nd w A X r d l s k) (hw:Wf s k) (ao:Option Addr) (n c:Nat) (rec:List UInt8) (hi:SB w A (.slice ao n c) rec) (hn:n=rec.length) (Un:n<=1000000):Calls Tryz.prog 47 #[.pointer (some ⟨r,0,none⟩),.slice ao n c] w λe w'=>Yk w w' A X r d l e (bF s k rec):=by
 rcases hi with hi | hi
 ·have HE:Hid (bF s k rec=([],1,s,k)):=af (by unfold bF;rw [ay hi]);have H:=af h;have hn0:n=0:=az;clear h hw hn hi;exact KC
 ·exact xG h hw ao n c rec hi hn Un
end
def gq (p:List OM×Int×Rp×Dk):List OM×Rp×Dk:=(p.1,p.2.2.1,p.2.2.2)
section
variable {w w':World} {A A' X Y Y' Z Z':List Nat} {g n:Nat} {S:Mn} {es es':Pn} {os rs ds ls:Nat->Nat} {Xs:Nat->List Nat} {vl:Value} {nb mb Q8:Nat} {qv lv TW pn:Value} {q':List OM} {r d l:Nat} {s:Rp} {k:Dk}
theorem PZ.turnS {p:List OM×Int×Rp×Dk} {e:Ending} {i:Nat} (h:PZ w A Y g n S es os rs ds ls Xs vl nb mb qv lv) (hz:∀b,b∈Z↔b∈Y\/∃i,i<n/\b∈Xs i) (hi:i<n) (hu:(S.at i).up=true) (hp:Yk w w' A (Xs i) (rs i) (ds i) (ls i) e p) :
  ∃v A' Z',e = .returned (.tuple #[v,.int .i64 p.2.1])/\Gy w' A' Z' g n (S.set i ⟨(gq p).2.1,(gq p).2.2,true⟩) es/\QD w' A' v (gq p).1/\Mv A A' Z Z' w w':=by
 obtain ⟨v,A',X',rfl,hn,Rn,m,hv⟩:=hp;have hx:=hn.xA;have ha:=hn.alt;have hc:=h.call hi m (nd:=⟨p.2.2.1,p.2.2.2,true⟩) ⟨λ_=>hn,(λe=>by cases e),hx⟩ hu.symm ha;exact Mi
theorem yz (h:Gy w A Z g n S es) (i:Nat) (hi:i<n) (hq:S.q.length<=2000) (hU:p9 n S) (hu:(S.at i).up=true) (ao:Option Addr) (bn bc:Nat) (rec:List UInt8) (Qz:SB w A (.slice ao bn bc) rec) (hbn:bn=rec.length) (Un:bn<=1000000)
  (hg:z6 n (gq (bF (S.at i).s (S.at i).k rec)).1) (hU2:p9 n (S.set i ⟨(gq (bF (S.at i).s (S.at i).k rec)).2.1,(gq (bF (S.at i).s (S.at i).k rec)).2.2,true⟩)) :
  Calls Tryz.prog 26 #[.pointer (some ⟨g,0,none⟩),.int .i64 (i:Int),.slice ao bn bc] w λe w'=>e = .returned (.bool ((bF (S.at i).s (S.at i).k rec).2.1==0))/\Px w w' A Z g n (S.SS n es i (gq (bF (S.at i).s (S.at i).k rec))) es:=by
 generalize hsp:bF (S.at i).s (S.at i).k rec=sp at *;obtain ⟨Y,os,rs,ds,ls,Xs,vl,nb,mb,qv,lv,h,hz⟩:=h;have HU:=af (lk h i hi hu (hU i hi hu).2);obtain ⟨gl,cr,rfl,Vk,hrow⟩:=h.Ss az;have HZ:=af hz;have Wq:Hid (∀w2,PZ w2 A Y g n S es os rs ds ls Xs (.slice (some ⟨gl,0,none⟩) n cr) nb mb qv lv->SB w2 A (.slice ao bn bc) rec->Calls Tryz.prog 47 #[.pointer (some ⟨rs i,0,none⟩),.slice ao bn bc] w2 λe w'=>Yk w2 w' A (Xs i) (rs i) (ds i) (ls i) e sp):=af λw2 h2 Qz=>hsp ▸ Db ((h2.node i hi).up hu) (hU i hi hu).1 ao bn bc rec Qz hbn Un;have Xf:Hid (∀w2 w3 e,PZ w2 A Y g n S es os rs ds ls Xs (.slice (some ⟨gl,0,none⟩) n cr) nb mb qv lv->Yk w2 w3 A (Xs i) (rs i) (ds i) (ls i) e sp->∃v A' Z',e = .returned (.tuple #[v,.int .i64 sp.2.1])/\Gy w3 A' Z' g n (S.set i ⟨(gq sp).2.1,(gq sp).2.2,true⟩) es/\QD w3 A' v (gq sp).1/\Mv A A' Z Z' w2 w3):=af λw2 w3 e h2 hp=>h2.turnS HZ.out hi hu hp;have Xg:Hid (∀w3 A' Z' v,Gy w3 A' Z' g n (S.set i ⟨(gq sp).2.1,(gq sp).2.2,true⟩) es->QD w3 A' v (gq sp).1->Calls Tryz.prog 37 #[.pointer (some ⟨g,0,none⟩),v] w3 λe w'=>e = .returned (.tuple #[])/\Px w3 w' A' Z' g n (S.SS n es i (gq sp)) es):=af λw3 A' Z' v h3 hr=>pr h3 hq v hr hg hU2 az;have Ww:Hid (∀w2,PZ w2 A Y g n S es os rs ds ls Xs (.slice (some ⟨gl,0,none⟩) n cr) nb mb qv lv->w2.cell? ⟨g,0,none⟩=some (.slice (some ⟨gl,0,none⟩) n cr)/\w2.cell? ⟨gl,i,none⟩=some (.pointer (some ⟨os i,0,none⟩))/\w2.cell? ⟨os i,1,none⟩=some (.pointer (some ⟨rs i,0,none⟩))):=af λw2 h2=>GU;have HIM:=af Qz;have HRA:=af ((h.node i hi).xA);have O9:(i:Int)<(n:Int):=az;clear hsp h hz hrow hU hu hg hU2 hq Qz hbn Un;go_enter Tryz.func26,Tryz.ntmps26
 go_wp2_with fail
 refine HU.out.mono ?_;rintro e w2 ⟨rfl,hc2,OZ,Tt⟩;have TU:Hid (Mv A A Z Z w w2):=af (Mv.only OZ (λb hb=>by rw [aj.1 hb];exact (HZ.out _).2 (.inr ⟨i,hi,Tt⟩)));obtain ⟨k0,k1,k2⟩:=Ww.out w2 hc2;have HT2:=af (Wq.out w2 hc2 (HIM.out.step OZ (λb hb=>by rw [aj.1 hb];exact HRA.out _ Tt) (Ext.refl _ _)));exact MX
theorem rm (h:Gy w A Z g n S es) (x:Int) (ao:Option Addr) (bn bc:Nat) (hx:(decide (0<=x)&&decide (x<(n:Int)))=false\/∃i:Nat,i<n/\x=(i:Int)/\(S.at i).up=false) :
  Calls Tryz.prog 26 #[.pointer (some ⟨g,0,none⟩),.int .i64 x,.slice ao bn bc] w λe w'=>e = .returned (.bool false)/\w=w':=by
 obtain ⟨Y,os,rs,ds,ls,Xs,vl,nb,mb,qv,lv,h,hz⟩:=h;have HU:Hid (Calls Tryz.prog 13 #[.pointer (some ⟨g,0,none⟩),.int .i64 x] w λe w'=>e = .returned (.bool false)/\w=w'):=af (by
  rcases hx with hx | ⟨i,hi,rfl,hu⟩
  ·exact um h x hx
  ·exact iL h i hi hu)
 clear h hz hx;go_enter Tryz.func26,Tryz.ntmps26
 go_wp2_with fail
 refine HU.out.mono ?_;rintro e w1 ⟨rfl,rfl⟩;exact oK
end
structure Gr (s s':Rp):Prop where
 Rg:s.agreed<=s'.agreed
 pre:s'.Oz.take s.agreed=s.Oz.take s.agreed
 SC:s'.lives=s.lives
theorem Gr.refl (s:Rp):Gr s s:=⟨ah _,rfl,rfl⟩
theorem Gr.trans {a b c:Rp} (h:Gr a b) (g:Gr b c):Gr a c:=by
 refine ⟨aF h.Rg g.Rg,?_,g.SC.trans h.SC⟩;have:=congrArg (List.take a.agreed) g.pre;rw [dv,dv,bT h.Rg] at this;rw [this,h.pre]
theorem Gr.of {s s':Rp} (h1:s'.agreed=s.agreed) (h2:s'.Oz=s.Oz) (h3:s'.lives=s.lives):Gr s s':=⟨by rw [h1];exact ah _,by rw [h2],h3⟩
theorem Gr.from {a b c:Rp} (h:Gr b c) (h1:b.agreed=a.agreed) (h2:b.Oz=a.Oz) (h3:b.lives=a.lives):Gr a c:=⟨by rw [<-h1];exact h.Rg,by rw [<-h1,<-h2];exact h.pre,h.SC.trans h3⟩
structure Qt (s:Rp):Prop where
 Oz:∀x∈s.Oz,x.bs=[]
 dsk:∀b∈s.wl.recs,b.length<=32
def F4 (m:OM):Prop:=∀b∈m.B,b=[]
structure St (s:Rp) (p:List OM×Rp×Dk):Prop where
 gr:Gr s p.2.1
 qt:Qt s->Qt p.2.1/\∀m∈p.1,F4 m
section
variable {s s':Rp} {k k':Dk}
theorem St.none (h1:Gr s s') (h2:Qt s->Qt s'):St s ([],s',k'):=⟨h1,λh=>⟨h2 h,λm hm=>by cases hm⟩⟩
theorem Qt.of (h:Qt s) (h1:s'.Oz=s.Oz) (h2:s'.wl.recs=s.wl.recs):Qt s':=⟨by rw [h1];exact h.Oz,by rw [h2];exact h.dsk⟩
theorem St.pre {a b:Rp} {p:List OM×Rp×Dk} (h:St b p) (h1:Gr a b) (h2:Qt a->Qt b):St a p:=⟨h1.trans h.gr,λq=>h.qt (h2 q)⟩
theorem lG (b:List UInt8):(bQ s k b).1.Oz=s.Oz/\(bQ s k b).1.agreed=s.agreed/\(bQ s k b).1.lives=s.lives:=by
 rw [fj];exact ⟨rfl,rfl,rfl⟩
theorem jc:(cO s k).1.Oz=s.Oz/\(cO s k).1.agreed=s.agreed/\(cO s k).1.lives=s.lives:=by
 rw [fQ];exact ⟨rfl,rfl,rfl⟩
theorem Ab (h:∀b∈s.wl.recs,b.length<=32) (b:List UInt8) (hb:b.length<=32):∀x∈(bQ s k b).1.wl.recs,x.length<=32:=by
 intro x hx;rcases mj (s:=s) (k:=k) b with ⟨_,_,e⟩ | ⟨_,e⟩
 ·grind
 ·rw [e] at hx;exact h x hx
theorem vq (h:Qt s) (b:List UInt8) (hb:b.length<=32):Qt (bQ s k b).1:=⟨by rw [(lG b).1];exact h.Oz,Ab h.dsk b hb⟩
theorem tV (h:Qt s):Qt (cO s k).1:=h.of jc.1 oT.1
theorem ry (Ow who:Int):Gr s (bB s k Ow who).2.1/\(Qt s->Qt (bB s k Ow who).2.1):=by
 have h1:=lG (s:=s) (k:=k) (ez Ow who);have h2:Qt s->Qt (bQ s k (ez Ow who)).1:=λq=>vq q _ (by rw [jX];omega);unfold bB;generalize bQ s k (ez Ow who)=p at *;simp only;split
 ·exact ⟨Gr.of h1.2.1 h1.1 h1.2.2,h2⟩
 ·have h3:=jc (s:=p.1) (k:=p.2);have h4:Qt p.1->Qt (cO p.1 p.2).1:=tV;generalize cO p.1 p.2=q at *;split
  ·grind [Gr.of]
  ·exact ⟨Gr.of (h3.2.1.trans h1.2.1) (h3.1.trans h1.1) (h3.2.2.trans h1.2.2),λq=>(h4 (h2 q)).of rfl rfl⟩
theorem vt (p:Nat) (x:Po) (hp:s.agreed<=p) (hp2:p<=s.Oz.length):Gr s (cR s k p x).2.1/\(Qt s->x.bs=[]->Qt (cR s k p x).2.1)/\(cR s k p x).2.1.agreed=s.agreed:=by
 have h1:=lG (s:=s) (k:=k) (dY p x);have h2:Qt s->x.bs=[]->Qt (bQ s k (dY p x)).1:=λq e=>vq q _ (by rw [i7,e];simp);unfold cR;generalize bQ s k (dY p x)=q at *;simp only;split
 ·grind [Gr.of]
 ·refine ⟨⟨by show s.agreed<=q.1.agreed;rw [h1.2.1];exact ah _,?_,h1.2.2⟩,λh e=>⟨λy hy=>?_,(h2 h e).dsk⟩,h1.2.1⟩
  ·grind
  ·rcases aA.1 hy with h3 | h3
   ·exact (h2 h e).Oz y (fK h3)
   ·rw [aj.1 h3];exact e
theorem Dw (x:Po) (ha:s.agreed<=s.Oz.length):Gr s (gt s k x).2.1/\(Qt s->x.bs=[]->Qt (gt s k x).2.1):=by
 have h:=vt (s:=s) (k:=k) s.Oz.length x ha (ah _);unfold gt;generalize cR s k s.Oz.length x=q at *;simp only;split
 ·have h3:=jc (s:=q.2.1) (k:=q.2.2);exact ⟨h.1.trans (Gr.of h3.2.1 h3.1 h3.2.2),λa b=>tV (h.2.1 a b)⟩
 ·exact ⟨h.1,h.2.1⟩
theorem xj (n:Nat):Gr s (cI s n)/\(cI s n).Oz=s.Oz/\(cI s n).wl=s.wl:=by
 unfold cI;split
 ·exact ⟨⟨by show s.agreed<=n;omega,rfl,rfl⟩,rfl,rfl⟩
 ·exact ⟨Gr.refl _,rfl,rfl⟩
theorem jQ:Gr s (bZ s).2/\(bZ s).2.Oz=s.Oz/\(bZ s).2.wl=s.wl:=by
 unfold bZ;simp only;split
 ·rename_i m _;have h:=xj (s:={ s with OE:=s.OE.set s.own s.Oz.length }) m;exact ⟨h.1.from rfl rfl rfl,h.2.1,h.2.2⟩
 ·exact ⟨Gr.of rfl rfl rfl,rfl,rfl⟩
theorem AH (h:Qt s):Qt (bZ s).2:=h.of jQ.2.1 (by rw [jQ.2.2])
theorem mI (h:Qt s) (d:Nat):F4 (cF s d):=by
 intro b hb;obtain ⟨x,hx,rfl⟩:=d7.1 hb;exact h.Oz x (gV (fK hx))
theorem kz (d kd:Int) (N:List Int):F4 (dQ s d kd N):=λb hb=>by cases hb
theorem mH (h:Qt s):∀m∈dB s (cF s),F4 m:=λm hm=>by
 obtain ⟨i,_,_,rfl⟩:=jD _ _ hm;exact mI h i
theorem pL (kind:Int):∀m∈dB s (br s kind),F4 m:=λm hm=>by
 obtain ⟨i,_,_,rfl⟩:=jD _ _ hm;exact kz _ _ _
theorem zf (ha:s.agreed<=s.Oz.length):St s (hJ s k):=by
 have h:=Dw (s:={ s with Oy:=true,next:=List.replicate s.n s.Oz.length,OE:=List.replicate s.n 0 }) (k:=k) ⟨s.Ow,[]⟩ ha;unfold hJ;simp only;generalize gt { s with Oy:=true,next:=List.replicate s.n s.Oz.length,OE:=List.replicate s.n 0 } k ⟨s.Ow,[]⟩=p at *;have h0:Gr s p.2.1:=h.1.from rfl rfl rfl;split
 ·refine ⟨h0.trans jQ.1,λq=>?_⟩;have q2:=AH (h.2 (q.of rfl rfl) rfl);exact ⟨q2,mH q2⟩
 ·exact St.none h0 λq=>h.2 (q.of rfl rfl) rfl
theorem th (Ow who:Int):(bB s k Ow who).2.1.agreed=s.agreed/\(bB s k Ow who).2.1.Oz=s.Oz:=by
 grind [lG,ez,bB,bQ,jc,cO]
theorem Df (ha:s.agreed<=s.Oz.length):St s (gZ s k):=by
 unfold gZ;split
 ·exact St.none (Gr.refl _) id
 ·have h:=ry (s:=s) (k:=k) (s.Ow+1) (s.own:Int);have hl:=th (s:=s) (k:=k) (s.Ow+1) (s.own:Int);generalize bB s k (s.Ow+1) (s.own:Int)=p at *;simp only;split
  ·have e:Gr s { p.2.1 with Ox:=0,OB:=(List.replicate s.n false).set s.own true }:=h.1.trans (Gr.of rfl rfl rfl);have eq:Qt s->Qt { p.2.1 with Ox:=0,OB:=(List.replicate s.n false).set s.own true }:=λq=>(h.2 q).of rfl rfl;split
   ·exact (zf (by show p.2.1.agreed<=p.2.1.Oz.length;rw [hl.1,hl.2];exact ha)).pre e eq
   ·exact ⟨e,λq=>⟨eq q,pL 1⟩⟩
  ·exact St.none h.1 h.2
theorem Gq (h:Wf s k):St s (eM s k):=by
 unfold eM;simp only;split
 ·exact D9
 ·split
  ·exact ⟨Gr.of rfl rfl rfl,λq=>⟨q.of rfl rfl,mH (q.of rfl rfl)⟩⟩
  ·split
   ·exact (Df (by exact h.Rg)).pre (Gr.of rfl rfl rfl) (λq=>q.of rfl rfl)
   ·split
    ·exact ⟨Gr.of rfl rfl rfl,λq=>⟨q.of rfl rfl,pL 5⟩⟩
    ·exact D9
theorem BE (h:Wf s k) (rec:List UInt8):Gr s (bF s k rec).2.2.1:=by
 unfold bF;by_cases h1:rec.length=0
 ·rw [ay h1];exact Gr.refl _
 rw [am h1];by_cases h2:8000<rec.length
 ·rw [ay h2];exact Gr.refl _
 rw [am h2];by_cases h3:(bw s k).done=true
 ·rw [ay h3];exact Gr.of rfl rfl rfl
 rw [am h3];by_cases h4:(!(bw s k).Oy)=true
 ·rw [ay h4];exact Gr.of rfl rfl rfl
 rw [am h4];by_cases h5:200<=jC (bw s k)\/2000<=(bw s k).many
 ·rw [ay h5];exact Gr.of rfl rfl rfl
 rw [am h5];have hp:=Dw (s:=bw s k) (k:=k) ⟨(bw s k).Ow,rec⟩ (by exact h.Rg);generalize gt (bw s k) k ⟨(bw s k).Ow,rec⟩=p at *;have h0:Gr s p.2.1:=hp.1.from rfl rfl rfl;by_cases h6:p.1=true
 ·rw [ay h6];exact h0.trans jQ.1
 ·rw [am h6];exact h0
theorem Dg (m:OM):St s (eX s k m):=by
 unfold eX;split
 ·simp only;split
  ·split
   ·have h:=ry (s:=s) (k:=k) s.Ow m.OD;generalize bB s k s.Ow m.OD=p at *;split
    ·exact ⟨h.1.trans (Gr.of rfl rfl rfl),λq=>⟨(h.2 q).of rfl rfl,λx hx=>by rw [aj.1 hx];exact kz _ _ _⟩⟩
    ·exact St.none h.1 h.2
   ·exact ⟨Gr.of rfl rfl rfl,λq=>⟨q.of rfl rfl,λx hx=>by rw [aj.1 hx];exact kz _ _ _⟩⟩
  ·exact ⟨Gr.refl _,λq=>⟨q,λx hx=>by rw [aj.1 hx];exact kz _ _ _⟩⟩
 ·exact St.none (Gr.refl _) id
theorem De (ha:s.agreed<=s.Oz.length) (m:OM):St s (fS s k m):=by
 unfold fS;split
 ·exact St.none (Gr.refl _) id
 ·simp only;split
  ·exact (zf (by exact ha)).pre (Gr.of rfl rfl rfl) (λq=>q.of rfl rfl)
  ·exact D9
theorem EI (f:Nat) (l:List (Int×List UInt8)):∀(i:Nat) (s:Rp) (k:Dk),f+i<=s.Oz.length ->
  Gr s (bH f l i s k).2.1/\(Qt s->(∀x∈l,x.2=[])->Qt (bH f l i s k).2.1):=by
 induction l with
 | nil=>intro i s k _;exact ⟨Gr.refl _,λq _=>q⟩
 | cons a l ih =>
  intro i s k hf;obtain ⟨t,rec⟩:=a;unfold bH;by_cases h1:f+i<s.Oz.length/\(s.Oz.map Po.Ow).getD (f+i) 0=t
  ·grind
  ·rw [am h1];by_cases h2:8000<rec.length\/t<1\/s.Ow<t\/f+i<s.agreed
   ·grind [Gr.refl]
   ·rw [am h2];have hs:=vt (s:=s) (k:=k) (f+i) ⟨t,rec⟩ az hf;have hg:=mJ (s:=s) (k:=k) (f+i) ⟨t,rec⟩;generalize cR s k (f+i) ⟨t,rec⟩=p at *;by_cases h3:p.1=true
    ·rw [ay h3];have hlen:p.2.1.Oz.length=f+i+1:=D0;have h4:=ih (i+1) p.2.1 p.2.2 az;exact ⟨hs.1.trans h4.1,λq e=>h4.2 (hs.2.1 q (e _ bd)) (λx hx=>e x (aM _ hx))⟩
    ·simp_all
structure StM (s:Rp) (m:OM) (p:List OM×Rp×Dk):Prop where
 gr:Gr s p.2.1
 qt:Qt s->F4 m->Qt p.2.1/\∀m∈p.1,F4 m
theorem St.m {p:List OM×Rp×Dk} (h:St s p) (m:OM):StM s m p:=⟨h.gr,λq _=>h.qt q⟩
theorem StM.pre {a b:Rp} {m:OM} {p:List OM×Rp×Dk} (h:StM b m p) (h1:Gr a b) (h2:Qt a->Qt b):StM a m p:=⟨h1.trans h.gr,λq e=>h.qt (h2 q) e⟩
theorem Gu (m:OM):StM s m (eA s k m):=by
 unfold eA;by_cases hb:(!(m.N.length==4+m.B.length)||decide (m.N.getD 1 0<0)||(m.N.getD 0 0==s.Ow&&s.Oy))=true
 ·rw [ay hb];exact (St.none (Gr.refl _) id).m m
 rw [am hb];by_cases h1:m.N.getD 0 0<s.Ow
 ·rw [ay h1];exact St.m (p:=([dQ s m.OD 4 [s.Ow,0,0]],s,k)) ⟨Gr.refl _,λq=>⟨q,λx hx=>by rw [aj.1 hx];exact kz _ _ _⟩⟩ m
 rw [am h1];simp only;by_cases SJ:fN { s with Ox:=0 } (m.N.getD 1 0) (m.N.getD 2 0)=true
 ·rw [ay SJ];have Rh:(m.N.getD 1 0).toNat<=s.Oz.length:=Kv;have hF:=EI (m.N.getD 1 0).toNat ((m.N.drop 4).zip m.B) 0 { s with Ox:=0 } k Rh;have hz:F4 m->∀x∈(m.N.drop 4).zip m.B,x.2=[]:=λq x hx=>q x.2 (List.of_mem_zip hx).2;generalize bH (m.N.getD 1 0).toNat ((m.N.drop 4).zip m.B) 0 { s with Ox:=0 } k=p at *;have g0:Gr s p.2.1:=hF.1.from rfl rfl rfl;have q0:Qt s->F4 m->Qt p.2.1:=λq e=>hF.2 (q.of rfl rfl) (hz e);by_cases hp:p.1=true
  ·rw [ay hp];have hq:∃q:Rp×Dk,q=(if m.B.length=0 then p.2 else cO p.2.1 p.2.2)/\Gr s q.1/\(Qt s->F4 m->Qt q.1):=by
    by_cases h2:m.B.length=0
    ·rw [ay h2];exact ⟨_,rfl,g0,q0⟩
    ·rw [am h2];exact ⟨_,rfl,g0.trans (Gr.of jc.2.1 jc.1 jc.2.2),λa b=>tV (q0 a b)⟩
   obtain ⟨q,hqe,hg,hqq⟩:=hq;rw [<-hqe];split
   ·exact ⟨hg,λa b=>⟨hqq a b,λx hx=>by cases hx⟩⟩
   ·have QJ:=xj (s:=q.1) (min (m.N.getD 3 0) (((m.N.getD 1 0).toNat+m.B.length:Nat):Int)).toNat;exact ⟨hg.trans QJ.1,λa b=>⟨(hqq a b).of QJ.2.1 (by rw [QJ.2.2]),λx hx=>by rw [aj.1 hx];exact kz _ _ _⟩⟩
  ·rw [am hp];exact ⟨g0,λa b=>⟨q0 a b,λx hx=>by cases hx⟩⟩
 ·rw [am SJ];exact ⟨Gr.of rfl rfl rfl,λq _=>⟨q.of rfl rfl,λx hx=>by rw [aj.1 hx];exact kz _ _ _⟩⟩
theorem vf (m:OM):St s ((cG s m).1,(cG s m).2,k):=by
 unfold cG;by_cases hb:(!s.Oy || !(m.N.getD 0 0==s.Ow) || !(m.N.length==3)||decide (m.N.getD 2 0<0)||decide ((s.Oz.length:Int)<m.N.getD 2 0))=true
 ·grind [St.none,Gr.refl]
 rw [am hb];simp only;by_cases h1:m.N.getD 1 0=0
 ·rw [ay h1];split
  ·exact St.none (Gr.refl _) id
  ·exact ⟨Gr.of rfl rfl rfl,λq=>⟨q.of rfl rfl,λx hx=>by rw [aj.1 hx];exact mI (s:={ s with next:=s.next.set m.OD.toNat (max (m.N.getD 2 0).toNat (s.OE.getD m.OD.toNat 0))}) (q.of rfl rfl) _⟩⟩
 ·rw [am h1];split
  ·exact St.none (Gr.refl _) id
  ·have hst:=jQ (s:={ s with OE:=s.OE.set m.OD.toNat (m.N.getD 2 0).toNat,next:=s.next.set m.OD.toNat (max (m.N.getD 2 0).toNat (s.next.getD m.OD.toNat 0))});generalize bZ { s with OE:=s.OE.set m.OD.toNat (m.N.getD 2 0).toNat,next:=s.next.set m.OD.toNat (max (m.N.getD 2 0).toNat (s.next.getD m.OD.toNat 0))}=p at *;have g0:Gr s p.2:=hst.1.from rfl rfl rfl;have q0:Qt s->Qt p.2:=λq=>q.of hst.2.1 (by rw [hst.2.2]);split
   ·exact ⟨g0,λq=>⟨q0 q,mH (q0 q)⟩⟩
   ·split
    ·exact ⟨g0,λq=>⟨q0 q,λx hx=>by rw [aj.1 hx];exact mI (q0 q) _⟩⟩
    ·exact St.none g0 q0
theorem Kd (h:Wf s k) (m:OM):StM s m (gJ s k m):=by
 unfold gJ;by_cases hb:((bw s k).done||pD (bw s k) m)=true
 ·rw [ay hb];exact ⟨Gr.of rfl rfl rfl,λq _=>⟨q.of rfl rfl,λx hx=>by cases hx⟩⟩
 rw [am hb];have hp:∃p:Bool×Rp×Dk,p=(if (bw s k).Ow<m.N.getD 0 0 then bB (bw s k) k (m.N.getD 0 0) (-1) else (true,bw s k,k))/\Gr s p.2.1/\(Qt s->Qt p.2.1)/\p.2.1.agreed<=p.2.1.Oz.length:=by
  by_cases ht:(bw s k).Ow<m.N.getD 0 0
  ·rw [ay ht];have he:=ry (s:=bw s k) (k:=k) (m.N.getD 0 0) (-1);have ha:=th (s:=bw s k) (k:=k) (m.N.getD 0 0) (-1);exact ⟨_,rfl,he.1.from rfl rfl rfl,λq=>he.2 (q.of rfl rfl),by rw [ha.1,ha.2];exact h.Rg⟩
  ·rw [am ht];exact ⟨_,rfl,Gr.of rfl rfl rfl,λq=>q.of rfl rfl,h.Rg⟩
 obtain ⟨p,hpe,hg,hq,ha⟩:=hp;rw [<-hpe];by_cases h1:p.1=true
 ·rw [ay h1];split
  ·exact ((Dg m).m m).pre hg hq
  ·split
   ·exact ((De ha m).m m).pre hg hq
   ·split
    ·exact (Gu m).pre hg hq
    ·split
     ·exact ((vf m).m m).pre hg hq
     ·split
      ·split
       ·exact ⟨hg.trans (Gr.of rfl rfl rfl),λq _=>⟨(hq q).of rfl rfl,λx hx=>by cases hx⟩⟩
       ·exact (St.none hg hq).m m
      ·exact (St.none hg hq).m m
 ·rw [am h1];exact (St.none hg hq).m m
end
section -- Sy2
section
variable {w w':World} {A A' Y Z Z':List Nat} {c n:Nat} {S:Mn} {rs ds ls:Nat->Nat} {Xs:Nat->List Nat} {vr vd:Value} {gu:Nat} {qv gv lv:Value}
def Mn.send (S:Mn) (ms:List OM):Mn:={ S with q:=ms.foldl gF S.q }
end
end
section -- SySend
section
variable {w w':World} {A A' Y Z Z':List Nat} {c n:Nat} {S:Mn} {rs ds ls:Nat->Nat} {Xs:Nat->List Nat} {vr vd:Value} {gu:Nat} {qv gv lv:Value}
end
end
section -- SyBring
section
variable {w w':World} {A A' Y Z Z':List Nat} {c n:Nat} {S:Mn} {rs ds ls:Nat->Nat} {Xs:Nat->List Nat} {vr vd:Value} {gu:Nat} {qv gv lv:Value}
end
end
section -- SyM
structure SInv (n cl:Nat) (S:Mn):Prop where
 nl:S.nodes.length=n
 id:∀i,i<n->(S.at i).s.own=i/\(S.at i).s.n=n
 wf:∀i,i<n->(S.at i).up=true->Wf (S.at i).s (S.at i).k/\(S.at i).s.OA<=cl
 q:∀m∈S.q,∃fr,fr<n/\RP fr n m
 ql:S.q.length<=2000
section
variable {n cl:Nat} {S:Mn}
theorem SInv.mono {cl':Nat} (h:SInv n cl S) (hc:cl<=cl'):SInv n cl' S:=⟨h.nl,h.id,λi hi hu=>⟨(h.wf i hi hu).1,aF (h.wf i hi hu).2 hc⟩,h.q,h.ql⟩
end
end
section -- SyCalm
section
variable {w w':World} {A A' Y Z Z':List Nat} {c n cl:Nat} {S:Mn} {rs ds ls:Nat->Nat} {Xs:Nat->List Nat} {vr vd:Value} {gu:Nat} {qv gv lv:Value}
end
end
section -- SyBegun
def LJ:Dk:=⟨1048576,false,1,none⟩
def DL (n j:Nat):Wo:=⟨dX j n 1 [],LJ,true⟩
def Mn.begun (n:Nat):Mn:={ nodes:=(List.range n).map (DL n),q:=[],long:=[],bad:=false,gn:=0 }
theorem ic (n j:Nat) (h:j<n):(Mn.begun n).at j=DL n j:=by
 unfold Mn.begun Mn.at;simp [aL,h]
section
variable {w w':World} {A A' Y Z Z':List Nat} {c n i:Nat} {S:Mn} {rs ds ls:Nat->Nat} {Xs:Nat->List Nat} {vr vd:Value} {gu:Nat} {qv gv lv:Value}
section
variable {W V V':World} {T:List Nat} {C n gu:Nat} {vr vd cr cd xr xd:Value} {nr nd:Nat} {lr ld:List Value}
end
end
end
section -- SyDo1
section
variable {w w':World} {A A' Y Z Z':List Nat} {c n cl:Nat} {S:Mn} {rs ds ls:Nat->Nat} {Xs:Nat->List Nat} {vr vd:Value} {gu:Nat} {qv gv lv:Value}
end
end
section -- SyQ
section
variable {w w':World} {A A' Y Z Z':List Nat} {c n cl:Nat} {S:Mn}
end
end
section -- SyDo4
def Mn.Qm (S:Mn) (i:Nat) (keep:Int):Mn:=S.set i ⟨(S.at i).s,dI (S.at i).k keep,false⟩
section
variable {w w':World} {A A' Y Z Z':List Nat} {c n cl:Nat} {S:Mn} {rs ds ls:Nat->Nat} {Xs:Nat->List Nat} {vr vd:Value} {gu:Nat} {qv gv lv:Value}
end
end
section -- SyDo5
def Mn.back (S:Mn) (n i:Nat):Mn:=if (S.at i).up then S else S.set i ⟨f9 i n (S.at i).s (S.at i).k,gb (S.at i).s (S.at i).k,true⟩
section
variable {w w':World} {A A' Y Z Z':List Nat} {c n cl:Nat} {S:Mn} {rs ds ls:Nat->Nat} {Xs:Nat->List Nat} {vr vd:Value} {gu:Nat} {qv gv lv:Value}
end
end
section -- SyDo6
def Mn.OH (S:Mn) (i:Nat) (rec:List UInt8):Mn :=
 if (S.at i).up then
  let p:=bF (S.at i).s (S.at i).k rec
  let S1:=S.set i ⟨p.2.2.1,p.2.2.2,true⟩
  (if p.2.1=0 then { S1 with gn:=S1.gn+1 } else S1).send p.1
 else S
section
variable {w w':World} {A A' Y Z Z':List Nat} {c n cl:Nat} {S:Mn} {rs ds ls:Nat->Nat} {Xs:Nat->List Nat} {vr vd:Value} {gu:Nat} {qv gv lv:Value}
end
end
section -- AArg
theorem Ex {z:Int} (h:(Lit.int .i64 z).wf=true) : -9223372036854775808<=z/\z<=9223372036854775807:=by
 simp only [Lit.wf,IntKind.min,IntKind.max,IntKind.signed,IntKind.bits,bu,aZ,if_true] at h;omega
section
variable {H:Type} {enc:TypeId×Value->H}
end
end
section -- SyLight
section
variable {w:World}
end
end
section -- SyLook0
def N4 (l lg:List (List UInt8)):List (List UInt8):=if lg.length<l.length then l else lg
section
variable {w w':World} {A A' Y Z Z':List Nat} {c n cl:Nat} {S:Mn} {rs ds ls:Nat->Nat} {Xs:Nat->List Nat} {vr vd:Value} {gu:Nat} {qv gv lv:Value}
end
end
section -- SyI
structure OO (n cl lv:Nat) (S:Mn):Prop where
 sv:SInv n cl S
 n1:1<=n
 n5:n<=5
 up:∀i,i<n->(S.at i).up=true->XI (S.at i).s (S.at i).k/\(S.at i).s.lives=(S.at i).k.lives
 dn:∀i,i<n->(S.at i).up=false->DnI (S.at i).s (S.at i).k
 SC:∀i,i<n->0<=(S.at i).k.lives/\(S.at i).k.lives<=lv
 gn:S.gn<=lv
structure Turn (n cl lv i:Nat) (S:Mn) (nd:Wo):Prop where
 own:nd.s.own=i
 nn:nd.s.n=n
 up:nd.up=true->XI nd.s nd.k/\nd.s.lives=nd.k.lives/\nd.s.OA<=cl
 dn:nd.up=false->DnI nd.s nd.k
 SC:0<=nd.k.lives/\nd.k.lives<=lv
section
variable {n cl lv:Nat} {S:Mn}
theorem OO.mono {cl' lv':Nat} (h:OO n cl lv S) (hc:cl<=cl') (hl:lv<=lv'):OO n cl' lv' S :=
 ⟨h.sv.mono hc,h.n1,h.n5,h.up,h.dn,λi hi=>⟨(h.SC i hi).1,by have:=(h.SC i hi).2;omega⟩,aF h.gn hl⟩
theorem OO.set {i:Nat} {nd:Wo} (h:OO n cl lv S) (hi:i<n) (ht:Turn n cl lv i S nd):OO n cl lv (S.set i nd):=by
 have hat:∀j,(S.set i nd).at j=if j=i then nd else S.at j:=λj=>Mn.at_set S i j _ (by rw [h.sv.nl];exact hi)
 refine ⟨⟨by simp [Mn.set,h.sv.nl],λj hj=>?_,λj hj hu=>?_,h.sv.q,h.sv.ql⟩,h.n1,h.n5,λj hj hu=>?_,λj hj hu=>?_,λj hj=>?_,h.gn⟩;all_goals
  by_cases e:j=i
  ·subst e;simp only [hat,ay] at *;first
    | exact ⟨ht.own,ht.nn⟩
    | exact ⟨(ht.up hu).1.wf,(ht.up hu).2.2⟩
    | exact ⟨(ht.up hu).1,(ht.up hu).2.1⟩
    | exact ht.dn hu
    | exact ht.SC
  ·simp only [hat,am e] at *;first
    | exact h.sv.id j hj
    | exact h.sv.wf j hj hu
    | exact h.up j hj hu
    | exact h.dn j hj hu
    | exact h.SC j hj
theorem Turn.of {i d:Nat} {p:List OM×Rp×Dk} (h:OO n cl lv S) (hi:i<n) (hu:(S.at i).up=true) (ho:Out (S.at i).s d p) (hk:KS (S.at i).k p.2.2) (hn:Qj p.2.1) (hg:Gr (S.at i).s p.2.1):Turn n (cl+d) lv i S ⟨p.2.1,p.2.2,true⟩:=by
 have h1:=h.up i hi hu;refine ⟨ho.own.trans (h.sv.id i hi).1,ho.n.trans (h.sv.id i hi).2,λ_=>⟨⟨ho.wf,hn,hk.sf h1.1.sf,hk.off.trans h1.1.off⟩,hg.SC.trans (h1.2.trans hk.lives.symm),?_⟩,(λe=>by cases e),?_⟩
 ·have:=ho.OA;have:=(h.sv.wf i hi hu).2;show p.2.1.OA<=_;omega
 ·rw [hk.lives];exact h.SC i hi
theorem OO.Qm (h:OO n cl lv S) (i:Nat) (hi:i<n) (keep:Int):OO n cl lv (S.Qm i keep):=by
 refine h.set hi ⟨(h.sv.id i hi).1,(h.sv.id i hi).2,(λe=>by cases e),λ_=>?_,h.SC i hi⟩;cases hu:(S.at i).up with
 | true=>exact (h.up i hi hu).1.Qm keep
 | false=>exact (h.dn i hi hu).Qm keep
theorem yV (i m:Nat) (s:Rp) (k:Dk):(f9 i m s k).lives=k.lives+1/\(gb s k).lives=k.lives+1:=by
 obtain ⟨t,c,g,e⟩:=gM (dX i m (k.lives+1) (eW s k)) ((eW s k).map oc);constructor
 ·unfold f9;rw [e];rfl
 ·unfold gb fJ;split<;>rfl
theorem OO.back (h:OO n cl lv S) (i:Nat) (hi:i<n):OO n cl (lv+1) (S.back n i):=by
 unfold Mn.back;split
 ·grind [h.mono]
 ·rename_i hu;have hu:(S.at i).up=false:=by simpa using hu
  obtain ⟨h1,h2,h3,h4⟩:=Iw (h.dn i hi hu);rw [(h.sv.id i hi).1,(h.sv.id i hi).2] at h1 h2 h3 h4;have hl:=yV i n (S.at i).s (S.at i).k;have hv:=h.SC i hi;refine (h.mono (ah _) (cZ lv)).set hi ⟨h2,h3,λ_=>⟨h1,by rw [hl.1,hl.2],by show (f9 i n (S.at i).s (S.at i).k).OA<=cl;rw [h4];exact aH _⟩,(λe=>by cases e),?_⟩;rw [hl.2];omega
theorem OO.ofq {q:List OM} (h:OO n cl lv S) (hq:∀m∈q,m∈S.q) (hl:q.length<=2000):OO n cl lv { S with q:=q } :=
 ⟨⟨h.sv.nl,h.sv.id,h.sv.wf,λm hm=>h.sv.q m (hq m hm),hl⟩,h.n1,h.n5,h.up,h.dn,h.SC,h.gn⟩
end
end
section -- SyI2
section
variable {n cl lv:Nat} {S:Mn}
theorem AD (j n:Nat) (hj:j<n) (hn:n<=5):XI (dX j n 1 []) LJ:=by
 refine ⟨⟨by show 1<=n;omega,hn,hj,by simp [dX],by simp [dX],by simp [dX],by simp [dX],?_,?_,?_,?_,ah _,rfl,(λh=>by cases h),aP _,?_,aP _,?_,(λx hx=>by cases hx),ah _,λx hx=>?_⟩,⟨⟨[],rfl,trivial,λ_=>⟨rfl,rfl,rfl⟩⟩,(λh=>by cases h)⟩,(λl q h=>by cases h),rfl⟩
 ·exact aP _
 ·show ((0:Nat):Int)<=1048576;decide
 ·rfl
 ·exact ah _
 ·show (0:Int)<=_;decide
 ·show (-1:Int)<(n:Int);omega
 ·have:x∈List.replicate n ((0:Int),(0:Int),(0:Int)):=hx;rw [List.eq_of_mem_replicate this];exact ⟨aP _,aP _⟩
theorem nk (n:Nat) (h1:1<=n) (h5:n<=5):OO n 0 1 (Mn.begun n):=by
 have hat:=ic n;have hu:∀i,i<n->XI (DL n i).s (DL n i).k:=λi hi=>AD i n hi h5;refine ⟨⟨by simp [Mn.begun],λi hi=>by rw [hat i hi];exact ⟨rfl,rfl⟩,λi hi _=>by rw [hat i hi];exact ⟨(hu i hi).wf,ah _⟩,(λm hm=>by cases hm),aH _⟩,h1,h5,λi hi _=>by rw [hat i hi];exact ⟨hu i hi,rfl⟩,(λi hi hd=>by rw [hat i hi] at hd;cases hd),λi hi=>by rw [hat i hi];exact ⟨show (0:Int)<=1 by decide,show (1:Int)<=((1:Nat):Int) by decide⟩,aH _⟩
end
end
section -- SyAw0
end
section -- SyLead
theorem yn {s:Rp} {k:Dk} (h1:k.off=false) (h2:s.lives=k.lives):(kF s k).1=(s.Oy && !s.done)/\(kF s k).2=s:=by
 have hd:eG s k=s.done:=by
  unfold eG;rw [h1,h2];simp
 have he:bw s k=s:=by unfold bw;rw [hd]
 unfold kF;by_cases hl:s.Oy=true
 ·grind
 ·grind
section
variable {w w':World} {A A' Y Z Z':List Nat} {c n cl lv:Nat} {S:Mn} {rs ds ls:Nat->Nat} {Xs:Nat->List Nat} {vr vd:Value} {gu:Nat} {qv gv lgv:Value}
end
end
def Mn.TB (ct:OM->Bool) (S:Mn) (ms:List OM):Mn:={ S with q:=ms.foldl (fP ct) S.q }
def Mn.tell (n:Nat) (S:Mn):Mn:={ S with long:=gN S n 0 S.long }
def Mn.Pj (n:Nat) (ct:OM->Bool) (S:Mn) (i:Nat) (p:List OM×Rp×Dk):Mn:=((S.set i ⟨p.2.1,p.2.2,true⟩).TB ct p.1).tell n
def Mn.Pa (n:Nat) (ct:OM->Bool) (S:Mn) (i:Nat):Mn:=if (S.at i).up then S.Pj n ct i (eM (S.at i).s (S.at i).k) else S
def Mn.Pt (n:Nat) (ct:OM->Bool) (S:Mn) (m:OM):Mn:=if (S.at m.dst.toNat).up then S.Pj n ct m.dst.toNat (gJ (S.at m.dst.toNat).s (S.at m.dst.toNat).k m) else S
def Mn.OT (n:Nat) (ct:OM->Bool) (S:Mn) (i:Nat) (rec:List UInt8):Mn :=
 if (S.at i).up then S.Pj n ct i ((bF (S.at i).s (S.at i).k rec).1,(bF (S.at i).s (S.at i).k rec).2.2.1,(bF (S.at i).s (S.at i).k rec).2.2.2) else S
def Mn.Pb (S:Mn) (k:Nat):Mn:={ S with q:=S.q.take k++S.q.drop (k+1)}
def Mn.Qr (S:Mn) (k:Nat):Mn:=match S.q[k]? with
 | none=>S
 | some m=>{ S with q:=gF S.q m }
def Mn.PM (S:Mn) (i:Nat) (keep:Int):Mn:=if (S.at i).up then S.Qm i keep else S
theorem FY (ct:OM->Bool) (ms:List OM):∀(q:List OM),∀m∈ms.foldl (fP ct) q,m∈q\/m∈ms:=by
 induction ms with
 | nil=>exact λq m hm=>.inl hm
 | cons a l ih =>
  intro q m hm;rcases ih _ m hm with h | h
  ·unfold fP at h;split at h
   ·exact .inl h
   ·unfold gF at h;split at h
    ·grind
    ·exact .inl h
  ·exact .inr (aM _ h)
section
variable {n cl lv a c:Nat} {S:Mn}
theorem OO.TB {fr:Nat} (ct:OM->Bool) (h:OO n cl lv S) (ms:List OM) (hf:fr<n) (hm:∀m∈ms,RP fr n m):OO n cl lv (S.TB ct ms) :=
 ⟨⟨h.sv.nl,h.sv.id,h.sv.wf,λm Qb=>by
  rcases FY ct _ _ _ Qb with h1 | h1
  ·exact h.sv.q m h1
  ·exact ⟨fr,hf,hm m h1⟩,xl ct _ _ h.sv.ql⟩,h.n1,h.n5,h.up,h.dn,h.SC,h.gn⟩
theorem OO.tell (h:OO n cl lv S):OO n cl lv (S.tell n):=⟨⟨h.sv.nl,h.sv.id,h.sv.wf,h.sv.q,h.sv.ql⟩,h.n1,h.n5,h.up,h.dn,h.SC,h.gn⟩
theorem OO.Pj {i d:Nat} (ct:OM->Bool) {p:List OM×Rp×Dk} (h:OO n cl lv S) (hi:i<n) (hu:(S.at i).up=true) (ho:Out (S.at i).s d p) (hk:KS (S.at i).k p.2.2) (hn:Qj p.2.1) (hg:Gr (S.at i).s p.2.1) :
  OO n (cl+d) lv (S.Pj n ct i p):=by
 have ht:=Turn.of h hi hu ho hk hn hg;have h2:OO n (cl+d) lv (S.set i ⟨p.2.1,p.2.2,true⟩):=(h.mono (fy _ _) (ah _)).set hi ⟨ht.own,ht.nn,ht.up,ht.dn,ht.SC⟩;refine (h2.TB (fr:=i) ct p.1 hi λm hm=>?_).tell;have h9:=ho.ms m hm;rw [(h.sv.id i hi).1,(h.sv.id i hi).2] at h9;exact h9
theorem OO.Pa (ct:OM->Bool) (h:OO n cl lv S) (i:Nat) (hi:i<n):OO n (cl+1) lv (S.Pa n ct i):=by
 unfold Mn.Pa;split
 ·rename_i hu;have h1:=(h.up i hi hu).1;exact h.Pj ct hi hu (vu h1.wf) Ho (DJ h1.nok h1.wf) (Gq h1.wf).gr
 ·grind [h.mono]
theorem OO.Pt (ct:OM->Bool) (h:OO n cl lv S) (m:OM) (h0:0<=m.dst) (h1:m.dst<(n:Int)):OO n cl lv (S.Pt n ct m):=by
 unfold Mn.Pt;split
 ·rename_i hu;have hi:m.dst.toNat<n:=az;have h2:=(h.up _ hi hu).1;exact h.Pj (d:=0) ct hi hu (zt h2.wf m) (K6 m) (GJ h2.nok h2.wf m) (Kd h2.wf m).gr
 ·exact h
theorem OO.OT (ct:OM->Bool) (h:OO n cl lv S) (i:Nat) (hi:i<n) (rec:List UInt8):OO n cl lv (S.OT n ct i rec):=by
 unfold Mn.OT;split
 ·rename_i hu;have h1:=(h.up i hi hu).1;exact h.Pj (d:=0) ct hi hu (qO h1.wf rec) (BD rec) (x7 h1.nok rec) (BE h1.wf rec)
 ·exact h
theorem Ew (S:Mn) (k:Nat):∀m∈(S.Pb k).q,m∈S.q:=λm hm=>by
 rcases aA.1 hm with g | g
 ·exact fK g
 ·exact gV g
theorem OO.Pb (h:OO n cl lv S) (k:Nat):OO n cl lv (S.Pb k):=h.ofq (Ew S k) (by
 have:=h.sv.ql;rw [aE,aQ,cH];omega)
theorem OO.Qr (h:OO n cl lv S) (k:Nat):OO n cl lv (S.Qr k):=by
 unfold Mn.Qr;split
 ·exact h
 ·rename_i m hm;refine ⟨⟨h.sv.nl,h.sv.id,h.sv.wf,λx hx=>?_,xk _ _ h.sv.ql⟩,h.n1,h.n5,h.up,h.dn,h.SC,h.gn⟩;unfold gF at hx;split at hx
  ·rcases aA.1 hx with g | g
   ·exact h.sv.q x g
   ·rw [aj.1 g];exact h.sv.q m (fL hm)
  ·exact h.sv.q x hx
theorem OO.PM (h:OO n cl lv S) (i:Nat) (hi:i<n) (keep:Int):OO n cl lv (S.PM i keep):=by
 grind [Mn.PM,h.Qm]
end
def co:OM->Bool:=λ_=>false
def Mn.OS (n:Nat) (ct:OM->Bool) (S:Mn) (k:Nat):Mn:=(List.range k).foldl (Mn.Pa n ct) S
def Mn.Pd (n:Nat) (ct:OM->Bool):Nat->Mn->Mn
 | 0,S=>S
 | f+1,S=>match S.q with
  | []=>S
  | m::q=>Mn.Pd n ct f (({ S with q:=q }:Mn).Pt n ct m)
def Mn.OI (n:Nat) (ct:OM->Bool):Nat->Mn->Mn
 | 0,S=>S
 | r+1,S=>Mn.OI n ct r ((S.OS n ct n).Pd n ct 3000)
section
variable {n cl lv:Nat} {S:Mn} {ct:OM->Bool}
theorem OO.OS (h:OO n cl lv S) (k:Nat) (hk:k<=n):OO n (cl+k) lv (S.OS n ct k):=by
 induction k with
 | zero=>exact h
 | succ k ih =>
  have e:S.OS n ct (k+1)=(S.OS n ct k).Pa n ct k:=Ni;rw [e];exact (ih az).Pa ct k az
theorem OO.Pd (h:OO n cl lv S) (f:Nat):OO n cl lv (S.Pd n ct f):=by
 induction f generalizing S with
 | zero=>exact h
 | succ f ih =>
  unfold Mn.Pd;split
  ·exact h
  ·rename_i m q hq;obtain ⟨fr,hf,hg⟩:=h.sv.q m Bl;have h1:OO n cl lv { S with q:=q }:=h.ofq (λx hx=>by rw [hq];exact aM _ hx) (by have:=h.sv.ql;rw [hq,aX] at this;omega);exact ih (h1.Pt ct m hg.d0 hg.dn)
theorem OO.OI (h:OO n cl lv S) (r:Nat):OO n (cl+r*n) lv (Mn.OI n ct r S):=by
 induction r generalizing cl S with
 | zero=>rw [Nat.zero_mul];exact h
 | succ r ih =>
  have:=ih ((h.OS (ct:=ct) n (ah _)).Pd (ct:=ct) 3000);rw [nD,show cl+(r*n+n)=cl+n+r*n by omega];exact this
end
def gj (S:Mn):Nat->Nat->Option Nat
 | 0,_=>none
 | m+1,i=>if (S.at i).up&&(S.at i).s.Oy then some i else gj S m (i+1)
def dC (n:Nat) (S:Mn):Prop:=∀i,i<n->(S.at i).up=true->(S.at i).s.done=false
section
variable {w w':World} {A A' Z Z':List Nat} {g n cl lv:Nat} {S:Mn} {es es':Pn}
theorem OO.S7 (h:OO n cl lv S) (hd:dC n S):p9 n S:=λi hi hu =>
 ⟨(h.up i hi hu).1.wf,by unfold eG;rw [hd i hi hu,(h.up i hi hu).1.off,(h.up i hi hu).2];simp⟩
theorem RP.WJ {fr:Nat} {m:OM} (h:RP fr n m):jt m:=⟨by have:=h.nl;omega,by have:=h.bl;omega,λl hl=>by have:=h.bs l hl;omega⟩
theorem OO.say {i d:Nat} {p:List OM×Rp×Dk} (h:OO n cl lv S) (hi:i<n) (ho:Out (S.at i).s d p):z6 n p.1:=λm hm=>by
 have h9:=ho.ms m hm;rw [(h.sv.id i hi).1,(h.sv.id i hi).2] at h9;exact ⟨h9.WJ,by rw [h9.OD];omega,h9.d0,h9.dn⟩
theorem pR {S S':Mn} (h:S.nodes=S'.nodes) (m:Nat):∀(i:Nat) (lg:List (List UInt8)),gN S m i lg=gN S' m i lg:=by
 induction m with
 | zero=>intro i lg;rfl
 | succ m ih =>
  intro i lg;have e:S.at i=S'.at i:=by unfold Mn.at;rw [h]
  unfold gN;rw [e,ih]
theorem qx (S:Mn) (i:Nat) (p:List OM×Rp×Dk):S.SS n es i p=S.Pj n (ey es) i p:=by
 unfold Mn.SS Mn.Pj Mn.tell Mn.TB;rw [pR (S:=S.set i ⟨p.2.1,p.2.2,true⟩) (S':={ S.set i ⟨p.2.1,p.2.2,true⟩ with q:=p.1.foldl (fP (ey es)) (S.set i ⟨p.2.1,p.2.2,true⟩).q }) rfl];rfl
theorem E5 (h:Gy w A Z g n S es) (hb:OO n cl lv S) (hd:dC n S) (Sw:cl+1<=1000000) (i:Nat) (hi:i<n) (PJ:dC n (S.Pa n (ey es) i)) :
  Calls Tryz.prog 19 #[.pointer (some ⟨g,0,none⟩),.int .i64 (i:Int)] w λe w'=>e = .returned (.bool (S.at i).up)/\Px w w' A Z g n (S.Pa n (ey es) i) es:=by
 have hb2:=hb.Pa (ey es) i hi;have PN:=hb2.S7 PJ;cases hu:(S.at i).up with
 | false =>
  have e1:S.Pa n (ey es) i=S:=by unfold Mn.Pa;rw [hu];rfl
  rw [e1];refine (wA h (i:Int) (.inr ⟨i,hi,rfl,hu⟩)).mono ?_;exact Kq
 | true =>
  have e1:S.Pa n (ey es) i=S.Pj n (ey es) i (eM (S.at i).s (S.at i).k):=by unfold Mn.Pa;rw [hu];rfl
  rw [e1] at PN ⊢;rw [<-qx];exact EZ h i hi hb.sv.ql (hb.S7 hd) hu (by have:=(hb.sv.wf i hi hu).2;omega) (hb.say hi (vu (hb.up i hi hu).1.wf)) PN
theorem Lf (h:Gy w A Z g n S es) (hb:OO n cl lv S) (hd:dC n S) (i:Nat) (hi:i<n) (ao:Option Addr) (bc:Nat) (rec:List UInt8) (Qz:SB w A (.slice ao rec.length bc) rec) (hr:rec.length<=1000000) (PJ:dC n (S.OT n (ey es) i rec)) :
  Calls Tryz.prog 26 #[.pointer (some ⟨g,0,none⟩),.int .i64 (i:Int),.slice ao rec.length bc] w λe w'=>e = .returned (.bool ((S.at i).up&&((bF (S.at i).s (S.at i).k rec).2.1==0)))/\Px w w' A Z g n (S.OT n (ey es) i rec) es:=by
 have hb2:=hb.OT (ey es) i hi rec;have PN:=hb2.S7 PJ;cases hu:(S.at i).up with
 | false =>
  have e1:S.OT n (ey es) i rec=S:=by unfold Mn.OT;rw [hu];rfl
  rw [e1];refine (rm h (i:Int) ao _ bc (.inr ⟨i,hi,rfl,hu⟩)).mono ?_;exact Kq
 | true =>
  have e1:S.OT n (ey es) i rec=S.Pj n (ey es) i (gq (bF (S.at i).s (S.at i).k rec)):=by unfold Mn.OT;rw [hu];rfl
  rw [e1] at PN ⊢;rw [<-qx,z9];exact yz h i hi hb.sv.ql (hb.S7 hd) hu ao _ bc rec Qz rfl hr (hb.say (d:=0) hi (p:=gq (bF (S.at i).s (S.at i).k rec)) (qO (hb.up i hi hu).1.wf rec)) PN
end
section
variable {w w':World} {A A' X X':List Nat} {r d l:Nat} {s s':Rp} {k k':Dk}
def cJ (m:OM) (v u:Value):Array Value:=#[.int .i64 m.OD,.int .i64 m.dst,.int .i64 m.kind,v,u]
theorem fg (w:World) (a b:Nat):(w.drewN a).drewN b=w.drewN (a+b):=by
 simp
theorem mL (h:Nd w A X r d l s k) {w2:World} (hb:Below w.heap.size w w2) (m:OM) (v u:Value) (hm:OU w2 A m v u):PE w (w2.alloc (.cells (cJ m v u) 83)) A X r d l (.returned (.slice (some ⟨w2.heap.size,0,none⟩) 1 1)) ([m],s,k):=by
 have hbb:Below w2.heap.size w2 (w2.alloc (.cells (cJ m v u) 83)):=(aG _ _).alloc (ah _) _;have hb2:=hb.trans (hbb.mono hb.size);refine ⟨_,A,X,rfl,h.below hb2,⟨[⟨m,v,u⟩],rfl,?_,λx hx=>?_⟩,Mv.below hb2,λb hb3 RZ=>by have h9:=h.alt b RZ;have h8:=hb.size;simp [Value.ownBlock] at hb3;omega⟩
 ·refine ⟨by simp [eL,et],.inr ⟨w2.heap.size,1,cJ m v u,rfl,hb.size,aV _ _,ah _,by unfold maxLen;omega,rfl,?_⟩⟩;simp [eL,et,cJ]
 ·obtain rfl:=aj.1 hx;have ho:=Only.OL hbb [];refine hm.step ho (λb hb=>by cases hb) (λb hb=>?_);rcases aA.1 hb with hb | hb
  ·exact .inl hb
  ·refine .inr ?_;have:b=w2.heap.size:=by simpa [Value.ownBlock] using hb
   omega
structure NumC (w:World) (v:Value) (N:List Int) (b off c:Nat):Prop where
 v:v = .slice (some ⟨b,off,none⟩) N.length c
 at_:∀i,i<N.length->w.cell? ⟨b,off+i,none⟩=some (.int .i64 (N.getD i 0))
theorem AX {v:Value} {N:List Int} (h:PB w A v N) (hn:0<N.length):∃b off c,NumC w v N b off c:=by
 obtain ⟨ao,c,rfl,⟨_,_,h3⟩,_⟩:=h;rcases h3 with h3 | ⟨b,off,h4,h5⟩
 ·omega
 ·subst h4;exact ⟨b,off,c,rfl,λi hi=>by rw [h5 i hi]⟩
theorem NumC.below {v:Value} {N:List Int} {b off c:Nat} (h:NumC w v N b off c) (hb:Below w.heap.size w w'):NumC w' v N b off c:=⟨h.v,λi hi=>cell_later hb (h.at_ i hi)⟩
theorem Cb (h:Nd w A X r d l s k) (hw:Wf s k) (m:OM) (v u:Value) (hm:OU w A m v u) (hf:0<=m.OD) (hf2:m.OD<s.n):Calls Tryz.prog 71 #[.pointer (some ⟨r,0,none⟩),en m v u] w λe w'=>PE w w' A X r d l e (eX s k m):=by
 have Pe:Below w.heap.size w (w.alloc (.cells (cJ m v u) 83)):=(aG _ _).alloc (ah _) _;have P0:=aV w (.cells (cJ m v u) 83);have h1:=h.below Pe;have QU:Hid (Mv A A X X w (w.alloc (.cells (cJ m v u) 83))):=af (Mv.below Pe);have SY:(w.alloc (.cells (cJ m v u) 83)).cell? ⟨w.heap.size,0,none⟩=some (.int .i64 m.OD):=jn;have Y7:(w.alloc (.cells (cJ m v u) 83)).cell? ⟨w.heap.size,3,none⟩=some v:=jn;have HPN:Hid (∀b∈X,b≠w.heap.size):=af (λb hb e=>by have:=h.alt b (h.xA b hb);omega);have hPW:w.heap.size<(w.alloc (.cells (cJ m v u) 83)).heap.size:=bL;have Vt:=hm.one;obtain ⟨ao,cN,ev,hIs,hcN,hcN2,_⟩:=id hm.n;by_cases h3:m.N.length=3
 ·obtain ⟨b,off,c,hc⟩:=AX hm.n az;have VY:=hc.below Pe;have hv:=hc.v;rw [h3] at hv;subst hv;have Uu:=VY.at_ 0 az;have Sk:=VY.at_ 1 az;have Wc:=VY.at_ 2 az;rw [eK] at Uu;obtain ⟨al,cl,Rq,PH,hl2⟩:=h1.Qd;obtain ⟨vl,gv,gn,gm,gh,hcell⟩:=h1.cells;have Re:(w.alloc (.cells (cJ m (.slice (some ⟨b,off,none⟩) 3 c) u) 83)).cell? ⟨r,6,none⟩=some (.int .i64 s.Ow):=iI;have hc7:(w.alloc (.cells (cJ m (.slice (some ⟨b,off,none⟩) 3 c) u) 83)).cell? ⟨r,7,none⟩=some (.int .i64 s.OC):=iI;have Uq:=hw.QV;have Ty:=af (λW' (hb:Below (w.alloc (.cells (cJ m (.slice (some ⟨b,off,none⟩) 3 c) u) 83)).heap.size (w.alloc (.cells (cJ m (.slice (some ⟨b,off,none⟩) 3 c) u) 83)) W')=>gg (h1.below hb) s.Oz.length (ah _) az);have Xm:=af (λW' (hb:Below (w.alloc (.cells (cJ m (.slice (some ⟨b,off,none⟩) 3 c) u) 83)).heap.size (w.alloc (.cells (cJ m (.slice (some ⟨b,off,none⟩) 3 c) u) 83)) W')=>(pz (h1.below hb) hw s.Ow m.OD).mono (R':=λe w'=>e = .returned (.bool (bB s k s.Ow m.OD).1)/\Py (w.alloc (.cells (cJ m (.slice (some ⟨b,off,none⟩) 3 c) u) 83)) w' A X r d l (bB s k s.Ow m.OD).2.1 (bB s k s.Ow m.OD).2.2) KZ);have HKM:Hid (∀w2 s2 k2,Py (w.alloc (.cells (cJ m (.slice (some ⟨b,off,none⟩) 3 c) u) 83)) w2 A X r d l s2 k2->w2.cell? ⟨w.heap.size,0,none⟩=some (.int .i64 m.OD)):=af (λw2 s2 k2 hn=>by
   obtain ⟨A2,X2,h2,m2⟩:=hn;exact m2.mv.only.cell SY (λhm=>HPN.out _ hm rfl))
  have HE:Hid (eX s k m=(
   let own:=bV s.Oz s.Oz.length
   let behind:=decide (own<m.N.getD 2 0)||(m.N.getD 2 0==own&&decide ((s.Oz.length:Int)<=m.N.getD 1 0))
   let yes:=(m.N.getD 0 0==s.Ow)&&behind&&(s.OC == -1||s.OC==m.OD)
   if yes then
    if s.OC == -1 then
     let p:=bB s k s.Ow m.OD
     if p.1 then (let s1:={ p.2.1 with Ox:=0 };([dQ s1 m.OD 2 [s1.Ow,1]],s1,p.2.2)) else ([],p.2)
    else (let s1:={ s with Ox:=0 };([dQ s1 m.OD 2 [s1.Ow,1]],s1,k))
   else ([dQ s m.OD 2 [s.Ow,0]],s,k))):=af (by unfold eX;rw [ay h3])
  (try simp only at HE)
  have Ri:=af h1;clear h h1 hw hm hIs hcell Pe P0 ev hc VY Vt;unfold en cJ at *;generalize bV s.Oz s.Oz.length=lt at *;generalize s.Oz.length=sl at *;generalize m.N.getD 0 0=n0 at *;generalize m.N.getD 1 0=n1 at *;generalize m.N.getD 2 0=n2 at *;go_enter Tryz.func71,Tryz.ntmps71
  go_wp2_with fail
  generalize w.alloc (.cells #[.int .i64 m.OD,.int .i64 m.dst,.int .i64 m.kind,.slice (some ⟨b,off,none⟩) 3 c,u] 83)=W at *;generalize w.heap.size=M at *;refine (Ty.out W (aG _ _)).mono ?_;rintro e w1 ⟨rfl,rfl⟩;go_upto_region 4 with (fail)
  go_cut [6] (λv wx=>v = .bool (decide (lt<n2)||(n2==lt&&decide ((sl:Int)<=n1)))/\∃q,wx=W.drewN q)
  case first =>
   cases b1:decide (lt<n2) with
   | true =>
    exact Kt
   | false =>
    cases b2:n2==lt with
    | false =>
     exact GS
    | true =>
     exact GS
  case rest =>
  obtain ⟨rfl,q4,rfl⟩:=hcut;generalize (decide (lt<n2)||(n2==lt&&decide ((sl:Int)<=n1)))=bh at *;go_upto_region 5 with (fail)
  go_cut [7] (λv wx=>v = .bool ((n0==s.Ow)&&bh&&(s.OC == -1||s.OC==m.OD))/\∃q,wx=W.drewN q)
  case first =>
   cases y1:n0==s.Ow with
   | false =>
    exact Jy
   | true =>
    cases bh with
    | false =>
     exact Jy
    | true =>
     cases c1:s.OC == -1 with
     | true =>
      exact JD
     | false =>
      exact JD
  case rest =>
  obtain ⟨rfl,q5,rfl⟩:=hcut;generalize ((n0==s.Ow)&&bh&&(s.OC == -1||s.OC==m.OD))=yes at *;have HBQ5:Hid (Below W.heap.size W (W.drewN q5)):=af (aB W q5);have TN:Hid (∀(W8:World) A8 X8 s8 k8,Nd W8 A8 X8 r d l s8 k8->∀W9,Below W8.heap.size W8 W9->∀dst kind N ao n c,Calls Tryz.prog 67 #[.pointer (some ⟨r,0,none⟩),.int .i64 dst,.int .i64 kind,.slice ao n c] W9 λe w2=>e = .returned (en (dQ s8 dst kind N) (.slice ao n c) (.slice none 0 0))/\Below W9.heap.size W9 w2):=af (λW8 A8 X8 s8 k8 h W9 hb dst kind N ao n c=>lK (h.below hb) dst kind N ao n c);clear Ty Uu Sk Wc Y7 Rq;cases yes with
  | false =>
   rw [am bL] at HE;go_upto_region 6 with (fail)
   go_quiet (fail)
   go_upto_region 9 with (fail)
   obtain ⟨PQ,Q9⟩:∃PQ,PQ=s.Ow:=⟨_,rfl⟩
   obtain ⟨s8,TR⟩:∃s8,s8=s:=⟨_,rfl⟩
   obtain ⟨k8,RG⟩:∃k8,k8=k:=⟨_,rfl⟩
   obtain ⟨A8,Wh⟩:∃A8,A8=A:=⟨_,rfl⟩
   obtain ⟨X8,V7⟩:∃X8,X8=X:=⟨_,rfl⟩
   have h8:Nd (W.drewN (q5+nq)).drew A8 X8 r d l s8 k8:=by rw [TR,RG,Wh,V7];exact (Ri.out.below (aB W (q5+nq))).below (aB _ 1)
   have M8:Hid (Mv A A8 X X8 w (W.drewN (q5+nq)).drew):=af (by rw [Wh,V7];exact (QU.out.trans (Mv.below (aB W (q5+nq)))).trans (Mv.below (aB _ 1)));have hMV:(W.drewN (q5+nq)).drew.cell? ⟨M,0,none⟩=some (.int .i64 m.OD):=SY;have Xx:(W.drewN (q5+nq)).drew.cell? ⟨r,6,none⟩=some (.int .i64 PQ):=by rw [Q9];exact Re
   have HE:Hid (eX s k m=([dQ s8 m.OD 2 [PQ,0]],s8,k8)):=af (by rw [TR,RG,Q9];exact HE.out);clear Re hc7 SY Q9 TR RG Wh V7;generalize W.drewN (q5+nq)=W8 at *;have Tz:Hid (∀W',Below W8.drew.heap.size W8.drew W'->W'.cell? ⟨M,0,none⟩=some (.int .i64 m.OD)/\W'.cell? ⟨r,6,none⟩=some (.int .i64 PQ)):=af (λW' hb=>⟨cell_later hb hMV,cell_later hb Xx⟩);have Rv:=af (TN.out _ _ _ _ _ h8);have ZC:=af h8.alt;have QZ:Hid (∀o,Below W8.drew.heap.size W8.drew (W8.drew.alloc o)):=af (λo=>(aG _ _).alloc (ah _) o);have Tp:Hid (∀RH vv N,Below W8.drew.heap.size W8.drew RH->PB RH A8 vv N->PE w (RH.alloc (.cells (cJ (dQ s8 m.OD 2 N) vv (.slice none 0 0)) 83)) A X r d l (.returned (.slice (some ⟨RH.heap.size,0,none⟩) 1 1)) ([dQ s8 m.OD 2 N],s8,k8)):=af (λRH vv N hb hi=>PE.trans M8.out (mL h8 hb (dQ s8 m.OD 2 N) vv (.slice none 0 0) ⟨hi,.inl ⟨rfl,rfl⟩⟩));unfold cJ at Tp;refine wp_region_held_drew (S:=λw'=>w'.cell? ⟨M,0,none⟩=some (.int .i64 m.OD)/\w'.cell? ⟨r,6,none⟩=some (.int .i64 PQ)) dW (Tz.out _ (aG _ _)) (λaD=>?_);refine aJ 0 ?_;refine aJ 1 ?_;refine aJ 2 ?_;refine aJ 3 ?_;refine aJ 4 ?_;refine aJ 5 ?_;refine aJ 6 ?_;generalize W8.drew=V8 at *;refine dh 7 λK hK=>?_;go_simp
   refine hK.out _ _ (Tz.out _ (QZ.out (.cells #[.int .i64 PQ,.int .i64 0] 2))) (λaD=>?_);clear hK K;refine bX ?_;have Zq:Hid (PB (V8.alloc (.cells #[.int .i64 PQ,.int .i64 0] 2)) A8 (.slice (some ⟨V8.heap.size,0,none⟩) 2 2) [PQ,0]):=af (PB.fresh [PQ,0] _ rfl 2 2 rfl az ZC.out);have Tr:=af (QZ.out (.cells #[.int .i64 PQ,.int .i64 0] 2));generalize V8.alloc (.cells #[.int .i64 PQ,.int .i64 0] 2)=V9 at *;refine dh 8 λK hK=>?_;go_simp
   refine (Rv.out _ Tr.out _ _ [PQ,0] _ _ _).mono ?_;exact Na
  | true =>
   rw [ay rfl] at HE;go_upto_region 6 with (fail)
   have HQ6:Hid (∀n,(W.drewN q5).drewN n=W.drewN (q5+n)):=af (λn=>fg W q5 n);cases Vj:(s.OC == -1) && !(bB s k s.Ow m.OD).1 with
   | true =>
    have hc1:(s.OC == -1)=true:=by revert Vj;cases (s.OC == -1)<;>simp
    have Qo:(bB s k s.Ow m.OD).1=false:=by revert Vj;rw [hc1];simp
    rw [ay hc1,am (by rw [Qo];simp)] at HE;have Zs:=af (Xm.out (W.drewN (q5+1)) (aB W (q5+1)));rw [Qo] at Zs;have hM6:(W.drewN q5).drew.cell? ⟨M,0,none⟩=some (.int .i64 m.OD):=SY;have HKM:=af (λw2=>HKM.out w2 (bB s k s.Ow m.OD).2.1 (bB s k s.Ow m.OD).2.2);generalize (bB s k s.Ow m.OD).2=p2 at *;refine wp_region_held_drew (S:=λw'=>w'.cell? ⟨M,0,none⟩=some (.int .i64 m.OD)) dW hM6 (λaD=>?_);refine aJ 0 ?_;refine aJ 1 ?_;refine aJ 2 ?_;refine aJ 3 ?_;refine aJ 4 ?_;refine dh 5 λK hK=>?_;go_simp
    refine hK.out _ _ aD (λaD=>?_);clear hK K;refine bX ?_;refine aJ 6 ?_;refine aJ 7 ?_;refine aJ 8 ?_;refine aJ 9 ?_;refine aJ 10 ?_;refine aJ 11 ?_;refine aJ 12 ?_;refine aJ 14 ?_;refine aJ 15 ?_;refine dh 13 λK hK=>?_;go_simp
    refine hK.out _ _ aD (λaD=>?_);clear hK K;refine bX ?_;refine dh 16 λK hK=>?_;go_simp
    refine Zs.out.mono ?_;rintro e w2 ⟨rfl,Pf⟩;have QT:=af Pf;have hk2:=HKM.out w2 Pf;clear Pf;go_wp2_with fail
    refine hK.out _ _ hk2 (λaD=>?_);clear hK K;refine bX ?_;refine aJ 17 ?_;refine aJ 18 ?_;refine iX ?_;clear aD;go_wp2_with fail
    go_ret
    rw [HE.out];exact PE.none (Py.trans QU.out QT.out)
   | false =>
    go_cut [91] (λv wx=>v = .bool false/\wx.cell? ⟨M,0,none⟩=some (.int .i64 m.OD)/\∃s8 k8,Py W wx A X r d l s8 k8/\eX s k m=([dQ { s8 with Ox:=0 } m.OD 2 [s8.Ow,1]],{ s8 with Ox:=0 },k8))
    case first =>
     cases c1:s.OC == -1 with
     | true =>
      have Qo:(bB s k s.Ow m.OD).1=true:=by revert Vj;rw [c1];simp
      rw [ay c1,ay Qo] at HE;have Zs:=af (Xm.out (W.drewN (q5+1)) (aB W (q5+1)));rw [Qo] at Zs;have hM6:(W.drewN q5).drew.cell? ⟨M,0,none⟩=some (.int .i64 m.OD):=SY;have HKM:=af (λw2=>HKM.out w2 (bB s k s.Ow m.OD).2.1 (bB s k s.Ow m.OD).2.2);generalize (bB s k s.Ow m.OD).2=p2 at *;refine wp_region_held_drew (S:=λw'=>w'.cell? ⟨M,0,none⟩=some (.int .i64 m.OD)) dW hM6 (λaD=>?_);refine aJ 0 ?_;refine aJ 1 ?_;refine aJ 2 ?_;refine aJ 3 ?_;refine aJ 4 ?_;refine dh 5 λK hK=>?_;go_simp
      refine hK.out _ _ aD (λaD=>?_);clear hK K;refine bX ?_;refine aJ 6 ?_;refine aJ 7 ?_;refine aJ 8 ?_;refine aJ 9 ?_;refine aJ 10 ?_;refine aJ 11 ?_;refine aJ 12 ?_;refine aJ 14 ?_;refine aJ 15 ?_;refine dh 13 λK hK=>?_;go_simp
      refine hK.out _ _ aD (λaD=>?_);clear hK K;refine bX ?_;refine dh 16 λK hK=>?_;go_simp
      refine Zs.out.mono ?_;rintro e w2 ⟨rfl,Pf⟩;have QT:=af Pf;have hk2:=HKM.out w2 Pf;clear Pf;go_wp2_with fail
      refine hK.out _ _ hk2 (λaD=>?_);clear hK K;refine bX ?_;refine aJ 17 ?_;refine aJ 18 ?_;refine iX ?_;clear aD;go_wp2_with fail
      go_meet
      exact ⟨rfl,hk2,_,_,QT.out,HE.out⟩
     | false =>
      rw [am (by rw [c1];simp)] at HE;go_quiet (fail)
      go_wp2_with fail
      go_meet
      exact ⟨rfl,SY,s,k,((Ri.out.below (aB W q5)).below (aB _ nq)).VJ ((Mv.below (aB W q5)).trans (Mv.below (aB _ nq))),HE.out⟩
    case rest =>
    obtain ⟨rfl,hM7,s7,k7,hn7,he7⟩:=hcut;rename World=>W7;obtain ⟨A7,X7,h7,m7⟩:=hn7;have H7:=af h7;have M7:=af (QU.out.trans m7);have HPX7:Hid (M∉X7):=af (λhm=>by
     rcases m7.mv.gr M hm with h9 | h9
     ·exact HPN.out M h9 rfl
     ·omega)
    obtain ⟨vl,gv,gn,gm,gh,hcell⟩:=h7.cells;have TY:=aU hcell 15;have T9:W7.cell? ⟨r,15,none⟩=some (.int .i64 (s7.Ox:Int)):=iI;have hrM:r≠M:=λe=>HPX7.out (e ▸ h7.rX);have HT:Hid (Py W7 (W7.setCell ⟨r,15,none⟩ (.int .i64 0)) A7 X7 r d l { s7 with Ox:=0 } k7):=af (by
     refine Nd.TV h7 ((Only.refl _ _).setCell bL _) ?_ rfl rfl rfl rfl rfl rfl;intro vl gv gn gm gh hc;rw [be hc];rfl)
    have HE:Hid (eX s k m=([dQ { s7 with Ox:=0 } m.OD 2 [s7.Ow,1]],{ s7 with Ox:=0 },k7)):=af he7;have hM8:(W7.setCell ⟨r,15,none⟩ (.int .i64 0)).cell? ⟨M,0,none⟩=some (.int .i64 m.OD):=((Only.refl [r] _).setCell (p:=⟨r,15,none⟩) bL _).cell hM7 (by simpa using hrM.symm);clear h7 m7 hcell he7 Re hc7 SY Vj Xm;go_upto_region 11 with (fail)
    generalize W7.setCell ⟨r,15,none⟩ (.int .i64 0)=W8 at *;obtain ⟨A8,X8,h8,m8⟩:=HT.out;have M8:=af ((M7.out.trans m8).trans (Mv.below (A:=A8) (X:=X8) (aB W8 1)));have h8:=h8.below (aB W8 1);change Nd W8.drew A8 X8 r d l { s7 with Ox:=0 } k7 at h8;change Hid (Mv A A8 X X8 w W8.drew) at M8;have hMV:W8.drew.cell? ⟨M,0,none⟩=some (.int .i64 m.OD):=hM8;generalize TR:({ s7 with Ox:=0 }:Rp)=s8 at *;have hst:s7.Ow=s8.Ow:=by rw [<-TR]
    obtain ⟨PQ,Q9⟩:∃PQ,PQ=s8.Ow:=⟨_,rfl⟩
    have Xx:W8.drew.cell? ⟨r,6,none⟩=some (.int .i64 PQ):=by
     obtain ⟨vl,gv,gn,gm,gh,hcell⟩:=h8.cells;rw [ap hcell,Q9];rfl
    rw [hst,<-Q9] at HE;clear TR hst;obtain ⟨k8,RG⟩:∃k8,k8=k7:=⟨_,rfl⟩
    rw [<-RG] at HE h8;clear Q9 RG m8 hM7 hM8 TY T9 HT;have Tz:Hid (∀W',Below W8.drew.heap.size W8.drew W'->W'.cell? ⟨M,0,none⟩=some (.int .i64 m.OD)/\W'.cell? ⟨r,6,none⟩=some (.int .i64 PQ)):=af (λW' hb=>⟨cell_later hb hMV,cell_later hb Xx⟩);have Rv:=af (TN.out _ _ _ _ _ h8);have ZC:=af h8.alt;have QZ:Hid (∀o,Below W8.drew.heap.size W8.drew (W8.drew.alloc o)):=af (λo=>(aG _ _).alloc (ah _) o);have Tp:Hid (∀RH vv N,Below W8.drew.heap.size W8.drew RH->PB RH A8 vv N->PE w (RH.alloc (.cells (cJ (dQ s8 m.OD 2 N) vv (.slice none 0 0)) 83)) A X r d l (.returned (.slice (some ⟨RH.heap.size,0,none⟩) 1 1)) ([dQ s8 m.OD 2 N],s8,k8)):=af (λRH vv N hb hi=>PE.trans M8.out (mL h8 hb (dQ s8 m.OD 2 N) vv (.slice none 0 0) ⟨hi,.inl ⟨rfl,rfl⟩⟩));unfold cJ at Tp;refine wp_region_held_drew (S:=λw'=>w'.cell? ⟨M,0,none⟩=some (.int .i64 m.OD)/\w'.cell? ⟨r,6,none⟩=some (.int .i64 PQ)) dW (Tz.out _ (aG _ _)) (λaD=>?_);refine aJ 0 ?_;refine aJ 1 ?_;refine aJ 2 ?_;refine aJ 3 ?_;refine aJ 4 ?_;refine aJ 5 ?_;refine aJ 6 ?_;generalize W8.drew=V8 at *;refine dh 7 λK hK=>?_;go_simp
    refine hK.out _ _ (Tz.out _ (QZ.out (.cells #[.int .i64 PQ,.int .i64 1] 2))) (λaD=>?_);clear hK K;refine bX ?_;have Zq:Hid (PB (V8.alloc (.cells #[.int .i64 PQ,.int .i64 1] 2)) A8 (.slice (some ⟨V8.heap.size,0,none⟩) 2 2) [PQ,1]):=af (PB.fresh [PQ,1] _ rfl 2 2 rfl az ZC.out);have Tr:=af (QZ.out (.cells #[.int .i64 PQ,.int .i64 1] 2));generalize V8.alloc (.cells #[.int .i64 PQ,.int .i64 1] 2)=V9 at *;refine dh 8 λK hK=>?_;go_simp
    refine (Rv.out _ Tr.out _ _ [PQ,1] _ _ _).mono ?_;exact Na
 ·have HE:Hid (eX s k m=([],s,k)):=af (by unfold eX;rw [am h3]);subst ev;have g1:((m.N.length:Int) != 3)=true:=by rw [bne_iff_ne];omega
  have HF:Hid (Py w (w.alloc (.cells (cJ m (.slice ao m.N.length cN) u) 83)) A X r d l s k):=af (h1.VJ QU.out);clear h h1 hw hm hIs;unfold en cJ at *;go_enter Tryz.func71,Tryz.ntmps71
  go_wp2_with fail
  go_ret
  rw [HE.out];exact PE.none HF.out
end
section
variable {w w':World} {A A' X X':List Nat} {r d l:Nat} {s s':Rp} {k k':Dk}
theorem Ah (h:Nd w A X r d l s k) (hw:Wf s k) (m:OM) (v u:Value) (hm:OU w A m v u) (fr:Nat) (T7:m.OD=(fr:Int)) (hf2:fr<s.n) (hlen:2<=m.N.length):Calls Tryz.prog 72 #[.pointer (some ⟨r,0,none⟩),en m v u] w λe w'=>PE w w' A X r d l e (fS s k m):=by
 have Pe:Below w.heap.size w (w.alloc (.cells (cJ m v u) 83)):=(aG _ _).alloc (ah _) _;have P0:=aV w (.cells (cJ m v u) 83);have h1:=h.below Pe;have QU:Hid (Mv A A X X w (w.alloc (.cells (cJ m v u) 83))):=af (Mv.below Pe);have SY:(w.alloc (.cells (cJ m v u) 83)).cell? ⟨w.heap.size,0,none⟩=some (.int .i64 m.OD):=jn;have Y7:(w.alloc (.cells (cJ m v u) 83)).cell? ⟨w.heap.size,3,none⟩=some v:=jn;have HPN:Hid (∀b∈X,b≠w.heap.size):=af (λb hb e=>by have:=h.alt b (h.xA b hb);omega);obtain ⟨b,off,c,hc⟩:=AX hm.n az;have VY:=hc.below Pe;have hv:=hc.v;subst hv;have Uu:=VY.at_ 0 az;have Sk:=VY.at_ 1 az;rw [eK] at Uu;obtain ⟨vl,gv0,gn,gm,gh,hcell⟩:=h1.cells;have Re:(w.alloc (.cells (cJ m (.slice (some ⟨b,off,none⟩) m.N.length c) u) 83)).cell? ⟨r,6,none⟩=some (.int .i64 s.Ow):=iI;have hc7:(w.alloc (.cells (cJ m (.slice (some ⟨b,off,none⟩) m.N.length c) u) 83)).cell? ⟨r,7,none⟩=some (.int .i64 s.OC):=iI;have hc0:(w.alloc (.cells (cJ m (.slice (some ⟨b,off,none⟩) m.N.length c) u) 83)).cell? ⟨r,0,none⟩=some (.int .i64 (s.own:Int)):=iI;have Qh:(w.alloc (.cells (cJ m (.slice (some ⟨b,off,none⟩) m.N.length c) u) 83)).cell? ⟨r,11,none⟩=some (.bool s.Oy):=iI;have HE:Hid (fS s k m=if s.Oy || !(m.N.getD 0 0==s.Ow) || !(s.OC==(s.own:Int)) || !(m.N.getD 1 0==1) then ([],s,k) else
  if gI { s with OB:=s.OB.set fr true } then hJ { s with OB:=s.OB.set fr true } k else ([],{ s with OB:=s.OB.set fr true },k)):=af (by
   unfold fS;rw [T7,bU])
 have Ri:=af h1;have HW:=af hw;have hl0:(0:Int)<(m.N.length:Int):=az;have PH:(1:Int)<(m.N.length:Int):=az;rw [T7] at SY;clear h h1 hw hm hcell Pe P0 hc VY;unfold en cJ at *;rw [T7] at *;generalize m.N.getD 0 0=n0 at *;generalize m.N.getD 1 0=n1 at *;generalize m.N.length=nl at *;go_enter Tryz.func72,Tryz.ntmps72
 go_upto_region 1 with (fail)
 generalize w.alloc (.cells #[.int .i64 (fr:Int),.int .i64 m.dst,.int .i64 m.kind,.slice (some ⟨b,off,none⟩) nl c,u] 83)=W at *;generalize w.heap.size=M at *;go_cut [37] (λv wx=>v = .bool (s.Oy || !(n0==s.Ow) || !(s.OC==(s.own:Int)) || !(n1==1))/\∃q,wx=W.drewN q)
 case first =>
  cases b1:s.Oy with
  | true =>
   rw [b1] at Qh;exact Kt
  | false =>
   rw [b1] at Qh;cases b2:n0==s.Ow with
   | false =>
    have g2:(n0 != s.Ow)=true:=by rw [bne,b2];rfl
    exact GS
   | true =>
    have g2:(n0 != s.Ow)=false:=by rw [bne,b2];rfl
    cases b3:s.OC==(s.own:Int) with
    | false =>
     have g3:(s.OC != (s.own:Int))=true:=by rw [bne,b3];rfl
     exact Jo
    | true =>
     have g3:(s.OC != (s.own:Int))=false:=by rw [bne,b3];rfl
     exact Jo
 case rest =>
 obtain ⟨rfl,q1,rfl⟩:=hcut;generalize (s.Oy || !(n0==s.Ow) || !(s.OC==(s.own:Int)) || !(n1==1))=no at *;cases no with
 | true =>
  rw [ay rfl] at HE;exact Mt
 | false =>
  rw [am bL] at HE;go_upto_region 3 with (fail)
  have h3:=(Ri.out.below (aB W q1)).below (aB _ 1);change Nd (W.drewN q1).drew A X r d l s k at h3;have M3:Hid (Mv A A X X w (W.drewN q1).drew):=af ((QU.out.trans (Mv.below (aB W q1))).trans (Mv.below (aB _ 1)));have hkM:(W.drewN q1).drew.cell? ⟨M,0,none⟩=some (.int .i64 (fr:Int)):=SY;clear SY Y7 Uu Sk hc0 Re hc7 Qh;obtain ⟨D,L,R,vl,gv,gn,gm,gh,h4,TT⟩:=h3;have hk12:(W.drewN q1).drew.cell? ⟨r,12,none⟩=some (.slice (some ⟨gv,0,none⟩) s.n s.n):=by rw [ap h4.cell];rfl
  have hkv:(W.drewN q1).drew.cell? ⟨gv,fr,none⟩=some (.bool (s.OB.getD fr false)):=by rw [ap h4.OB];exact pC _ _ (by rw [HW.out.vl];exact hf2)
  have hzv:=aU h4.OB fr;have hf3:(fr:Int)<(s.n:Int):=az;have hMgv:M≠gv:=λe=>HPN.out gv ((TT gv).2 (.inr (.inr h4.vR))) e.symm;have Xw:r≠gv:=cQ h4.cell h4.OB dZ;have HK3:Hid (∀v,((W.drewN q1).drew.setCell ⟨gv,fr,none⟩ v).cell? ⟨r,12,none⟩=some (.slice (some ⟨gv,0,none⟩) s.n s.n)/\((W.drewN q1).drew.setCell ⟨gv,fr,none⟩ v).cell? ⟨M,0,none⟩=some (.int .i64 (fr:Int))):=af (λv=>by
   have ho:Only [gv] (W.drewN q1).drew ((W.drewN q1).drew.setCell ⟨gv,fr,none⟩ v):=(Only.refl _ _).setCell bL _;exact ⟨ho.cell hk12 (by simpa using Xw),ho.cell hkM (by simpa using hMgv)⟩)
  have H4:Hid (Py (W.drewN q1).drew ((W.drewN q1).drew.setCell ⟨gv,fr,none⟩ (.bool true)) A X r d l { s with OB:=s.OB.set fr true } k):=af ((h4.Uk fr true).ndpR TT (S:=[gv]) ((Only.refl _ _).setCell bL _) (λb hb=>by rw [aj.1 hb];exact h4.vR));have Ym:Hid (Wf { s with OB:=s.OB.set fr true } k):=af (fF HW.out s.lives s.Ox s.OA (s.OB.set fr true) HW.out.tick (by rw [cY];exact HW.out.vl) (ah _));clear h4 TT hMgv Xw;generalize s.OB.getD fr false=vo at *;refine wp_region_held_drew (S:=λw'=>w'.cell? ⟨r,12,none⟩=some (.slice (some ⟨gv,0,none⟩) s.n s.n)/\w'.cell? ⟨M,0,none⟩=some (.int .i64 (fr:Int))) dW ⟨hk12,hkM⟩ (λaD=>?_);refine aJ 0 ?_;refine aJ 1 ?_;refine aJ 2 ?_;refine aJ 3 ?_;refine aJ 4 ?_;refine aJ 5 ?_;refine aJ 6 ?_;generalize (W.drewN q1).drew=V3 at *;refine dh 7 λK hK=>?_;go_simp
  refine hK.out _ _ (HK3.out _) (λaD=>?_);clear hK K;refine bX ?_;refine iX ?_;clear aD;generalize V3.setCell ⟨gv,fr,none⟩ (.bool true)=W4 at *;go_wp2_with fail
  obtain ⟨A5,X5,h5,m5⟩:=H4.out;have H5:=af h5;have M5:=af (M3.out.trans m5);have HCH:=af (rG h5 Ym.out.n5 Ym.out.vl);clear h5 m5 hk12 hkM hkv hzv HK3 H4;generalize ({ s with OB:=s.OB.set fr true }:Rp)=s5 at *;refine HCH.out.mono ?_;rintro e w9 ⟨rfl,rfl⟩;cases hch:gI s5 with
  | true =>
   rw [hch,ay rfl] at HE;go_wp2_with fail
   refine (vX H5.out Ym.out).mono ?_;rintro e w9 ⟨v9,A9,X9,rfl,h9,ho9,m9⟩;have HF:=af (PE.trans M5.out ⟨v9,A9,X9,rfl,h9,ho9,m9⟩);clear h9 ho9 m9;exact qW
  | false =>
   rw [hch,am bL] at HE;go_wp2_with fail
   go_ret
   rw [HE.out];exact PE.none (H5.out.VJ M5.out)
end
section
variable {w w':World} {A A' X X':List Nat} {r d l:Nat} {s s':Rp} {k k':Dk}
def uG (s:Rp) (m:OM):Bool := !s.Oy || !(m.N.getD 0 0==s.Ow) || !(m.N.length==3)||decide (m.N.getD 2 0<0)||decide ((s.Oz.length:Int)<m.N.getD 2 0)
theorem uD (m:OM) (h:uG s m=true):cG s m=([],s):=by unfold cG;rw [ay (by exact h)]
theorem xg (m:OM) (fr kk:Nat) (h:uG s m=false) (hf:m.OD=(fr:Int)) (hk:m.N.getD 2 0=(kk:Int)):cG s m =
  if m.N.getD 1 0=0 then (if s.next.getD fr 0<=kk then ([],s) else ([cF { s with next:=s.next.set fr (max kk (s.OE.getD fr 0))} fr],{ s with next:=s.next.set fr (max kk (s.OE.getD fr 0))}))
  else if kk<=s.OE.getD fr 0 then ([],s) else
   (let p:=bZ { s with OE:=s.OE.set fr kk,next:=s.next.set fr (max kk (s.next.getD fr 0))}
    if p.1 then (dB p.2 (cF p.2),p.2) else if p.2.next.getD fr 0<p.2.Oz.length then ([cF p.2 fr],p.2) else ([],p.2)):=by
 unfold cG;rw [am (by show ¬uG s m=true;rw [h];decide)];rw [hf,hk,bU,bU]
theorem vQ (a b:Nat):max (a:Int) (b:Int)=((max a b:Nat):Int):=az
theorem uE (h:Nd w A X r d l s k) (hw:Wf s k) (m:OM) (v u:Value) (hm:OU w A m v u) (fr:Nat) (T7:m.OD=(fr:Int)) (hf2:fr<s.n) (hlen:2<=m.N.length):Calls Tryz.prog 74 #[.pointer (some ⟨r,0,none⟩),en m v u] w λe w'=>PE w w' A X r d l e ((cG s m).1,(cG s m).2,k):=by
 have Pe:Below w.heap.size w (w.alloc (.cells (cJ m v u) 83)):=(aG _ _).alloc (ah _) _;have P0:=aV w (.cells (cJ m v u) 83);have h1:=h.below Pe;have QU:Hid (Mv A A X X w (w.alloc (.cells (cJ m v u) 83))):=af (Mv.below Pe);have SY:(w.alloc (.cells (cJ m v u) 83)).cell? ⟨w.heap.size,0,none⟩=some (.int .i64 m.OD):=jn;have Y7:(w.alloc (.cells (cJ m v u) 83)).cell? ⟨w.heap.size,3,none⟩=some v:=jn;obtain ⟨b,off,c,hc⟩:=AX hm.n az;have VY:=hc.below Pe;have hv:=hc.v;subst hv;have Uu:=VY.at_ 0 az;have Sk:=VY.at_ 1 az;rw [eK] at Uu;have Wc:=λ(h3:m.N.length=3)=>VY.at_ 2 az;obtain ⟨al,cl,Rq,PH,hl2⟩:=h1.Qd;obtain ⟨vl,gv0,gn0,gm0,gh0,hcell⟩:=h1.cells;have Re:(w.alloc (.cells (cJ m (.slice (some ⟨b,off,none⟩) m.N.length c) u) 83)).cell? ⟨r,6,none⟩=some (.int .i64 s.Ow):=iI;have Qh:(w.alloc (.cells (cJ m (.slice (some ⟨b,off,none⟩) m.N.length c) u) 83)).cell? ⟨r,11,none⟩=some (.bool s.Oy):=iI;have Zy:=af (uD (s:=s) m);have HEQ:=af (λkk h hk=>xg (s:=s) m fr kk h T7 hk);have WC:Hid (uG s m=(!s.Oy || !(m.N.getD 0 0==s.Ow) || !(m.N.length==3)||decide (m.N.getD 2 0<0)||decide ((s.Oz.length:Int)<m.N.getD 2 0))):=af rfl;have Ri:=af h1;have HW:=af hw;have hl0:(0:Int)<(m.N.length:Int):=az;have hl1':(1:Int)<(m.N.length:Int):=az;rw [T7] at SY;clear h h1 hw hm hcell Pe P0 hc VY;unfold en cJ at *;rw [T7] at *;generalize m.N.getD 0 0=n0 at *;generalize m.N.getD 1 0=n1 at *;generalize m.N.getD 2 0=n2 at *;generalize m.N.length=nl at *;generalize SD:s.Oz.length=sl at *;go_enter Tryz.func74,Tryz.ntmps74
 go_upto_region 1 with (fail)
 generalize w.alloc (.cells #[.int .i64 (fr:Int),.int .i64 m.dst,.int .i64 m.kind,.slice (some ⟨b,off,none⟩) nl c,u] 83)=W at *;generalize w.heap.size=M at *;go_cut [47] (λv wx=>v = .bool (!s.Oy || !(n0==s.Ow) || !(nl==3)||decide (n2<0)||decide ((sl:Int)<n2))/\∃q,wx=W.drewN q)
 case first =>
  cases b1:s.Oy with
  | false =>
   rw [b1] at Qh;exact Kt
  | true =>
   rw [b1] at Qh;cases b2:n0==s.Ow with
   | false =>
    have g2:(n0 != s.Ow)=true:=by rw [bne,b2];rfl
    exact GS
   | true =>
    have g2:(n0 != s.Ow)=false:=by rw [bne,b2];rfl
    by_cases h3:nl=3
    ·subst h3;have Wc:=Wc rfl;cases b4:decide (n2<0) with
     | true =>
      exact Jn
     | false =>
      exact Jn
    ·have g3:((nl:Int) != 3)=true:=by rw [bne_iff_ne];omega
     have e3:(nl==3)=false:=by simpa using h3
     go_quiet (fail)
     go_wp2_with fail
     go_meet
     exact ⟨by rw [b1,b2,e3];rfl,nq,rfl⟩
 case rest =>
 obtain ⟨rfl,q1,rfl⟩:=hcut;cases hno:(!s.Oy || !(n0==s.Ow) || !(nl==3)||decide (n2<0)||decide ((sl:Int)<n2)) with
 | true =>
  have HE:=af (Zy.out (WC.out.trans hno));exact Mt
 | false =>
  have Un:=WC.out.trans hno;simp only [dw,gA,eP,cE] at hno;obtain ⟨⟨⟨⟨P9,_⟩,h3⟩,h4⟩,h5⟩:=hno;subst h3;obtain ⟨kk,rfl⟩:∃kk:Nat,n2=(kk:Int):=⟨n2.toNat,by omega⟩
  have HE:=af (HEQ.out kk Un rfl);have hkl:kk<=sl:=az;have Wc:=Wc rfl;go_upto_region 3 with (fail)
  go_quiet (fail)
  go_upto_region 4 with (fail)
  have Uq:=HW.out.QV;rw [SD] at Uq;have H3:=af ((Ri.out.below (aB W (q1+nq))).below (aB _ 1));have M3:=af ((QU.out.trans (Mv.below (aB W (q1+nq)))).trans (Mv.below (A:=A) (X:=X) (aB _ 1)));have SN:Hid (Nd (W.drewN (q1+nq)) A X r d l s k/\Mv A A X X w (W.drewN (q1+nq))):=af ⟨Ri.out.below (aB W (q1+nq)),QU.out.trans (Mv.below (aB W (q1+nq)))⟩;obtain ⟨D,L,R,vl,gv,gn,gm,gh,h4,TT⟩:=SN.out.1;have hj13:(W.drewN (q1+nq)).cell? ⟨r,13,none⟩=some (.slice (some ⟨gn,0,none⟩) s.n s.n):=by rw [ap h4.cell];rfl
  have hj14:(W.drewN (q1+nq)).cell? ⟨r,14,none⟩=some (.slice (some ⟨gm,0,none⟩) s.n s.n):=by rw [ap h4.cell];rfl
  have Vv:(W.drewN (q1+nq)).cell? ⟨gn,fr,none⟩=some (.int .i64 (s.next.getD fr 0:Int)):=by rw [ap h4.next];exact iH _ _ (by rw [HW.out.nl];exact hf2)
  have hjm:(W.drewN (q1+nq)).cell? ⟨gm,fr,none⟩=some (.int .i64 (s.OE.getD fr 0:Int)):=by rw [ap h4.OE];exact iH _ _ (by rw [HW.out.ml];exact hf2)
  have hkN1:(W.drewN (q1+nq)).cell? ⟨b,off+1,none⟩=some (.int .i64 n1):=Sk;have hkM3:(W.drewN (q1+nq)).cell? ⟨M,3,none⟩=some (.slice (some ⟨b,off,none⟩) 3 c):=Y7;have hf3:(fr:Int)<(s.n:Int):=az;have hMT:s.OE.getD fr 0<=sl:=by rw [<-SD];exact (HW.out.lead P9 fr).2
  have hNT:s.next.getD fr 0<=sl:=by rw [<-SD];exact (HW.out.lead P9 fr).1
  have HW7:Hid (Wf { s with next:=s.next.set fr (max kk (s.OE.getD fr 0))} k):=af (qc HW.out fr _ (λ_=>by rw [SD];omega));have HW11:Hid (Wf { s with OE:=s.OE.set fr kk,next:=s.next.set fr (max kk (s.next.getD fr 0))} k):=af (qc (xC HW.out fr kk (λ_=>by rw [SD];omega)) fr _ (λ_=>by show _<=s.Oz.length;rw [SD];omega));have HH4:=af h4;have HX4:=af TT;clear Re Rq Qh SY Y7 Uu Sk Wc Un h4 TT h5;generalize hmt:s.OE.getD fr 0=mt at *;generalize hnt:s.next.getD fr 0=nt at *
  (try rw [fg W q1 nq])
  generalize W.drewN (q1+nq)=W3 at *;by_cases PT:n1=0
  ·rw [ay PT] at HE;have g1:(n1==0)=true:=by simpa using PT
   by_cases Qv:nt<=kk
   ·have g2:(nt:Int)<=(kk:Int):=by omega
    exact JG
   ·have g2:¬(nt:Int)<=(kk:Int):=by omega
    rw [am Qv] at HE;go_upto_region 7 with (fail)
    have h4:=HH4.out.below (aB W3 1);change QK W3.drew A D L R r d l s k vl gv gn gm gh at h4;have TT:=HX4.out;have hmx:=vQ kk mt;have Tg:W3.drew.cell? ⟨r,13,none⟩=some (.slice (some ⟨gn,0,none⟩) s.n s.n):=hj13;have Te:W3.drew.cell? ⟨r,14,none⟩=some (.slice (some ⟨gm,0,none⟩) s.n s.n):=hj14;have hkm:W3.drew.cell? ⟨gm,fr,none⟩=some (.int .i64 (mt:Int)):=hjm;have VV:W3.drew.cell? ⟨gn,fr,none⟩=some (.int .i64 (nt:Int)):=Vv;have hzn:=aU h4.next fr;have hrn:r≠gn:=cQ h4.cell h4.next dZ;have HK7:Hid (∀v,(W3.drew.setCell ⟨gn,fr,none⟩ v).cell? ⟨r,13,none⟩=some (.slice (some ⟨gn,0,none⟩) s.n s.n)/\(W3.drew.setCell ⟨gn,fr,none⟩ v).cell? ⟨r,14,none⟩=some (.slice (some ⟨gm,0,none⟩) s.n s.n)/\(W3.drew.setCell ⟨gn,fr,none⟩ v).cell? ⟨gm,fr,none⟩=some (.int .i64 (mt:Int))):=af (λv=>by
     have ho:Only [gn] W3.drew (W3.drew.setCell ⟨gn,fr,none⟩ v):=(Only.refl _ _).setCell bL _;exact ⟨ho.cell Tg (by simpa using hrn),ho.cell Te (by simpa using hrn),ho.cell hkm (by simpa using h4.nm.symm)⟩)
    have H4:Hid (Py W3.drew (W3.drew.setCell ⟨gn,fr,none⟩ (.int .i64 ((max kk mt:Nat):Int))) A X r d l { s with next:=s.next.set fr (max kk mt)} k):=af ((h4.U6 fr (max kk mt)).ndpR TT (S:=[gn]) ((Only.refl _ _).setCell bL _) (λb hb=>by rw [aj.1 hb];exact h4.nR));have M4:Hid (Mv A A X X w W3.drew):=af (SN.out.2.trans (Mv.below (aB _ 1)));clear h4 TT hrn hj13 hj14 Vv hjm hkN1 hkM3;refine wp_region_held_drew (S:=λw'=>w'.cell? ⟨r,13,none⟩=some (.slice (some ⟨gn,0,none⟩) s.n s.n)/\w'.cell? ⟨r,14,none⟩=some (.slice (some ⟨gm,0,none⟩) s.n s.n)/\w'.cell? ⟨gm,fr,none⟩=some (.int .i64 (mt:Int))) dW ⟨Tg,Te,hkm⟩ (λaD=>?_);refine aJ 0 ?_;refine aJ 1 ?_;refine aJ 2 ?_;refine aJ 3 ?_;refine aJ 4 ?_;refine aJ 5 ?_;refine aJ 6 ?_;refine aJ 7 ?_;refine aJ 8 ?_;refine aJ 9 ?_;refine aJ 10 ?_;refine aJ 11 ?_;refine aJ 12 ?_;refine aJ 13 ?_;refine aJ 14 ?_;generalize W3.drew=V3 at *;refine dh 15 λK hK=>?_;go_simp
    refine hK.out _ _ (HK7.out _) (λaD=>?_);clear hK K;refine bX ?_;refine iX ?_;clear aD;generalize V3.setCell ⟨gn,fr,none⟩ (.int .i64 ((max kk mt:Nat):Int))=W4 at *;go_wp2_with fail
    obtain ⟨A5,X5,h5,m5⟩:=H4.out;have H5:=af h5;have M5:=af (M4.out.trans m5);have HLY:=af (mV h5 HW7.out fr hf2 (by
     have h9:=(HW7.out.lead P9 fr).1;exact h9))
    clear h5 m5 Tg Te hkm VV hzn HK7 H4;generalize ({ s with next:=s.next.set fr (max kk mt)}:Rp)=s5 at *;refine HLY.out.mono ?_;rintro e W6 ⟨v6,u6,rfl,hm6,SE⟩;have HF:=af (PE.trans M5.out (mL H5.out SE _ _ _ hm6));unfold cJ at HF;unfold en;clear hm6 SE;exact qW
  ·rw [am PT] at HE;have g1:(n1==0)=false:=by simpa using PT
   by_cases Qv:kk<=mt
   ·have g2:(kk:Int)<=(mt:Int):=by omega
    exact JG
   ·have g2:¬(kk:Int)<=(mt:Int):=by omega
    rw [am Qv] at HE;go_upto_region 11 with (fail)
    have h4:=HH4.out.below (aB W3 1);change QK W3.drew A D L R r d l s k vl gv gn gm gh at h4;have TT:=HX4.out;have hmx:=vQ kk nt;have Tg:W3.drew.cell? ⟨r,13,none⟩=some (.slice (some ⟨gn,0,none⟩) s.n s.n):=hj13;have Te:W3.drew.cell? ⟨r,14,none⟩=some (.slice (some ⟨gm,0,none⟩) s.n s.n):=hj14;have hkm:W3.drew.cell? ⟨gm,fr,none⟩=some (.int .i64 (mt:Int)):=hjm;have VV:W3.drew.cell? ⟨gn,fr,none⟩=some (.int .i64 (nt:Int)):=Vv;have hzn:=aU h4.next fr;have hzm:=aU h4.OE fr;have hrn:r≠gn:=cQ h4.cell h4.next dZ;have hrm:r≠gm:=cQ h4.cell h4.OE dZ;have o1:∀v,Only [gm] W3.drew (W3.drew.setCell ⟨gm,fr,none⟩ v):=λv=>(Only.refl _ _).setCell bL _;have hkn2:(W3.drew.setCell ⟨gm,fr,none⟩ (.int .i64 (kk:Int))).cell? ⟨gn,fr,none⟩=some (.int .i64 (nt:Int)):=(o1 _).cell VV (by simpa using h4.nm);have hzn2:=aU ((o1 (.int .i64 (kk:Int))).keeps h4.next (by simpa using h4.nm)) fr;have HK11:Hid (∀v w5,(w5=W3.drew.setCell ⟨gm,fr,none⟩ (.int .i64 (kk:Int))\/w5=(W3.drew.setCell ⟨gm,fr,none⟩ (.int .i64 (kk:Int))).setCell ⟨gn,fr,none⟩ v)->w5.cell? ⟨r,13,none⟩=some (.slice (some ⟨gn,0,none⟩) s.n s.n)/\w5.cell? ⟨r,14,none⟩=some (.slice (some ⟨gm,0,none⟩) s.n s.n)):=af (λv w5 e=>by
     have ho:Only [gn,gm] W3.drew w5:=by
      rcases e with rfl | rfl
      ·exact (Only.refl _ _).setCell bL _
      ·exact Ea
     exact ⟨ho.cell Tg (by simp [hrn,hrm]),ho.cell Te (by simp [hrn,hrm])⟩)
    have H4:Hid (Py W3.drew ((W3.drew.setCell ⟨gm,fr,none⟩ (.int .i64 (kk:Int))).setCell ⟨gn,fr,none⟩ (.int .i64 ((max kk nt:Nat):Int))) A X r d l { s with OE:=s.OE.set fr kk,next:=s.next.set fr (max kk nt)} k):=af (((h4.WG fr kk).U6 fr (max kk nt)).ndpR TT (S:=[gn,gm]) (((Only.refl _ _).setCell bL _).setCell bL _) (λb hb=>by
     simp at hb;rcases hb with rfl | rfl
     ·exact h4.nR
     ·exact h4.mR))
    have M4:Hid (Mv A A X X w W3.drew):=af (SN.out.2.trans (Mv.below (aB _ 1)));clear h4 TT hrn hrm o1 hj13 hj14 Vv hjm hkN1 hkM3;refine wp_region_held_drew (S:=λw'=>w'.cell? ⟨r,13,none⟩=some (.slice (some ⟨gn,0,none⟩) s.n s.n)/\w'.cell? ⟨r,14,none⟩=some (.slice (some ⟨gm,0,none⟩) s.n s.n)) dW ⟨Tg,Te⟩ (λaD=>?_);refine aJ 0 ?_;refine aJ 1 ?_;refine aJ 2 ?_;refine aJ 3 ?_;refine aJ 4 ?_;refine aJ 5 ?_;refine aJ 6 ?_;refine aJ 7 ?_;refine aJ 8 ?_;refine aJ 9 ?_;refine aJ 10 ?_;refine aJ 11 ?_;refine aJ 12 ?_;refine aJ 13 ?_;refine aJ 14 ?_;refine aJ 15 ?_;refine aJ 16 ?_;refine aJ 17 ?_;generalize W3.drew=V3 at *;refine dh 18 λK hK=>?_;go_simp
    refine hK.out _ _ aD (λaD=>?_);clear hK K;refine bX ?_;refine aJ 19 ?_;refine aJ 20 ?_;refine dh 21 λK hK=>?_;go_simp
    refine hK.out _ _ (HK11.out undef _ (.inl rfl)) (λaD=>?_);clear hK K;refine bX ?_;refine aJ 22 ?_;refine dh 23 λK hK=>?_;go_simp
    refine hK.out _ _ (HK11.out _ _ (.inr rfl)) (λaD=>?_);clear hK K;refine bX ?_;refine iX ?_;clear aD;generalize (V3.setCell ⟨gm,fr,none⟩ (.int .i64 (kk:Int))).setCell ⟨gn,fr,none⟩ (.int .i64 ((max kk nt:Nat):Int))=W4 at *;go_wp2_with fail
    obtain ⟨A5,X5,h5,m5⟩:=H4.out;have H5:=af h5;have M5:=af (M4.out.trans m5);clear h5 m5 Tg Te hkm VV hzn hzm hkn2 hzn2 HK11 H4;have ZN:({ s with OE:=s.OE.set fr kk,next:=s.next.set fr (max kk nt)}:Rp).Oy=true:=P9;have O8:({ s with OE:=s.OE.set fr kk,next:=s.next.set fr (max kk nt)}:Rp).n=s.n:=rfl
    (try simp only at HE)
    generalize ({ s with OE:=s.OE.set fr kk,next:=s.next.set fr (max kk nt)}:Rp)=s5 at *;refine (my H5.out HW11.out).mono ?_;rintro e W6 ⟨rfl,A6,X6,h6,m6⟩;have H6:=af h6;have M6:=af (M5.out.trans m6);have Zf:=af (gL HW11.out);have HL6:Hid ((bZ s5).2.Oy=true):=af (by rw [kv];exact ZN);have VC:Hid ((bZ s5).2.n=s.n):=af (by rw [Dh];exact O8);clear h6 m6 ZN O8;generalize bZ s5=q6 at *;obtain ⟨ob,s6⟩:=q6
    (try simp only at HE);(try simp only at H6);(try simp only at Zf);(try simp only at HL6);(try simp only at VC)
    cases ob with
    | true =>
     rw [ay rfl] at HE;go_wp2_with fail
     refine (iA H6.out Zf.out.n5 Zf.out (λi _=>(Zf.out.lead HL6.out i).1)).mono ?_;rintro e w4 ⟨v4,rfl,Rb,hb4⟩;have HF:=af (PE.trans M6.out (ip H6.out Rb hb4));clear Rb hb4;exact qW
    | false =>
     rw [am bL] at HE;go_upto_region 14 with (fail)
     obtain ⟨D,L,R,vl,gv,gn,gm,gh,h7,hX7⟩:=H6.out;obtain ⟨al,cl,ZF,hyl,hyc⟩:=H6.out.Qd;have hy13:W6.cell? ⟨r,13,none⟩=some (.slice (some ⟨gn,0,none⟩) s6.n s6.n):=by rw [ap h7.cell];rfl
     have hyn:W6.cell? ⟨gn,fr,none⟩=some (.int .i64 (s6.next.getD fr 0:Int)):=by rw [ap h7.next];exact iH _ _ (by rw [Zf.out.nl,VC.out];exact hf2)
     rw [VC.out] at hy13;clear h7 hX7;have HLY:=af (λq=>mV (H6.out.below (aB W6 q)) Zf.out fr (by rw [VC.out];exact hf2) (Zf.out.lead HL6.out fr).1);by_cases hlt:s6.next.getD fr 0<s6.Oz.length
     ·have g3:decide (s6.next.getD fr 0<s6.Oz.length)=true:=aO hlt;rw [ay hlt] at HE;clear hlt;generalize s6.next.getD fr 0=x6 at *;generalize s6.Oz.length=y6 at *;go_quiet (fail)
      go_wp2_with fail
      refine (HLY.out nq).mono ?_;rintro e W7 ⟨v7,u7,rfl,hm7,Yd⟩;have HF:=af (PE.trans (M6.out.trans (Mv.below (aB W6 nq))) (mL (H6.out.below (aB W6 nq)) Yd _ _ _ hm7));unfold cJ at HF;unfold en;clear hm7 Yd;exact qW
     ·have g3:decide (s6.next.getD fr 0<s6.Oz.length)=false:=bp hlt;rw [am hlt] at HE;clear hlt;generalize s6.next.getD fr 0=x6 at *;generalize s6.Oz.length=y6 at *;go_quiet (fail)
      go_wp2_with fail
      go_ret
      rw [HE.out];exact PE.none ((H6.out.below (aB W6 nq)).VJ (M6.out.trans (Mv.below (aB W6 nq))))
end
structure RI (w:World) (A:List Nat) (M:Nat) (m:OM) (b off c:Nat) (u:Value):Prop where
 cell:w.heap[M]? = some (.cells (cJ m (.slice (some ⟨b,off,none⟩) m.N.length c) u) 83 (0,0))
 TD:∀i,i<m.N.length->w.cell? ⟨b,off+i,none⟩=some (.int .i64 (m.N.getD i 0))
 bs:PV w A u m.B
 nM:M∉A
 nb:b∉A
 lb:b<w.heap.size
section
variable {w w':World} {A A' X X':List Nat} {r d l:Nat} {s s':Rp} {k k':Dk}
theorem RI.step {M b off c:Nat} {m:OM} {u:Value} {S:List Nat} (h:RI w A M m b off c u) (ho:Only S w w') (hS:∀x∈S,x∈A) (he:Ext A A' w):RI w' A' M m b off c u:=by
 have hlt:=bg h.cell;refine ⟨ho.keeps h.cell (λhm=>h.nM (hS _ hm)),λi hi=>ho.cell (h.TD i hi) (λhm=>h.nb (hS _ hm)),h.bs.step ho hS he,λhm=>?_,λhm=>?_,aK h.lb ho.size⟩
 ·rcases he _ hm with h1 | h1
  ·exact h.nM h1
  ·omega
 ·rcases he _ hm with h1 | h1
  ·exact h.nb h1
  ·have:=h.lb;omega
theorem RI.below {M b off c:Nat} {m:OM} {u:Value} (h:RI w A M m b off c u) (hb:Below w.heap.size w w'):RI w' A M m b off c u:=h.step (Only.OL hb []) (λx hx=>by cases hx) (Ext.refl _ _)
theorem wo (hA:∀b∈A,b<w.heap.size) {m:OM} {v u:Value} (hm:OU w A m v u) (hn:0<m.N.length):∃b off c,v = .slice (some ⟨b,off,none⟩) m.N.length c/\RI (w.alloc (.cells (cJ m v u) 83)) A w.heap.size m b off c u:=by
 have Pe:Below w.heap.size w (w.alloc (.cells (cJ m v u) 83)):=(aG _ _).alloc (ah _) _;obtain ⟨ao,c,rfl,h1,h2,h9,h3⟩:=id hm.n;obtain ⟨_,_,h4⟩:=h1;rcases h4 with h4 | ⟨b,off,h5,h6⟩
 ·omega
 ·subst h5;obtain ⟨h7,h8⟩:=h3 _ rfl;exact ⟨b,off,c,rfl,aV _ _,λi hi=>cell_later Pe (by rw [h6 i hi]),hm.b.below Pe,λhm=>by have:=hA _ hm;omega,h7,aK h8 Pe.size⟩
theorem NC {u:Value} {ls:List (List UInt8)} (h:PV w A u ls) (i:Nat) (hi:i<ls.length):∃g c ui,u = .slice (some ⟨g,0,none⟩) ls.length c/\w.cell? ⟨g,i,none⟩=some ui/\Qi w A ui (ls.getD i []):=by
 rcases h with ⟨_,h0⟩ | ⟨g,c,cur,rfl,h1,h2,h3,h4,h5⟩
 ·rw [h0] at hi;cases hi
 ·obtain ⟨ui,k1,k2⟩:=h5 i hi;exact ⟨g,c,ui,rfl,by rw [ap h4];exact k1,k2⟩
theorem oC {u:Value} {ls:List (List UInt8)} (h:PV w A u ls):∃ao c,u = .slice ao ls.length c:=by
 rcases h with ⟨rfl,rfl⟩ | ⟨g,c,cur,rfl,_⟩
 ·exact ⟨none,0,rfl⟩
 ·exact ⟨_,c,rfl⟩
theorem AL (p:Nat) (x:Po) (hp:p<=s.Oz.length) (h:(cR s k p x).1=true):(cR s k p x).2.1.Oz.length=p+1:=by
 have hs:=fj (s:=s) (k:=k) (dY p x);unfold cR at *;generalize bQ s k (dY p x)=q at *;simp only at *;split at h
 ·cases h
 ·rename_i hd;rw [am hd];have PH:q.1.Oz=s.Oz:=by rw [hs]
  show (q.1.Oz.take p++[x]).length=p+1;rw [PH];simp [bT hp]
theorem AM (h:Nd w A X r d l s k) (hw:Wf s k) (p:Nat) (z:Int) (hz:z=(p:Int)) (x:Po) (hp:p<=s.Oz.length) (hx:x.bs.length<=8000) (u:Value) (hu:Qi w A u x.bs) :
  Calls Tryz.prog 97 #[.pointer (some ⟨r,0,none⟩),.int .i64 z,wP x u] w λe w'=>e = .returned (.bool (cR s k p x).1)/\Py w w' A X r d l (cR s k p x).2.1 (cR s k p x).2.2:=by
 subst hz;exact sK h hw p x hp hx u hu
theorem Cd (h:Nd w A X r d l s k) (z:Int) (hn:z<=s.Oz.length) (hb:s.Oz.length<=1000000) (hm:s.many<=s.agreed):Calls Tryz.prog 98 #[.pointer (some ⟨r,0,none⟩),.int .i64 z] w λe w'=>Nd w' A X r d l (cI s z.toNat) k/\Only [r] w w'/\e = .returned (.tuple #[]):=by
 by_cases hz:0<=z
 ·obtain ⟨n,rfl⟩:∃n:Nat,z=(n:Int):=⟨z.toNat,by omega⟩
  exact tt h n az hb hm
 ·have HE:=af (tu s z.toNat az);have H0:=af h;obtain ⟨vl,gv,gn,gm,gh,hcell⟩:=h.cells;have Q5:w.cell? ⟨r,9,none⟩=some (.int .i64 (s.agreed:Int)):=iI;have hlt:¬(s.agreed:Int)<z:=az;exact MG
end
section
variable {w w':World} {A A' X X':List Nat} {r d l:Nat} {s s':Rp} {k k':Dk}
def jJ (s:Rp) (m:OM):Bool := !(m.N.length==4+m.B.length)||decide (m.N.getD 1 0<0)||(m.N.getD 0 0==s.Ow&&s.Oy)
theorem wh (m:OM) (h:jJ s m=true):eA s k m=([],s,k):=by unfold eA;rw [ay (by exact h)]
theorem vZ (m:OM) (h:jJ s m=false) (h2:m.N.getD 0 0<s.Ow):eA s k m=([dQ s m.OD 4 [s.Ow,0,0]],s,k):=by
 unfold eA;rw [am KV,ay h2]
theorem rg (m:OM) (h:jJ s m=false) (h2:¬m.N.getD 0 0<s.Ow) (h3:fN { s with Ox:=0 } (m.N.getD 1 0) (m.N.getD 2 0)=false):eA s k m=([dQ { s with Ox:=0 } m.OD 4 [s.Ow,0,min (s.Oz.length:Int) (max (m.N.getD 1 0 - 1) 0)]],{ s with Ox:=0 },k):=by
 unfold eA;rw [am KV,am h2];simp only;rw [am (by rw [h3];decide)]
theorem wg (m:OM) (f:Nat) (h:jJ s m=false) (h2:¬m.N.getD 0 0<s.Ow) (h3:fN { s with Ox:=0 } (m.N.getD 1 0) (m.N.getD 2 0)=true) (hf:m.N.getD 1 0=(f:Int)):eA s k m =
  (let p:=bH f ((m.N.drop 4).zip m.B) 0 { s with Ox:=0 } k
   if p.1 then
    let q:=if m.B.length=0 then p.2 else cO p.2.1 p.2.2
    if 0<m.B.length/\q.1.done=true then ([],q) else
    let s2:=cI q.1 (min (m.N.getD 3 0) ((f+m.B.length:Nat):Int)).toNat
    ([dQ s2 m.OD 4 [s2.Ow,1,((f+m.B.length:Nat):Int)]],s2,q.2)
   else ([],p.2)):=by
 unfold eA;rw [am KV,am h2];simp only;rw [ay h3,hf,bU]
theorem Cm (m:OM) (j:Nat) (h1:4+j<m.N.length) (h2:j<m.B.length):((m.N.drop 4).zip m.B).drop j=(m.N.getD (4+j) 0,m.B.getD j [])::((m.N.drop 4).zip m.B).drop (j+1):=by
 have hl:j<((m.N.drop 4).zip m.B).length:=by rw [List.length_zip,cH];omega
 rw [dP hl];congr 1;simp [List.getElem_zip,List.getD,h1,h2]
theorem Hm (h:Nd w A X r d l s k) (hw:Wf s k) (m:OM) (v u:Value) (hm:OU w A m v u) (hlen:2<=m.N.length) (hle:m.N.getD 0 0<=s.Ow) (UJ:m.N.getD 1 0<=4611686018427387904) (hB:m.B.length<=1000000) (HC:Hid (¬(jJ s m=false/\¬m.N.getD 0 0<s.Ow/\fN { s with Ox:=0 } (m.N.getD 1 0) (m.N.getD 2 0)=true))) :
  Calls Tryz.prog 73 #[.pointer (some ⟨r,0,none⟩),en m v u] w λe w'=>PE w w' A X r d l e (eA s k m):=by
 have Pe:Below w.heap.size w (w.alloc (.cells (cJ m v u) 83)):=(aG _ _).alloc (ah _) _;have h1:=h.below Pe;have QU:Hid (Mv A A X X w (w.alloc (.cells (cJ m v u) 83))):=af (Mv.below Pe);obtain ⟨b,off,c,ev,hlc⟩:=wo h.alt hm az;subst ev;obtain ⟨ub,bc,eu⟩:=oC hm.b;subst eu;have SY:(w.alloc (.cells (cJ m (.slice (some ⟨b,off,none⟩) m.N.length c) (.slice ub m.B.length bc)) 83)).cell? ⟨w.heap.size,0,none⟩=some (.int .i64 m.OD):=Bq;have Y7:(w.alloc (.cells (cJ m (.slice (some ⟨b,off,none⟩) m.N.length c) (.slice ub m.B.length bc)) 83)).cell? ⟨w.heap.size,3,none⟩=some (.slice (some ⟨b,off,none⟩) m.N.length c):=Bq;have hM4:(w.alloc (.cells (cJ m (.slice (some ⟨b,off,none⟩) m.N.length c) (.slice ub m.B.length bc)) 83)).cell? ⟨w.heap.size,4,none⟩=some (.slice ub m.B.length bc):=Bq;have Uu:=hlc.TD 0 az;have Sk:=hlc.TD 1 az;rw [eK] at Uu;obtain ⟨al,cl,Rq,PH,hl2⟩:=h1.Qd;obtain ⟨vl,gv0,gn0,gm0,gh0,hcell⟩:=h1.cells;have Re:(w.alloc (.cells (cJ m (.slice (some ⟨b,off,none⟩) m.N.length c) (.slice ub m.B.length bc)) 83)).cell? ⟨r,6,none⟩=some (.int .i64 s.Ow):=iI;have T9:(w.alloc (.cells (cJ m (.slice (some ⟨b,off,none⟩) m.N.length c) (.slice ub m.B.length bc)) 83)).cell? ⟨r,15,none⟩=some (.int .i64 (s.Ox:Int)):=iI;have TY:=aU hcell 15;have Qh:(w.alloc (.cells (cJ m (.slice (some ⟨b,off,none⟩) m.N.length c) (.slice ub m.B.length bc)) 83)).cell? ⟨r,11,none⟩=some (.bool s.Oy):=iI;have Ri:=af h1;have HW:=af hw;have HLC:=af hlc;have Zy:=af (wh (s:=s) (k:=k) m);have HOLD:=af (vZ (s:=s) (k:=k) m);have Wp:=af (rg (s:=s) (k:=k) m);have Wy:=af (wg (s:=s) (k:=k) m);have WC:Hid (jJ s m=(!(m.N.length==4+m.B.length)||decide (m.N.getD 1 0<0)||(m.N.getD 0 0==s.Ow&&s.Oy))):=af rfl;have TN:Hid (∀(W8:World) A8 X8 s8 k8,Nd W8 A8 X8 r d l s8 k8->∀W9,Below W8.heap.size W8 W9->∀dst kind N ao n c,Calls Tryz.prog 67 #[.pointer (some ⟨r,0,none⟩),.int .i64 dst,.int .i64 kind,.slice ao n c] W9 λe w2=>e = .returned (en (dQ s8 dst kind N) (.slice ao n c) (.slice none 0 0))/\Below W9.heap.size W9 w2):=af (λW8 A8 X8 s8 k8 h W9 hb dst kind N ao n c=>lK (h.below hb) dst kind N ao n c);have hl0:(0:Int)<(m.N.length:Int):=az;have hl1':(1:Int)<(m.N.length:Int):=az;have q1:IntKind.i64.wrap (4+(m.B.length:Int))=4+(m.B.length:Int):=IntWalk.i64_in _ az;have UQ:Hid (∃z,z=m.N):=af ⟨_,rfl⟩;clear h h1 hw hm hcell Pe hlc;unfold en cJ at *;go_enter Tryz.func73,Tryz.ntmps73
 go_upto_region 1 with (fail)
 generalize hWW:w.alloc (.cells #[.int .i64 m.OD,.int .i64 m.dst,.int .i64 m.kind,.slice (some ⟨b,off,none⟩) m.N.length c,.slice ub m.B.length bc] 83)=W at *;generalize hMM:w.heap.size=M at *;generalize hn0:m.N.getD 0 0=n0 at *;generalize PT:m.N.getD 1 0=n1 at *;generalize Pf:m.N.getD 2 0=n2 at *;generalize T5:m.N.getD 3 0=n3 at *;generalize PD:m.N.length=nl at *;generalize hbl:m.B.length=bl at *;have HDR:=af (λa b=>fg W a b);go_cut [40] (λv wx=>v = .bool (!(nl==4+bl)||decide (n1<0)||(n0==s.Ow&&s.Oy))/\∃q,wx=W.drewN q)
 case first =>
  exact N8
 case rest =>
 obtain ⟨rfl,q2,rfl⟩:=hcut;cases hno:(!(nl==4+bl)||decide (n1<0)||(n0==s.Ow&&s.Oy)) with
 | true =>
  have HE:=af (Zy.out (WC.out.trans hno));go_wp2_with fail
  go_ret
  rw [HE.out];exact PE.none (Py.trans (QU.out.trans (Mv.below (aB W q2))) ((Ri.out.below (aB W q2)).VJ (Mv.refl _ _ _)))
 | false =>
  have Vn:=af (WC.out.trans hno);simp only [dw,gA,eP,cE,Bool.and_eq_false_imp] at hno;obtain ⟨⟨h4,h5⟩,h6⟩:=hno;subst h4;go_upto_region 3 with (fail)
  by_cases hold:n0<s.Ow
  ·have HE:=af (HOLD.out Vn.out hold);have g1:decide (n0<s.Ow)=true:=aO hold;go_quiet (fail)
   go_upto_region 4 with (fail)
   (try rw [fg W q2 nq])
   obtain ⟨PQ,Q9⟩:∃PQ,PQ=s.Ow:=⟨_,rfl⟩
   obtain ⟨s8,TR⟩:∃s8,s8=s:=⟨_,rfl⟩
   obtain ⟨k8,RG⟩:∃k8,k8=k:=⟨_,rfl⟩
   obtain ⟨A8,Wh⟩:∃A8,A8=A:=⟨_,rfl⟩
   obtain ⟨X8,V7⟩:∃X8,X8=X:=⟨_,rfl⟩
   have h8:Nd (W.drewN (q2+nq)).drew A8 X8 r d l s8 k8:=by rw [TR,RG,Wh,V7];exact (Ri.out.below (aB W (q2+nq))).below (aB _ 1)
   have M8:Hid (Mv A A8 X X8 w (W.drewN (q2+nq)).drew):=af (by rw [Wh,V7];exact (QU.out.trans (Mv.below (aB W (q2+nq)))).trans (Mv.below (aB _ 1)));have hMV:(W.drewN (q2+nq)).drew.cell? ⟨M,0,none⟩=some (.int .i64 m.OD):=SY;have Xx:(W.drewN (q2+nq)).drew.cell? ⟨r,6,none⟩=some (.int .i64 PQ):=by rw [Q9];exact Re
   have HE:Hid (eA s k m=([dQ s8 m.OD 4 [PQ,0,0]],s8,k8)):=af (by rw [TR,RG,Q9];exact HE.out);clear Re Rq Qh T9 TY SY Y7 hM4 Uu Sk Q9 TR RG Wh V7 hl0 hl1';generalize W.drewN (q2+nq)=W8 at *;have Tz:Hid (∀W',Below W8.drew.heap.size W8.drew W'->W'.cell? ⟨M,0,none⟩=some (.int .i64 m.OD)/\W'.cell? ⟨r,6,none⟩=some (.int .i64 PQ)):=af (λW' hb=>⟨cell_later hb hMV,cell_later hb Xx⟩);have Rv:=af (TN.out _ _ _ _ _ h8);have ZC:=af h8.alt;have QZ:Hid (∀o,Below W8.drew.heap.size W8.drew (W8.drew.alloc o)):=af (λo=>(aG _ _).alloc (ah _) o);have Tp:Hid (∀RH vv N,Below W8.drew.heap.size W8.drew RH->PB RH A8 vv N->PE w (RH.alloc (.cells (cJ (dQ s8 m.OD 4 N) vv (.slice none 0 0)) 83)) A X r d l (.returned (.slice (some ⟨RH.heap.size,0,none⟩) 1 1)) ([dQ s8 m.OD 4 N],s8,k8)):=af (λRH vv N hb hi=>PE.trans M8.out (mL h8 hb (dQ s8 m.OD 4 N) vv (.slice none 0 0) ⟨hi,.inl ⟨rfl,rfl⟩⟩));unfold cJ at Tp;refine wp_region_held_drew (S:=λw'=>w'.cell? ⟨M,0,none⟩=some (.int .i64 m.OD)/\w'.cell? ⟨r,6,none⟩=some (.int .i64 PQ)) dW (Tz.out _ (aG _ _)) (λaD=>?_);refine aJ 0 ?_;refine aJ 1 ?_;refine aJ 2 ?_;refine aJ 3 ?_;refine aJ 4 ?_;refine aJ 5 ?_;refine aJ 6 ?_;generalize W8.drew=V8 at *;refine dh 7 λK hK=>?_;go_simp
   refine hK.out _ _ (Tz.out _ (QZ.out (.cells #[.int .i64 PQ,.int .i64 0,.int .i64 0] 2))) (λaD=>?_);clear hK K;refine bX ?_;have Zq:Hid (PB (V8.alloc (.cells #[.int .i64 PQ,.int .i64 0,.int .i64 0] 2)) A8 (.slice (some ⟨V8.heap.size,0,none⟩) 3 3) [PQ,0,0]):=af (PB.fresh [PQ,0,0] _ rfl 2 3 rfl az ZC.out);have Tr:=af (QZ.out (.cells #[.int .i64 PQ,.int .i64 0,.int .i64 0] 2));generalize V8.alloc (.cells #[.int .i64 PQ,.int .i64 0,.int .i64 0] 2)=V9 at *;refine dh 8 λK hK=>?_;go_simp
   refine (Rv.out _ Tr.out _ _ [PQ,0,0] _ _ _).mono ?_;rintro e RH ⟨rfl,R6⟩;have Rx:=af (Tr.out.trans (R6.mono Tr.out.size));have Zr:=af (Zq.out.below R6);clear R6;go_wp2_with fail
   refine hK.out _ _ (Tz.out _ Rx.out) (λaD=>?_);clear hK K;refine bX ?_;refine dh 9 λK hK=>?_
   (try unfold en)
   go_simp
   refine hK.out _ _ (Tz.out _ (Rx.out.alloc Rx.out.size _)) (λaD=>?_);clear hK K;refine bX ?_;refine aJ 10 ?_;exact KG
  ·have g1:decide (n0<s.Ow)=false:=bp hold;have Xk:Hid (s.Oy=false):=af (h6 az);go_quiet (fail)
   go_upto_region 6 with (fail)
   (try rw [fg W q2 nq])
   have Uq:=HW.out.QV;have T4:r∈A:=Ri.out.xA r Ri.out.rX;have Vo:Hid (Py (W.drewN (q2+nq)) ((W.drewN (q2+nq)).setCell ⟨r,15,none⟩ (.int .i64 0)) A X r d l { s with Ox:=0 } k):=af (by
    refine Nd.TV (Ri.out.below (aB W (q2+nq))) ((Only.refl _ _).setCell bL _) ?_ rfl rfl rfl rfl rfl rfl;intro vl gv gn gm gh hc;rw [be hc];rfl)
   have SP:Hid (RI ((W.drewN (q2+nq)).setCell ⟨r,15,none⟩ (.int .i64 0)) A M m b off c (.slice ub bl bc)):=af ((HLC.out.below (aB W (q2+nq))).step (S:=[r]) ((Only.refl _ _).setCell bL _) (by simpa using T4) (Ext.refl _ _));have RJ:Hid (Only [r] (W.drewN (q2+nq)) ((W.drewN (q2+nq)).setCell ⟨r,15,none⟩ (.int .i64 0))):=af ((Only.refl _ _).setCell bL _);have HW5:Hid (Wf { s with Ox:=0 } k):=af (fF HW.out s.lives 0 s.OA s.OB (aH _) HW.out.vl (ah _));have HMD:Hid (Mv A A X X w (W.drewN (q2+nq))):=af (QU.out.trans (Mv.below (aB W (q2+nq))));clear Re Rq Qh T9 TY SY Y7 hM4 Uu Sk h6;generalize (W.drewN (q2+nq)).setCell ⟨r,15,none⟩ (.int .i64 0)=W5 at *;obtain ⟨A5,X5,h5n,m5⟩:=Vo.out;have Y6:∀x∈[r],x∈A:=by simpa using T4
   have SP:Hid (RI W5 A5 M m b off c (.slice ub bl bc)):=af ((HLC.out.below (aB W (q2+nq))).step RJ.out Y6 m5.ext);have M5:=af (HMD.out.trans m5);have H5:=af h5n;clear m5 RJ HMD Y6;have RZ:W5.drew.cell? ⟨M,3,none⟩=some (.slice (some ⟨b,off,none⟩) (4+bl) c):=by
    have h9:=ap SP.out.cell 3;exact D7
   have XD:W5.drew.cell? ⟨b,off+1,none⟩=some (.int .i64 n1):=by rw [<-PT];exact SP.out.TD 1 az
   have hn2c:W5.drew.cell? ⟨b,off+2,none⟩=some (.int .i64 n2):=by rw [<-Pf];exact SP.out.TD 2 az
   have h5d:Nd W5.drew A5 X5 r d l { s with Ox:=0 } k:=h5n.below (aB W5 1);have HFT:=af (wO h5d n1 n2 az (show s.Oz.length<=1000000 by omega));have hl2':(2:Int)<(4:Int)+(bl:Int):=az;have hl1b:(1:Int)<(4:Int)+(bl:Int):=az;have Wp:=af (Wp.out Vn.out hold);have Wy:=af (λf hf h3=>Wy.out f Vn.out hold h3 hf);generalize hs5:({ s with Ox:=0 }:Rp)=s5 at *;have ZX:Hid (s5.Ow=s.Ow/\s5.Oz=s.Oz/\s5.Oy=s.Oy):=af (by rw [<-hs5];exact ⟨rfl,rfl,rfl⟩);have HOLDF:=af hold;clear h5n hs5 hold h5d;go_cut [73] (λv wx=>v = .bool (!fN s5 n1 n2)/\wx=W5.drew)
   case first =>
    exact Ng
   case rest =>
   obtain ⟨rfl,rfl⟩:=hcut;have H6:Hid (Nd W5.drew A5 X5 r d l s5 k):=af (H5.out.below (aB W5 1));have HLC6:Hid (RI W5.drew A5 M m b off c (.slice ub bl bc)):=af (SP.out.below (aB W5 1));have M6:Hid (Mv A A5 X X5 w W5.drew):=af (M5.out.trans (Mv.below (aB W5 1)));clear HFT H5 M5 SP;generalize W5.drew=W6 at *;cases SJ:fN s5 n1 n2 with
   | false =>
    have HE:=af (Wp.out SJ);go_upto_region 7 with (fail)
    obtain ⟨PQ,Q9⟩:∃PQ,PQ=s5.Ow:=⟨_,rfl⟩
    obtain ⟨s8,TR⟩:∃s8,s8=s5:=⟨_,rfl⟩
    obtain ⟨k8,RG⟩:∃k8,k8=k:=⟨_,rfl⟩
    obtain ⟨A8,Wh⟩:∃A8,A8=A5:=⟨_,rfl⟩
    obtain ⟨X8,V7⟩:∃X8,X8=X5:=⟨_,rfl⟩
    obtain ⟨XT,hsl8⟩:∃XT,XT=s5.Oz.length:=⟨_,rfl⟩
    have h8:Nd W6.drew A8 X8 r d l s8 k8:=by rw [TR,RG,Wh,V7];exact H6.out.below (aB _ 1)
    have M8:Hid (Mv A A8 X X8 w W6.drew):=af (by rw [Wh,V7];exact M6.out.trans (Mv.below (aB _ 1)));have HLC8:Hid (RI W6.drew A5 M m b off c (.slice ub bl bc)):=af (HLC6.out.below (aB W6 1));have hMV:W6.drew.cell? ⟨M,0,none⟩=some (.int .i64 m.OD):=by
     have h9:=(ap HLC8.out.cell 0).trans (show _=some (Value.int .i64 m.OD) from rfl);exact h9
    have RZ:W6.drew.cell? ⟨M,3,none⟩=some (.slice (some ⟨b,off,none⟩) (4+bl) c):=RZ;have XD:W6.drew.cell? ⟨b,off+1,none⟩=some (.int .i64 n1):=XD;obtain ⟨al8,cl8,hr8,VU,hl82⟩:=h8.Qd;rw [TR,<-hsl8] at hr8 VU;have Xx:W6.drew.cell? ⟨r,6,none⟩=some (.int .i64 PQ):=Jp;have HE:Hid (eA s k m=([dQ s8 m.OD 4 [PQ,0,min (XT:Int) (max (n1 - 1) 0)]],s8,k8)):=af (by rw [TR,RG,Q9,hsl8,ZX.out.1,ZX.out.2.1];exact HE.out);have q3:IntKind.i64.wrap (n1 - 1)=n1 - 1:=IntWalk.i64_in _ az;clear Q9 TR RG Wh V7 hn2c hsl8;generalize hgW:W6=W8 at *;have Tz:Hid (∀W',Below W8.drew.heap.size W8.drew W'->W'.cell? ⟨M,0,none⟩=some (.int .i64 m.OD)/\W'.cell? ⟨r,6,none⟩=some (.int .i64 PQ)/\W'.cell? ⟨r,8,none⟩=some (.slice al8 XT cl8)/\W'.cell? ⟨M,3,none⟩=some (.slice (some ⟨b,off,none⟩) (4+bl) c)/\W'.cell? ⟨b,off+1,none⟩=some (.int .i64 n1)):=af (λW' hb=>⟨cell_later hb hMV,cell_later hb Xx,cell_later hb hr8,cell_later hb RZ,cell_later hb XD⟩);have Rv:=af (TN.out _ _ _ _ _ h8);have ZC:=af h8.alt;have QZ:Hid (∀o,Below W8.drew.heap.size W8.drew (W8.drew.alloc o)):=af (λo=>(aG _ _).alloc (ah _) o);have Tp:Hid (∀RH vv N,Below W8.drew.heap.size W8.drew RH->PB RH A8 vv N->PE w (RH.alloc (.cells (cJ (dQ s8 m.OD 4 N) vv (.slice none 0 0)) 83)) A X r d l (.returned (.slice (some ⟨RH.heap.size,0,none⟩) 1 1)) ([dQ s8 m.OD 4 N],s8,k8)):=af (λRH vv N hb hi=>PE.trans M8.out (mL h8 hb (dQ s8 m.OD 4 N) vv (.slice none 0 0) ⟨hi,.inl ⟨rfl,rfl⟩⟩));unfold cJ at Tp;refine wp_region_held_drew (S:=λw'=>w'.cell? ⟨M,0,none⟩=some (.int .i64 m.OD)/\w'.cell? ⟨r,6,none⟩=some (.int .i64 PQ)/\w'.cell? ⟨r,8,none⟩=some (.slice al8 XT cl8)/\w'.cell? ⟨M,3,none⟩=some (.slice (some ⟨b,off,none⟩) (4+bl) c)/\w'.cell? ⟨b,off+1,none⟩=some (.int .i64 n1)) dW (Tz.out _ (aG _ _)) (λaD=>?_);refine aJ 0 ?_;refine aJ 1 ?_;refine aJ 2 ?_;refine aJ 3 ?_;refine aJ 4 ?_;refine aJ 5 ?_;refine aJ 6 ?_;refine aJ 7 ?_;refine aJ 8 ?_;refine aJ 9 ?_;refine aJ 10 ?_;refine aJ 11 ?_;refine aJ 12 ?_;refine aJ 13 ?_;refine aJ 14 ?_;refine aJ 15 ?_;refine aJ 16 ?_;refine aJ 17 ?_;refine aJ 18 ?_;generalize W8.drew=V8 at *;refine dh 19 λK hK=>?_;go_simp
    refine hK.out _ _ (Tz.out _ (QZ.out (.cells #[.int .i64 PQ,.int .i64 0,.int .i64 (min (XT:Int) (max (n1 - 1) 0))] 2))) (λaD=>?_);clear hK K;refine bX ?_;have Zq:Hid (PB (V8.alloc (.cells #[.int .i64 PQ,.int .i64 0,.int .i64 (min (XT:Int) (max (n1 - 1) 0))] 2)) A8 (.slice (some ⟨V8.heap.size,0,none⟩) 3 3) [PQ,0,min (XT:Int) (max (n1 - 1) 0)]):=af (PB.fresh [PQ,0,min (XT:Int) (max (n1 - 1) 0)] _ rfl 2 3 rfl az ZC.out);have Tr:=af (QZ.out (.cells #[.int .i64 PQ,.int .i64 0,.int .i64 (min (XT:Int) (max (n1 - 1) 0))] 2));generalize V8.alloc (.cells #[.int .i64 PQ,.int .i64 0,.int .i64 (min (XT:Int) (max (n1 - 1) 0))] 2)=V9 at *;refine dh 20 λK hK=>?_;go_simp
    refine (Rv.out _ Tr.out _ _ [PQ,0,min (XT:Int) (max (n1 - 1) 0)] _ _ _).mono ?_;rintro e RH ⟨rfl,R6⟩;have Rx:=af (Tr.out.trans (R6.mono Tr.out.size));have Zr:=af (Zq.out.below R6);clear R6;go_wp2_with fail
    refine hK.out _ _ (Tz.out _ Rx.out) (λaD=>?_);clear hK K;refine bX ?_;refine dh 21 λK hK=>?_
    (try unfold en)
    go_simp
    refine hK.out _ _ (Tz.out _ (Rx.out.alloc Rx.out.size _)) (λaD=>?_);clear hK K;refine bX ?_;refine aJ 22 ?_;exact KG
   | true =>
    exact absurd ⟨Vn.out,HOLDF.out,SJ⟩ HC.out
end
section
variable {w w':World} {A A' X Y Y' Z Z':List Nat} {g n:Nat} {S:Mn} {es es':Pn} {os rs ds ls:Nat->Nat} {Xs:Nat->List Nat} {vl:Value} {nb mb Q8:Nat} {qv lv TW pn:Value} {q':List OM} {r d l:Nat} {s:Rp} {k:Dk}
theorem wL (h:Gy w A Z g n S es) (x:Int) (hx:(decide (0<=x)&&decide (x<(S.q.length:Int)))=false) :
  Calls Tryz.prog 20 #[.pointer (some ⟨g,0,none⟩),.int .i64 x] w λe w'=>e = .returned (.bool false)/\Px w w' A Z g n S es:=by
 have HG:=af h;obtain ⟨Y,os,rs,ds,ls,Xs,vl,nb,mb,qv,lv,h,hz⟩:=h;have HT:=af (xY h.nt x hx);have c1:w.cell? ⟨g,1,none⟩=some (.pointer (some ⟨nb,0,none⟩)):=mU;clear h hz hx;unfold en at HT;go_enter Tryz.func20,Tryz.ntmps20
 go_wp2_with fail
 refine HT.out.mono ?_;rintro e w2 ⟨rfl,hb⟩;have Tx:Below w2.heap.size w2 (w2.alloc (.cells #[.int .i64 og.OD,.int .i64 og.dst,.int .i64 og.kind,.slice none 0 0,.slice none 0 0] 83)):=(aG _ _).alloc (ah _) _;have HF:=af ((HG.out.below (hb.trans (Tx.mono hb.size))).gyp (Mv.below (hb.trans (Tx.mono hb.size))));clear hb Tx;exact DY
theorem wM (h:Gy w A Z g n S es) (j:Nat) (hj:j<S.q.length) (m:OM) (hm:S.q[j]=m) (hl:jt m) (hq:S.q.length<=2000)
  (hd:(decide (0<=m.dst)&&decide (m.dst<(n:Int)))=false\/∃i:Nat,i<n/\m.dst=(i:Int)/\(S.at i).up=false) :
  Calls Tryz.prog 20 #[.pointer (some ⟨g,0,none⟩),.int .i64 (j:Int)] w λe w'=>e = .returned (.bool true)/\Px w w' A Z g n { S with q:=S.q.eraseIdx j } es:=by
 obtain ⟨Y,os,rs,ds,ls,Xs,vl,nb,mb,qv,lv,h,hz⟩:=h;have HT:=af (qS h.nt j hj az (by rw [hm];exact hl));rw [hm] at HT;have HZ:=af hz;have HH:=af h;obtain ⟨Q,hQ⟩:∃Q,Q=S.q.eraseIdx j:=⟨_,rfl⟩
 rw [<-hQ] at HT ⊢;have Wv:Hid (∀w2,NtF w w2 A Y nb mb n Q es->∃RS,PZ w2 A Y g n { S with q:=Q } es os rs ds ls Xs vl nb mb RS lv/\Mv A A Z Z w w2):=af λw2 hF=>by
  obtain ⟨RS,hn,T,ho,ht⟩:=hF;refine ⟨RS,HH.out.netx hn ⟨Mv.only ho (λb hb=>(ht b hb).1),λb hb=>.inl hb,.inl rfl,T,ho,λb hb=>⟨(ht b hb).1,(ht b hb).2.imp id .inr⟩⟩,?_⟩;exact IR
 have c1:w.cell? ⟨g,1,none⟩=some (.pointer (some ⟨nb,0,none⟩)):=mU;have XK:Hid (∀w2 RS,PZ w2 A Y g n { S with q:=Q } es os rs ds ls Xs vl nb mb RS lv->Calls Tryz.prog 13 #[.pointer (some ⟨g,0,none⟩),.int .i64 m.dst] w2 λe w'=>e = .returned (.bool false)/\w2=w'):=af λw2 RS h2=>by
  rcases hd with hx | ⟨i,hi,e,hu⟩
  ·exact um h2 _ hx
  ·rw [e];exact iL h2 i hi hu
 clear h hz hm hQ hl hd hq;unfold en at HT;go_enter Tryz.func20,Tryz.ntmps20
 go_wp2_with fail
 refine HT.out.mono ?_;rintro e w2 ⟨v,u,rfl,Rn,hF⟩;obtain ⟨⟨av,cv,rfl⟩,Wi,bv,cw,rfl⟩:=Rn.shapes;obtain ⟨RS,hc2,m2⟩:=Wv.out w2 hF;obtain ⟨O,hO⟩:∃O,O=ph m (.slice av m.N.length cv) (.slice Wi bv cw):=⟨_,rfl⟩
 have Tx:Below w2.heap.size w2 (w2.alloc O):=(aG _ _).alloc (ah _) O;have Zw:=hc2.below Tx;have HU:=af (XK.out _ _ Zw);have HF:Hid (Px w (w2.alloc O) A Z g n { S with q:=Q } es):=af ⟨A,Z,⟨_,_,_,_,_,_,_,_,_,_,_,Zw,HZ.out⟩,m2.trans (Mv.below Tx)⟩;have HX:=aV w2 O;subst hO;obtain ⟨x0,x1,x2,x3,x4⟩:=jl HX;unfold ph at x0 x1 x2 x3 x4 HU;clear hc2 Rn m2 hF Tx Zw HX;go_wp2_with fail
 refine HU.out.mono ?_;rintro e w3 ⟨rfl,rfl⟩;exact DY
end
section
variable {w w':World} {A A' X Y Y' Z Z':List Nat} {g n:Nat} {S:Mn} {es es':Pn} {os rs ds ls:Nat->Nat} {Xs:Nat->List Nat} {vl:Value} {nb mb Q8:Nat} {qv lv TW pn:Value} {q':List OM} {r d l:Nat} {s:Rp} {k:Dk}
theorem wK (h:Gy w A Z g n S es) (x y:Int) (b:Bool) (hx:0<=x/\x<(n:Int)) (hy:0<=y/\y<(n:Int)) :
  Calls Tryz.prog 25 #[.pointer (some ⟨g,0,none⟩),.int .i64 x,.int .i64 y,.bool b] w λe w'=>e = .returned (.bool true)/\Px w w' A Z g n S (ew es (oJ x y) b):=by
 obtain ⟨Y,os,rs,ds,ls,Xs,vl,nb,mb,qv,lv,h,hz⟩:=h;obtain ⟨ar,cr,rfl,_,_⟩:=ej h.lr;have H1:=af (fM h.cell x);have H2:=af (fM h.cell y);rw [aO hx.1,aO hx.2] at H1;rw [aO hy.1,aO hy.2] at H2;have HC:=af (DS h.nt x y b hx hy h.n5);have HF:Hid (∀w2,Sz w w2 A Y nb n mb S.q (ew es (oJ x y) b)->Px w w2 A Z g n S (ew es (oJ x y) b)):=af λw2 p=>Gy.Yw h hz p;have c1:w.cell? ⟨g,1,none⟩=some (.pointer (some ⟨nb,0,none⟩)):=mU;clear h hz hx hy;go_enter Tryz.func25,Tryz.ntmps25
 go_wp2_with fail
 refine H1.out.mono ?_;rintro e w1 ⟨rfl,rfl⟩;go_wp2_with fail
 refine H2.out.mono ?_;rintro e w1 ⟨rfl,rfl⟩;go_wp2_with fail
 refine HC.out.mono ?_;rintro e w2 ⟨rfl,hp⟩;have HG:=af (HF.out w2 hp);clear hp;exact DX
theorem zQ (h:Gy w A Z g n S es) (x y:Int) (b:Bool) (hxy:((decide (0<=x)&&decide (x<(n:Int)))&&(decide (0<=y)&&decide (y<(n:Int))))=false) :
  Calls Tryz.prog 25 #[.pointer (some ⟨g,0,none⟩),.int .i64 x,.int .i64 y,.bool b] w λe w'=>e = .returned (.bool false)/\w=w':=by
 obtain ⟨Y,os,rs,ds,ls,Xs,vl,nb,mb,qv,lv,h,hz⟩:=h;obtain ⟨ar,cr,rfl,_,_⟩:=ej h.lr;have H1:=af (fM h.cell x);have H2:=af (fM h.cell y);clear h hz;generalize (decide (0<=x)&&decide (x<(n:Int)))=p1 at *;generalize (decide (0<=y)&&decide (y<(n:Int)))=p2 at *;cases p1
 ·clear hxy;go_enter Tryz.func25,Tryz.ntmps25
  go_wp2_with fail
  refine H1.out.mono ?_;rintro e w1 ⟨rfl,rfl⟩;exact oK
 ·have:p2=false:=by simpa using hxy
  subst this;clear hxy;go_enter Tryz.func25,Tryz.ntmps25
  go_wp2_with fail
  refine H1.out.mono ?_;rintro e w1 ⟨rfl,rfl⟩;go_wp2_with fail
  refine H2.out.mono ?_;rintro e w1 ⟨rfl,rfl⟩;exact oK
end
section
variable {w w' w2:World} {A A' X Y Y' Z Z':List Nat} {g n:Nat} {S:Mn} {es es':Pn} {os rs ds ls:Nat->Nat} {Xs:Nat->List Nat} {vl:Value} {nb mb Q8:Nat} {qv lv TW pn:Value} {q':List OM} {r d l:Nat} {s:Rp} {k:Dk}
theorem Ll {v:Value} {L:List (List UInt8)} (hc:w.cell? ⟨g,2,none⟩=some v) (hl:PV w A v L) (hn:L.length<=900000) (hr:∀x∈L,x.length<=8000) :
  Calls Tryz.prog 27 #[.pointer (some ⟨g,0,none⟩),.int .i64 0] w λe w'=>∃v,e = .returned v/\PC w' w.heap.size v L/\Below w.heap.size w w':=by
 obtain ⟨ao,c,rfl⟩:=rk hl;have HAT:Hid (∀j,j<L.length->∃q u,ao=some ⟨q,0,none⟩/\w.cell? ⟨q,j,none⟩=some u/\Qi w A u (L.getD j [])):=af λj hj=>by
  rcases hl with ⟨_,h0⟩ | ⟨q,c',cur,e1,h1,h2,h3,h4,h5⟩
  ·rw [h0] at hj;cases hj
  ·grind [ap]
 have HF:Hid ((ao=none/\L.length=0/\c=0)\/∃q,ao=some ⟨q,0,none⟩/\L.length<=c/\c<=9223372036854775807):=af (by
  rcases hl with ⟨e1,h0⟩ | ⟨q,c',cur,e1,h1,h2,h3,h4,h5⟩
  ·grind
  ·cases e1;exact .inr ⟨q,rfl,h1,h2⟩)
 have HR:=af hr;clear hl hr;generalize hm:L.length=m at *;have HM:Hid (L.length=m):=af hm;have HST:Hid (∀j,j<m->L.take (j+1)=L.take j++[L.getD j []]):=af λj hj=>by
  simp_all
 have Wq:Hid (∀j,j<=m->(L.take j).length=j):=af λj hj=>by rw [aQ,hm];omega
 have HAL:Hid (L.take m=L):=af (by rw [<-hm];exact bW);clear hm;go_enter Tryz.func27,Tryz.ntmps27
 go_upto_region 2 with (fail)
 go_cut [20,21,22] (λv n i wx=>v = .slice ao m c/\n = .int .i64 (m:Int)/\i = .int .i64 0/\∃nq,wx=w.drewN nq)
 case first =>
  have q0:max (0:Int) 0=0:=rfl;have q1:min (0:Int) (m:Int)=0:=az;rcases HF.out with ⟨rfl,e2,e3⟩ | ⟨q,rfl,h1,h2⟩
  ·subst e2;subst e3;exact GR
  ·have q2:(m:Int)<=(c:Int):=by omega
   exact GR
 case rest =>
 obtain ⟨rfl,rfl,rfl,nq,rfl⟩:=hcut;have HBQ:Hid (Below w.heap.size w (w.drewN nq)):=af (aB w nq);go_wp2_with fail
 go_loopw [5,22] (λv i wr=>∃j:Nat,j<=m/\i = .int .i64 (j:Int)/\PC wr w.heap.size v (L.take j)/\Below w.heap.size w wr) (λ_ i _=>m - (intOf i).toNat)
 case atStart=>exact ⟨0,aH _,rfl,by simpa using PC.nil _ _,HBQ.out⟩
 case round =>
  obtain ⟨j,hj,rfl,hB,hBV⟩:=hrel;have Vp:=af hB;have QZ:=af hBV;clear hB hBV;by_cases hlt:j<m
  ·obtain ⟨q,u,rfl,Su,Qz⟩:=HAT.out j hlt;have Ws:=af (HST.out j hlt);have WX:(L.getD j []).length<=8000:=HR.out _ (by
    have hj':j<L.length:=by rw [HM.out];exact hlt
    rw [aL,cf hj'];exact cW _)
   obtain ⟨au,cu,e,_⟩:=id Qz;subst e;generalize Yc:L.getD j []=bs at *;generalize hbl:bs.length=bl at *;have Q0:Hid (bs.length=bl):=af hbl;have Xl:Hid (∀W',Below w.heap.size w W'->Pg W' au bl cu bs):=af (λW' hb=>by
    obtain ⟨Wj,c',e,h1,_⟩:=Qz.below hb;cases e;rw [hbl] at h1;exact h1)
   have Su:=cell_later QZ.out Su;have q5:(j:Int)<(m:Int):=az;have q6:IntKind.i64.wrap ((j:Int)+1)=(j:Int)+1:=IntWalk.i64_in _ az;have HRJ:Hid ((L.take j).length+1<=1000000):=af (by rw [Wq.out j hj];omega);clear Qz Yc hbl;generalize L.take j=rj at *;obtain ⟨al,cl,evb,_⟩:=Vp.out.shape;subst evb;go_wp2_with fail
   refine (F.dV au bl cu bs _ (Xl.out _ QZ.out) az).mono ?_;rintro e W6 ⟨v5,rfl,PS,PA⟩;have TQ:=af (Vp.out.below PA);have WA:=af (QZ.out.trans (PA.mono QZ.out.size));have Zh:=af (PS.mono QZ.out.size);obtain ⟨a5,c5,e5,_⟩:=id Zh.out.S9;rw [Q0.out] at e5;subst e5;clear PS PA;go_wp2_with (at_builtin;refine dU rfl (.tmp 26) (.tmp 29) rfl w.heap.size (.slice al rj.length cl) rj jy (TQ.out.below ((aG _ _).alloc (ah _) _)) W6.heap.size (.slice a5 bl c5) bs jy ((ap (aV W6 _) 0).trans rfl) (Zh.out.alloc _) HRJ.out (WA.out.alloc WA.out.size _).size ?_)
   exact MO
  ·obtain rfl:j=m:=by omega
   go_wp2_with fail
   go_ret
   exact ⟨_,rfl,by rw [<-HAL.out];exact Vp.out,QZ.out⟩
theorem wC {v:Value} {L:List (List UInt8)} (hc:w.cell? ⟨g,2,none⟩=some v) (hl:PV w A v L) (hn:L.length<=900000) (hr:∀x∈L,x.length<=8000) :
  Calls Tryz.prog 10 #[.pointer (some ⟨g,0,none⟩)] w λe w'=>∃v,e = .returned v/\PC w' w.heap.size v L/\Below w.heap.size w w':=by
 have HC:=af (Ll hc hl hn hr);clear hc hl hn hr;go_enter Tryz.func10,Tryz.ntmps10
 go_wp2_with fail
 refine HC.out.mono ?_;rintro e w1 ⟨v1,rfl,ho,hb⟩;have HO:=af ho;have HB:=af hb;clear ho hb;go_wp2_with fail
 go_ret
 exact ⟨_,rfl,HO.out,HB.out⟩
theorem rv (h:Gy w A Z g n S es) (i:Nat) (hi:i<n) (hU:p9 n S) (hu:(S.at i).up=true) :
  Calls Tryz.prog 12 #[.pointer (some ⟨g,0,none⟩),.int .i64 (i:Int)] w λe w'=>∃v,e = .returned v/\Gy w' A Z g n S es/\PV w' A v (de (S.at i).s)/\Mv A A Z Z w w':=by
 obtain ⟨Y,os,rs,ds,ls,Xs,vl,nb,mb,qv,lv,h,hz⟩:=h;have HU:=af (lk h i hi hu (hU i hi hu).2);obtain ⟨gl,cr,rfl,Vk,hrow⟩:=h.Ss az;have HZ:=af hz;have Xn:Hid (∀w2,PZ w2 A Y g n S es os rs ds ls Xs (.slice (some ⟨gl,0,none⟩) n cr) nb mb qv lv->Calls Tryz.prog 28 #[.pointer (some ⟨rs i,0,none⟩)] w2 λe w'=>∃v,e = .returned v/\PC w' w2.heap.size v (de (S.at i).s)/\Below w2.heap.size w2 w'):=af λw2 h2=>rO ((h2.node i hi).up hu) (hU i hi hu).1;have Ww:Hid (∀w2,PZ w2 A Y g n S es os rs ds ls Xs (.slice (some ⟨gl,0,none⟩) n cr) nb mb qv lv->w2.cell? ⟨g,0,none⟩=some (.slice (some ⟨gl,0,none⟩) n cr)/\w2.cell? ⟨gl,i,none⟩=some (.pointer (some ⟨os i,0,none⟩))/\w2.cell? ⟨os i,1,none⟩=some (.pointer (some ⟨rs i,0,none⟩))):=af λw2 h2=>GU;have O9:(i:Int)<(n:Int):=az;clear h hz hrow hU hu;go_enter Tryz.func12,Tryz.ntmps12
 go_wp2_with fail
 refine HU.out.mono ?_;rintro e w2 ⟨rfl,hc2,OZ,Tt⟩;have TU:Hid (Mv A A Z Z w w2):=af (Mv.only OZ (λb hb=>by rw [aj.1 hb];exact (HZ.out _).2 (.inr ⟨i,hi,Tt⟩)));obtain ⟨k0,k1,k2⟩:=Ww.out w2 hc2;have HT2:=af (Xn.out w2 hc2);have U2:=af hc2;clear hc2 OZ Tt;go_wp2_with fail
 refine HT2.out.mono ?_;rintro e w3 ⟨v,rfl,hv,hb⟩;have HV:=af (PV.new hv U2.out.alt);have Rz:=af (TU.out.trans (Mv.below hb));have HG3:Hid (Gy w3 A Z g n S es):=af ⟨_,_,_,_,_,_,_,_,_,_,_,U2.out.below hb,HZ.out⟩;clear hv hb;go_wp2_with fail
 go_ret
 exact ⟨_,rfl,HG3.out,HV.out,Rz.out⟩
theorem yG (h:Gy w A Z g n S es) (x:Int) (hx:(decide (0<=x)&&decide (x<(n:Int)))=false\/∃i:Nat,i<n/\x=(i:Int)/\(S.at i).up=false) :
  Calls Tryz.prog 12 #[.pointer (some ⟨g,0,none⟩),.int .i64 x] w λe w'=>e = .returned (.slice none 0 0)/\w=w':=by
 obtain ⟨Y,os,rs,ds,ls,Xs,vl,nb,mb,qv,lv,h,hz⟩:=h;have HU:Hid (Calls Tryz.prog 13 #[.pointer (some ⟨g,0,none⟩),.int .i64 x] w λe w'=>e = .returned (.bool false)/\w=w'):=af (by
  rcases hx with hx | ⟨i,hi,rfl,hu⟩
  ·exact um h x hx
  ·exact iL h i hi hu)
 clear h hz hx;go_enter Tryz.func12,Tryz.ntmps12
 go_wp2_with fail
 refine HU.out.mono ?_;rintro e w1 ⟨rfl,rfl⟩;exact oK
end
theorem yq (S:Mn) (n t:Nat) (h:t<n):gj S (n - t) t=if (S.at t).up&&(S.at t).s.Oy then some t else gj S (n - (t+1)) (t+1):=by
 rw [show n - t=(n - (t+1))+1 by omega];rfl
section
variable {w w' w2:World} {A A' X Y Y' Z Z':List Nat} {g n cl lvv:Nat} {S:Mn} {es es':Pn} {os rs ds ls:Nat->Nat} {Xs:Nat->List Nat} {vl:Value} {nb mb Q8:Nat} {qv lv TW pn:Value} {q':List OM} {r d l:Nat} {s:Rp} {k:Dk}
theorem BI (h:PZ w A Y g n S es os rs ds ls Xs vl nb mb qv lv) (hb:OO n cl lvv S) (hd:dC n S) (i:Nat) (hi:i<n) (hu:(S.at i).up=true) :
  Calls Tryz.prog 33 #[.pointer (some ⟨rs i,0,none⟩)] w λe w'=>e = .returned (.bool (S.at i).s.Oy)/\PZ w' A Y g n S es os rs ds ls Xs vl nb mb qv lv/\Only [rs i] w w'/\rs i∈Xs i:=by
 have PO:=(h.node i hi).up hu;obtain ⟨e1,e2⟩:=yn (hb.up i hi hu).1.off (hb.up i hi hu).2;refine (Bw PO).mono ?_;rintro e w2 ⟨rfl,h2,ho⟩;rw [e2] at h2;rw [e1,hd i hi hu];have hr:=PO.rX;have hm:Mv A A (Xs i) (Xs i) w w2:=Mv.only ho (λb hb=>by rw [aj.1 hb];exact hr);have:=h.call hi hm (nd:=S.at i) ⟨λ_=>h2,λe=>(by rw [hu] at e;cases e),(h.node i hi).xA⟩ rfl (λb hb=>aK (h.alt b hb) ho.size);rw [Mn.U5,sD] at this;exact ⟨by simp,this,ho,hr⟩
theorem wD (h:Gy w A Z g n S es) (hb:OO n cl lvv S) (hd:dC n S) :
  Calls Tryz.prog 15 #[.pointer (some ⟨g,0,none⟩)] w λe w'=>e = .returned (.tuple #[.int .i64 (((gj S n 0).getD 0:Nat):Int),.bool (gj S n 0).isSome])/\Px w w' A Z g n S es:=by
 have hn0:=hb.n1;have O8:=hb.n5;obtain ⟨Y,os,rs,ds,ls,Xs,vl,nb,mb,qv,lv,h,hz⟩:=h;obtain ⟨gl,cr,rfl,Vk,hrow⟩:=h.Ss az;have c0:w.cell? ⟨g,0,none⟩=some (.slice (some ⟨gl,0,none⟩) n cr):=mU;have H1:=af h;have HZ1:=af hz;have XK:=af (hb.S7 hd);have Xk:Hid (∀w2,PZ w2 A Y g n S es os rs ds ls Xs (.slice (some ⟨gl,0,none⟩) n cr) nb mb qv lv->∀i,i<n->(S.at i).up=true->Calls Tryz.prog 33 #[.pointer (some ⟨rs i,0,none⟩)] w2 λe w'=>e = .returned (.bool (S.at i).s.Oy)/\PZ w' A Y g n S es os rs ds ls Xs (.slice (some ⟨gl,0,none⟩) n cr) nb mb qv lv/\Only [rs i] w2 w'/\rs i∈Xs i):=af λw2 h2 i hi hu=>BI h2 hb hd i hi hu;clear h hz hrow hb hd;go_enter Tryz.func15,Tryz.ntmps15
 go_wp2_with fail
 go_loopw [11,4,5] (λi a b wr=>∃(t:Nat),t<=n/\i = .int .i64 (t:Int)/\PZ wr A Y g n S es os rs ds ls Xs (.slice (some ⟨gl,0,none⟩) n cr) nb mb qv lv/\Mv A A Z Z w wr/\gj S n 0=gj S (n - t) t) (λi _ _ _=>n - (intOf i).toNat)
 case atStart=>exact ⟨0,aH _,rfl,H1.out,Mv.refl _ _ _,rfl⟩
 case round =>
  obtain ⟨t,ht,rfl,hc,m2,UE⟩:=hrel;by_cases hlt:t<n
  ·obtain ⟨gl',cr',e9,_,hrow⟩:=hc.Ss az;cases e9;have r1:=hrow t hlt;unfold fq at r1;have HML:=af (UE.trans (yq S n t hlt));have VD:=af m2;have U2:=af hc;clear hrow UE m2 c0;by_cases hu:(S.at t).up=true
   ·obtain ⟨WK,P5⟩:=XK.out t hlt hu;have HU:=af (lk hc t hlt hu P5);have Yn:=af hu;have Ty:=af (Xk.out · · t hlt hu);go_wp2_with fail
    refine HU.out.mono ?_;rintro e w2 ⟨rfl,hc2,OZ,Tt⟩;have o1:w2.cell? ⟨os t,1,none⟩=some (.pointer (some ⟨rs t,0,none⟩)):=by rw [ap (hc2.one t hlt)];rfl
    have Rz:Hid (Mv A A Z Z w w2):=af (VD.out.trans (Mv.only OZ (λb hb=>by rw [aj.1 hb];exact (HZ1.out _).2 (.inr ⟨t,hlt,Tt⟩))));have HL:=af (Ty.out w2 hc2);generalize P9:(S.at t).s.Oy=ld at *;go_wp2_with fail
    refine HL.out.mono ?_;rintro e w3 ⟨rfl,hc3,RD,Tt⟩;have Zw:=af hc3;have HM4:Hid (Mv A A Z Z w w3):=af (Rz.out.trans (Mv.only RD (λb hb=>by rw [aj.1 hb];exact (HZ1.out _).2 (.inr ⟨t,hlt,Tt⟩))));cases ld with
    | true =>
     have HF:Hid (gj S n 0=some t):=af (by rw [HML.out,Yn.out];rfl);have HG:Hid (Px w w3 A Z g n S es):=af ⟨A,Z,⟨_,_,_,_,_,_,_,_,_,_,_,Zw.out,HZ1.out⟩,HM4.out⟩;exact IX
    | false =>
     have HF:Hid (gj S n 0=gj S (n - (t+1)) (t+1)):=af (by rw [HML.out,Bool.and_false];rfl);go_wp2_with fail
     go_roundw
     case rel=>exact ⟨t+1,by omega,by simp,Zw.out,HM4.out,HF.out⟩
     case measure=>simp [intOf];omega
   ·have PN:(S.at t).up=false:=by simpa using hu
    have HU:=af (iL hc t hlt PN);have HF:Hid (gj S n 0=gj S (n - (t+1)) (t+1)):=af (by rw [HML.out,PN,uQ];rfl);go_wp2_with fail
    refine HU.out.mono ?_;rintro e w2 ⟨rfl,rfl⟩;go_wp2_with fail
    go_roundw
    case rel=>exact ⟨t+1,by omega,by simp,U2.out,VD.out,HF.out⟩
    case measure=>simp [intOf];omega
  ·obtain rfl:t=n:=by omega
   have HF:Hid (gj S t 0=none):=af (by rw [UE,F6];rfl);have HG:Hid (Px w wr A Z g t S es):=af ⟨A,Z,⟨_,_,_,_,_,_,_,_,_,_,_,hc,HZ1.out⟩,m2⟩;exact IX
end
end Go.Proofs.YtnhefallmioefaaGreat
