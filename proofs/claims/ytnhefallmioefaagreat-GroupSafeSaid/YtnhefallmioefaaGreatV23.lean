/-
  What the proof of the law leans on: contracts of the program's functions, one behind another. No condition.
-/
import Derived.Test.YtnhefallmioefaaGreatV0
import Derived.Test.YtnhefallmioefaaGreatV17
import Derived.Test.YtnhefallmioefaaGreatV3
import Derived.Test.YtnhefallmioefaaGreatV20
import Derived.Test.YtnhefallmioefaaGreatV22
import Derived.Test.YtnhefallmioefaaGreatV19
import Derived.Test.YtnhefallmioefaaGreatV1
import Derived.Test.YtnhefallmioefaaGreatV21
set_option linter.unusedVariables false
set_option linter.unusedSimpArgs false
namespace Go.Proofs.YtnhefallmioefaaGreat
open Go.RowKit Go.ChangeMaps Go.WideMaps Go.Maps
set_option maxRecDepth 20000
theorem xK {p:Prop} (h:p:=by
 refine hK.out _ _ trivial (λam=>?_);clear hK K;refine bH ?_;refine aB 7 ?_;refine cC 8 λK hK=>?_;go_simp
 refine (HP.out _ HB4.out _ HI4.out).mono ?_;rintro e w5 ⟨rfl,hn5⟩;have HN5:=ab hn5;clear hn5;go_wp2_with fail
 refine hK.out _ _ trivial (λam=>?_);clear hK K;refine bH ?_;refine aB 9 ?_;refine fI ?_;go_wp2_with fail
 go_meet
 exact ⟨by rfl,HN5.out⟩):p:=h
structure SbP (w w':World) (A X:List Nat) (r d l:Nat) (e:Ending) (p:List Msg×Int×Rp×Dk):Prop where
 ex:∃v A' X',e = .returned (.tuple #[v,.int .i64 p.2.1])/\Nd w' A' X' r d l p.2.2.1 p.2.2.2/\OwnMs w' A' w.heap.size v p.1/\Mv A A' X X' w w'/\∀b,v.ownBlock=some b->b∉A'
section
variable {w w':World} {A A' X X':List Nat} {r d l:Nat} {s s':Rp} {k k':Dk}
theorem SbP.none {z:Int} (h:NdP w w' A X r d l s' k'):SbP w w' A X r d l (.returned (.tuple #[.slice none 0 0,.int .i64 z])) ([],z,s',k'):=by
 obtain ⟨A',X',h,m⟩:=h;exact ⟨_,A',X',rfl,h,OwnMs.nil _ _ _,m,(λb hb=>by cases hb)⟩
set_option maxHeartbeats 4000000 in
theorem sW (h:Nd w A X r d l s k) (hw:Wf s k) (ao:Option Addr) (n c:Nat) (rec:List UInt8) (hi:Imm w A (.slice ao n c) rec) (hn:n=rec.length) (hnb:n<=1000000):Calls Tryz.prog 47 #[.pointer (some ⟨r,0,none⟩),.slice ao n c] w λe w'=>SbP w w' A X r d l e (bw s k rec):=by
 have HD:=ab (iL h);have HXR:=ab h.rX;have HRL:Hid (rec.length=n):=ab hn.symm;have HXA:=ab (h.xA r h.rX);have HW:=ab (gt hw);have HIM:=ab hi;have H:=ab h;by_cases h0:n=0
 ·have HE:Hid (bw s k rec=([],1,s,k)):=ab (by unfold bw;rw [aA (by omega)]);clear h hw hi;go_enter Tryz.func47,Tryz.ntmps47
  go_wp2_with fail
  go_ret2
  rw [HE.out];exact SbP.none (H.out.ndp (Mv.refl _ _ _))
 ·by_cases h8:8000<n
  ·have HE:Hid (bw s k rec=([],2,s,k)):=ab (by unfold bw;rw [aw (by omega),aA (by omega)]);have g8:(8000:Int)<(n:Int):=by omega
   have g0:((n:Int)==0)=false:=by simp;omega
   clear h hw hi;go_enter Tryz.func47,Tryz.ntmps47
   go_wp2_with fail
   go_ret2
   rw [HE.out];exact SbP.none (H.out.ndp (Mv.refl _ _ _))
  ·have HE:Hid (bw s k rec=(let s1:=aV s k
    if s1.done then ([],10,s1,k) else if !s1.leads then ([],15,s1,k) else if 200<=ia s1\/2000<=s1.many then ([],9,s1,k) else
    let p:=fg s1 k ⟨s1.term,rec⟩
    if p.1 then (let s2:=(bI p.2.1).2;(cR s2 (bQ s2),0,s2,p.2.2)) else ([],10,p.2))):=ab (by unfold bw;rw [aw (by omega),aw (by omega)])
   have g8:¬(8000:Int)<(n:Int):=by omega
   have g0:((n:Int)==0)=false:=by simp;omega
   (try simp only at HE)
   have hdd:(aV s k).done=dQ s k:=rfl;clear h hw hi hn;generalize aV s k=s1 at *;go_enter Tryz.func47,Tryz.ntmps47
   go_wp2_with fail
   refine HD.out.mono ?_;rintro e w2 ⟨rfl,hn2,ho2⟩;have H2:=ab hn2;have M2:=ab (Mv.only (A:=A) ho2 (by simpa using HXR.out));have HI2:=ab (HIM.out.step ho2 (by simpa using HXA.out) (Ext.refl _ _));obtain ⟨vl,gv,gn,gm,gh,hcell⟩:=hn2.cells;have hc11:w2.cell? ⟨r,11,none⟩=some (.bool s1.leads):=by rw [af hcell];rfl
   have hc10:w2.cell? ⟨r,10,none⟩=some (.int .i64 (s1.many:Int)):=by rw [af hcell];rfl
   have hc6:w2.cell? ⟨r,6,none⟩=some (.int .i64 s1.term):=by rw [af hcell];rfl
   clear hn2 ho2 hcell;cases hdn:dQ s k with
   | true =>
    rw [aA (by rw [hdd,hdn])] at HE;go_wp2_with fail
    go_ret2
    rw [HE.out];exact SbP.none (H2.out.ndp M2.out)
   | false =>
    rw [aw (by rw [hdd,hdn];decide)] at HE;cases hld:s1.leads with
    | false =>
     rw [hld] at hc11 HE;rw [aA (by decide)] at HE;go_wp2_with fail
     go_ret2
     rw [HE.out];exact SbP.none (H2.out.ndp M2.out)
    | true =>
     rw [hld] at hc11 HE;rw [aw (by decide)] at HE;have HOP:=ab (yI H2.out HW.out.agr (by have:=HW.out.logb;omega));generalize ia s1=om at *;by_cases hfull:200<=om\/2000<=s1.many
     ·rw [aA hfull] at HE;by_cases ho:200<=om
      ·have g2:(200:Int)<=(om:Int):=by omega
       clear hfull;go_wp2_with fail
       refine HOP.out.mono ?_;rintro e w3 ⟨rfl,hb3⟩;have HB3:=ab hb3;clear hb3;go_wp2_with fail
       go_ret2
       rw [HE.out];exact SbP.none ((H2.out.below HB3.out).ndp (M2.out.trans (Mv.below HB3.out)))
      ·have g2:¬(200:Int)<=(om:Int):=by omega
       have g3:(2000:Int)<=(s1.many:Int):=by omega
       clear hfull;go_wp2_with fail
       refine HOP.out.mono ?_;rintro e w3 ⟨rfl,hb3⟩;have HB3:=ab hb3;have hk10:=cell_later hb3 hc10;clear hb3;go_wp2_with fail
       go_ret2
       rw [HE.out];exact SbP.none ((H2.out.below HB3.out).ndp (M2.out.trans (Mv.below HB3.out)))
     ·rw [aw hfull] at HE;have g2:¬(200:Int)<=(om:Int):=by omega
      have g3:¬(2000:Int)<=(s1.many:Int):=by omega
      clear hfull;have HNB:=ab hnb;go_wp2_with fail
      refine HOP.out.mono ?_;rintro e W3 ⟨rfl,hb3⟩;have h3:Nd W3.drew A X r d l s1 k:=(H2.out.below hb3).below (ak W3 1);have M3:Hid (Mv A A X X w W3.drew):=ab (M2.out.trans ((Mv.below hb3).trans (Mv.below (ak W3 1))));have hi3:Imm W3.drew A (.slice ao n c) rec:=(HI2.out.below hb3).below (ak W3 1);have hk10:=cell_later hb3 hc10;have hk6:=cell_later hb3 hc6;have hkv6:W3.drew.cell? ⟨r,6,none⟩=some (.int .i64 s1.term):=hk6;have HIB:Hid (IsB W3.drew ao n c rec):=ab (by
       obtain ⟨ao',c',e,h1,_⟩:=hi3;rw [HRL.out] at e h1;cases e;exact h1)
      have HAD:=ab h3.alt;have hrl8:rec.length<=8000:=by rw [HRL.out];omega
      have HP:Hid (∀W',Below W3.drew.heap.size W3.drew W'->∀u,Imm W' A u rec->Calls Tryz.prog 79 #[.pointer (some ⟨r,0,none⟩),.agg #[.int .i64 s1.term,u]] W' λe w'=>e = .returned (.bool (fg s1 k ⟨s1.term,rec⟩).1)/\NdP w w' A X r d l (fg s1 k ⟨s1.term,rec⟩).2.1 (fg s1 k ⟨s1.term,rec⟩).2.2):=ab (λW' hb u hu =>
       (uy (h3.below hb) HW.out ⟨s1.term,rec⟩ hrl8 u hu).mono (by rintro e w' ⟨q1,q2⟩;exact ⟨q1,q2.trans (M3.out.trans (Mv.below hb))⟩))
      have HWP:=ab (mM HW.out ⟨s1.term,rec⟩ hrl8);have HSP:=ab (kL (s:=s1) (k:=k) ⟨s1.term,rec⟩);have hld2:s1.leads=true:=hld;have HLD:=ab hld2;clear hb3 hi3 h3 hrl8 hc10 hc11 hc6
      (try simp only at HE)
      generalize fg s1 k ⟨s1.term,rec⟩=p at *;obtain ⟨ok,s2,k2⟩:=p
      (try simp only at HE);(try simp only at HP);(try simp only at HWP);(try simp only at HSP)
      go_upto_region 11 with (fail)
      go_cut [43] (λv wx=>v = .bool (!ok)/\NdP w wx A X r d l s2 k2)
      case first =>
       as_aux_lemma =>
       refine wp_region_held_drew (S:=λ_=>True) (by kernel_rfl) trivial (λam=>?_);refine aB 0 ?_;refine aB 1 ?_;refine aB 2 ?_;refine aB 3 ?_;refine aB 5 ?_;generalize W3.drew=V3 at *;refine j5 4 6 (λK hK=>?_) λK hK=>?_
       ·go_simp
        refine hK.out _ _ trivial (λam=>?_);clear hK K;refine bH ?_;refine cC 6 λK hK=>?_;go_simp
        refine (F.dd ao n c rec _ HIB.out (by have:=HNB.out;omega)).mono ?_;rintro e w4 ⟨v4,rfl,ho4,hb4⟩;have HI4:=ab (Imm.new ho4 HAD.out);have HB4:=ab hb4;have hk4:=cell_later hb4 hkv6;obtain ⟨a4,c4,e4,_⟩:=id HI4.out;rw [HRL.out] at e4;subst e4;clear ho4 hb4;go_wp2_with fail
        exact xK
       ·go_simp
        refine (F.dd ao n c rec _ HIB.out (by have:=HNB.out;omega)).mono ?_;rintro e w4 ⟨v4,rfl,ho4,hb4⟩;have HI4:=ab (Imm.new ho4 HAD.out);have HB4:=ab hb4;have hk4:=cell_later hb4 hkv6;obtain ⟨a4,c4,e4,_⟩:=id HI4.out;rw [HRL.out] at e4;subst e4;clear ho4 hb4;go_wp2_with fail
        refine hK.out _ _ trivial (λam=>?_);clear hK K;refine bH ?_;refine cC 4 λK hK=>?_;go_simp
        exact xK
      case rest =>
      obtain ⟨rfl,hn5⟩:=hcut;have HN5:=ab hn5;clear hn5;cases ok with
      | false =>
       rw [aw (by simp)] at HE;go_wp2_with fail
       go_ret2
       rw [HE.out];exact SbP.none HN5.out
      | true =>
       rw [aA rfl] at HE;obtain ⟨A2,X2,h5,m5⟩:=HN5.out;have H5:=ab h5;have M5:=ab m5;clear h5 m5;go_wp2_with fail
       refine (ke H5.out HWP.out).mono ?_;rintro e w6 ⟨rfl,A3,X3,h6,m6⟩;have H6:=ab h6;have M6:=ab (M5.out.trans m6);have HW6:=ab (fA HWP.out);have HL6:Hid ((bI s2).2.leads=true):=ab (by
         obtain ⟨w0,d0,l0,e0⟩:=HSP.out;rw [iV,e0];exact HLD.out)
       clear h6 m6;generalize (bI s2).1=ob at *;generalize (bI s2).2=s3 at *;go_wp2_with fail
       refine (gk H6.out HW6.out.n5 HW6.out (λi _=>(HW6.out.lead HL6.out i).1)).mono ?_;rintro e w7 ⟨v7,rfl,ho7,hb7⟩;have HF:Hid (SbP w w7 A X r d l (.returned (.tuple #[v7,.int .i64 0])) (cR s3 (bQ s3),0,s3,k2)):=ab ⟨v7,A3,X3,rfl,H6.out.below hb7,ho7.mono M6.out.mv.only.size,M6.out.trans (Mv.below hb7),λb hb8 hm8=>by have:=(ho7.lt b (by simp [hb8])).1;have:=H6.out.alt b hm8;omega⟩;clear ho7 hb7;go_wp2_with fail
       go_ret2
       rw [HE.out];exact HF.out
end
def ImmZ (w:World) (A:List Nat) (v:Value) (l:List UInt8):Prop:=l.length=0\/Imm w A v l
section
variable {w w':World} {A X:List Nat} {r d l:Nat} {s:Rp} {k:Dk}
theorem ImmZ.below {v:Value} {l:List UInt8} (h:ImmZ w A v l) (hb:Below w.heap.size w w'):ImmZ w' A v l:=h.imp id (λh=>h.below hb)
theorem ImmZ.step {A' S:List Nat} {v:Value} {l:List UInt8} (h:ImmZ w A v l) (ho:Only S w w') (hS:∀b∈S,b∈A) (he:Ext A A' w):ImmZ w' A' v l:=h.imp id (λh=>h.step ho hS he)
theorem yk (h:Nd w A X r d l s k) (hw:Wf s k) (ao:Option Addr) (n c:Nat) (rec:List UInt8) (hi:ImmZ w A (.slice ao n c) rec) (hn:n=rec.length) (hnb:n<=1000000):Calls Tryz.prog 47 #[.pointer (some ⟨r,0,none⟩),.slice ao n c] w λe w'=>SbP w w' A X r d l e (bw s k rec):=by
 rcases hi with hi | hi
 ·have HE:Hid (bw s k rec=([],1,s,k)):=ab (by unfold bw;rw [aA hi]);have H:=ab h;have hn0:n=0:=by omega
  subst hn0;clear h hw hn hi;go_enter Tryz.func47,Tryz.ntmps47
  go_wp2_with fail
  go_ret2
  rw [HE.out];exact SbP.none (H.out.ndp (Mv.refl _ _ _))
 ·exact sW h hw ao n c rec hi hn hnb
end
def fe (p:List Msg×Int×Rp×Dk):List Msg×Rp×Dk:=(p.1,p.2.2.1,p.2.2.2)
section
variable {w w':World} {A A' X Y Y' Z Z':List Nat} {g n:Nat} {S:Mn} {es es':Cuts} {os rs ds ls:Nat->Nat} {Xs:Nat->List Nat} {vl:Value} {nb mb mb':Nat} {qv lv qv' pn:Value} {q':List Msg} {r d l:Nat} {s:Rp} {k:Dk}
theorem GyC.turnS {p:List Msg×Int×Rp×Dk} {e:Ending} {i:Nat} (h:GyC w A Y g n S es os rs ds ls Xs vl nb mb qv lv) (hz:∀b,b∈Z↔b∈Y\/∃i,i<n/\b∈Xs i) (hi:i<n) (hu:(S.at i).up=true) (hp:SbP w w' A (Xs i) (rs i) (ds i) (ls i) e p) :
  ∃v A' Z',e = .returned (.tuple #[v,.int .i64 p.2.1])/\Gy w' A' Z' g n (S.set i ⟨(fe p).2.1,(fe p).2.2,true⟩) es/\MsRow w' A' v (fe p).1/\Mv A A' Z Z' w w':=by
 obtain ⟨v,A',X',rfl,hn,hms,m,hv⟩:=hp;have hx:=hn.xA;have ha:=hn.alt;have hc:=h.call hi m (nd:=⟨p.2.2.1,p.2.2.2,true⟩) ⟨λ_=>hn,(λe=>by cases e),hx⟩ hu.symm ha;obtain ⟨Z',hz',m'⟩:=mH hi hz m;exact ⟨v,A',Z',rfl,⟨Y,os,rs,ds,ls,_,vl,nb,mb,qv,lv,hc,hz'⟩,hms.row hv,m'⟩
set_option maxHeartbeats 4000000 in
theorem tT (h:Gy w A Z g n S es) (i:Nat) (hi:i<n) (hq:S.q.length<=2000) (hU:mA n S) (hu:(S.at i).up=true) (ao:Option Addr) (bn bc:Nat) (rec:List UInt8) (him:ImmZ w A (.slice ao bn bc) rec) (hbn:bn=rec.length) (hnb:bn<=1000000)
  (hg:uY n (fe (bw (S.at i).s (S.at i).k rec)).1) (hU2:mA n (S.set i ⟨(fe (bw (S.at i).s (S.at i).k rec)).2.1,(fe (bw (S.at i).s (S.at i).k rec)).2.2,true⟩)) :
  Calls Tryz.prog 26 #[.pointer (some ⟨g,0,none⟩),.int .i64 (i:Int),.slice ao bn bc] w λe w'=>e = .returned (.bool ((bw (S.at i).s (S.at i).k rec).2.1==0))/\GyP w w' A Z g n (S.turnG n es i (fe (bw (S.at i).s (S.at i).k rec))) es:=by
 generalize hsp:bw (S.at i).s (S.at i).k rec=sp at *;obtain ⟨Y,os,rs,ds,ls,Xs,vl,nb,mb,qv,lv,h,hz⟩:=h;have HU:=ab (jz h i hi hu (hU i hi hu).2);obtain ⟨gl,cr,rfl,hcr,hrow⟩:=h.lrow (by omega);have HZ:=ab hz;have HTK:Hid (∀w2,GyC w2 A Y g n S es os rs ds ls Xs (.slice (some ⟨gl,0,none⟩) n cr) nb mb qv lv->ImmZ w2 A (.slice ao bn bc) rec->Calls Tryz.prog 47 #[.pointer (some ⟨rs i,0,none⟩),.slice ao bn bc] w2 λe w'=>SbP w2 w' A (Xs i) (rs i) (ds i) (ls i) e sp):=ab λw2 h2 him=>hsp ▸ yk ((h2.node i hi).up hu) (hU i hi hu).1 ao bn bc rec him hbn hnb;have HTURN:Hid (∀w2 w3 e,GyC w2 A Y g n S es os rs ds ls Xs (.slice (some ⟨gl,0,none⟩) n cr) nb mb qv lv->SbP w2 w3 A (Xs i) (rs i) (ds i) (ls i) e sp->∃v A' Z',e = .returned (.tuple #[v,.int .i64 sp.2.1])/\Gy w3 A' Z' g n (S.set i ⟨(fe sp).2.1,(fe sp).2.2,true⟩) es/\MsRow w3 A' v (fe sp).1/\Mv A A' Z Z' w2 w3):=ab λw2 w3 e h2 hp=>h2.turnS HZ.out hi hu hp;have HSEND:Hid (∀w3 A' Z' v,Gy w3 A' Z' g n (S.set i ⟨(fe sp).2.1,(fe sp).2.2,true⟩) es->MsRow w3 A' v (fe sp).1->Calls Tryz.prog 37 #[.pointer (some ⟨g,0,none⟩),v] w3 λe w'=>e = .returned (.tuple #[])/\GyP w3 w' A' Z' g n (S.turnG n es i (fe sp)) es):=ab λw3 A' Z' v h3 hr=>lR h3 hq v hr hg hU2 (by omega);have HLR:Hid (∀w2,GyC w2 A Y g n S es os rs ds ls Xs (.slice (some ⟨gl,0,none⟩) n cr) nb mb qv lv->w2.cell? ⟨g,0,none⟩=some (.slice (some ⟨gl,0,none⟩) n cr)/\w2.cell? ⟨gl,i,none⟩=some (.pointer (some ⟨os i,0,none⟩))/\w2.cell? ⟨os i,1,none⟩=some (.pointer (some ⟨rs i,0,none⟩))):=ab λw2 h2=>by
  obtain ⟨gl',cr',e9,_,hr2⟩:=h2.lrow (by omega);cases e9;exact ⟨by rw [af h2.cell];rfl,hr2 i hi,by rw [af (h2.one i hi)];rfl⟩
 have HIM:=ab him;have HRA:=ab ((h.node i hi).xA);have hin:(i:Int)<(n:Int):=by omega
 clear hsp h hz hrow hU hu hg hU2 hq him hbn hnb;go_enter Tryz.func26,Tryz.ntmps26
 go_wp2_with fail
 refine HU.out.mono ?_;rintro e w2 ⟨rfl,hc2,ho2,hrx⟩;have HMV:Hid (Mv A A Z Z w w2):=ab (Mv.only ho2 (λb hb=>by rw [aj.1 hb];exact (HZ.out _).2 (.inr ⟨i,hi,hrx⟩)));obtain ⟨k0,k1,k2⟩:=HLR.out w2 hc2;have HT2:=ab (HTK.out w2 hc2 (HIM.out.step ho2 (λb hb=>by rw [aj.1 hb];exact HRA.out _ hrx) (Ext.refl _ _)));have HTU:=ab (HTURN.out w2 · · hc2);clear hc2 ho2 hrx;go_wp2_with fail
 refine HT2.out.mono ?_;intro e w3 hp;obtain ⟨v,A3,Z3,rfl,h3,hr3,m3⟩:=HTU.out _ _ hp;have HS3:=ab (HSEND.out w3 A3 Z3 v h3 hr3);have HM3:=ab (HMV.out.trans m3);clear h3 hr3 m3 hp;go_wp2_with fail
 refine HS3.out.mono ?_;rintro e w4 ⟨rfl,hG⟩;have HG:=ab (GyP.trans HM3.out hG);clear hG;go_wp2_with fail
 go_ret
 exact ⟨rfl,HG.out⟩
set_option maxHeartbeats 1000000 in
theorem nJ (h:Gy w A Z g n S es) (x:Int) (ao:Option Addr) (bn bc:Nat) (hx:(decide (0<=x)&&decide (x<(n:Int)))=false\/∃i:Nat,i<n/\x=(i:Int)/\(S.at i).up=false) :
  Calls Tryz.prog 26 #[.pointer (some ⟨g,0,none⟩),.int .i64 x,.slice ao bn bc] w λe w'=>e = .returned (.bool false)/\w=w':=by
 obtain ⟨Y,os,rs,ds,ls,Xs,vl,nb,mb,qv,lv,h,hz⟩:=h;have HU:Hid (Calls Tryz.prog 13 #[.pointer (some ⟨g,0,none⟩),.int .i64 x] w λe w'=>e = .returned (.bool false)/\w=w'):=ab (by
  rcases hx with hx | ⟨i,hi,rfl,hu⟩
  ·exact qf h x hx
  ·exact gB h i hi hu)
 clear h hz hx;go_enter Tryz.func26,Tryz.ntmps26
 go_wp2_with fail
 refine HU.out.mono ?_;rintro e w1 ⟨rfl,rfl⟩;go_wp2_with fail
 go_ret
 exact ⟨rfl,rfl⟩
end
structure Gr (s s':Rp):Prop where
 agr:s.agreed<=s'.agreed
 pre:s'.log.take s.agreed=s.log.take s.agreed
 liv:s'.lives=s.lives
theorem Gr.refl (s:Rp):Gr s s:=⟨ah _,rfl,rfl⟩
theorem Gr.trans {a b c:Rp} (h:Gr a b) (g:Gr b c):Gr a c:=by
 refine ⟨aD h.agr g.agr,?_,g.liv.trans h.liv⟩;have:=DL (List.take a.agreed) g.pre;rw [cB,cB,bi h.agr] at this;rw [this,h.pre]
theorem Gr.of {s s':Rp} (h1:s'.agreed=s.agreed) (h2:s'.log=s.log) (h3:s'.lives=s.lives):Gr s s':=⟨by rw [h1];exact ah _,by rw [h2],h3⟩
theorem Gr.from {a b c:Rp} (h:Gr b c) (h1:b.agreed=a.agreed) (h2:b.log=a.log) (h3:b.lives=a.lives):Gr a c:=⟨by rw [<-h1];exact h.agr,by rw [<-h1,<-h2];exact h.pre,h.liv.trans h3⟩
structure Qt (s:Rp):Prop where
 log:∀x∈s.log,x.bs=[]
 dsk:∀b∈s.wl.recs,b.length<=32
def Ay (m:Msg):Prop:=∀b∈m.B,b=[]
structure St (s:Rp) (p:List Msg×Rp×Dk):Prop where
 gr:Gr s p.2.1
 qt:Qt s->Qt p.2.1/\∀m∈p.1,Ay m
section
variable {s s':Rp} {k k':Dk}
theorem St.none (h1:Gr s s') (h2:Qt s->Qt s'):St s ([],s',k'):=⟨h1,λh=>⟨h2 h,λm hm=>by cases hm⟩⟩
theorem Qt.of (h:Qt s) (h1:s'.log=s.log) (h2:s'.wl.recs=s.wl.recs):Qt s':=⟨by rw [h1];exact h.log,by rw [h2];exact h.dsk⟩
theorem St.pre {a b:Rp} {p:List Msg×Rp×Dk} (h:St b p) (h1:Gr a b) (h2:Qt a->Qt b):St a p:=⟨h1.trans h.gr,λq=>h.qt (h2 q)⟩
theorem jL (b:List UInt8):(bB s k b).1.log=s.log/\(bB s k b).1.agreed=s.agreed/\(bB s k b).1.lives=s.lives:=by
 rw [ei];exact ⟨rfl,rfl,rfl⟩
theorem gP:(bT s k).1.log=s.log/\(bT s k).1.agreed=s.agreed/\(bT s k).1.lives=s.lives:=by
 rw [eO];exact ⟨rfl,rfl,rfl⟩
theorem u9 (h:∀b∈s.wl.recs,b.length<=32) (b:List UInt8) (hb:b.length<=32):∀x∈(bB s k b).1.wl.recs,x.length<=32:=by
 intro x hx;rcases j8 (s:=s) (k:=k) b with ⟨_,_,e⟩ | ⟨_,e⟩
 ·rw [e] at hx;rcases ap.1 hx with h1 | h1
  ·exact h x h1
  ·rw [aj.1 h1];exact hb
 ·rw [e] at hx;exact h x hx
theorem qW (h:Qt s) (b:List UInt8) (hb:b.length<=32):Qt (bB s k b).1:=⟨by rw [(jL b).1];exact h.log,u9 h.dsk b hb⟩
theorem pU (h:Qt s):Qt (bT s k).1:=h.of gP.1 lB.1
theorem nW (term who:Int):Gr s (be s k term who).2.1/\(Qt s->Qt (be s k term who).2.1):=by
 have h1:=jL (s:=s) (k:=k) (dw term who);have h2:Qt s->Qt (bB s k (dw term who)).1:=λq=>qW q _ (by rw [iz];omega);unfold be;generalize bB s k (dw term who)=p at *;simp only;split
 ·exact ⟨Gr.of h1.2.1 h1.1 h1.2.2,h2⟩
 ·have h3:=gP (s:=p.1) (k:=p.2);have h4:Qt p.1->Qt (bT p.1 p.2).1:=pU;generalize bT p.1 p.2=q at *;split
  ·exact ⟨Gr.of (h3.2.1.trans h1.2.1) (h3.1.trans h1.1) (h3.2.2.trans h1.2.2),λq=>h4 (h2 q)⟩
  ·exact ⟨Gr.of (h3.2.1.trans h1.2.1) (h3.1.trans h1.1) (h3.2.2.trans h1.2.2),λq=>(h4 (h2 q)).of rfl rfl⟩
theorem qY (p:Nat) (x:Ent) (hp:s.agreed<=p) (hp2:p<=s.log.length):Gr s (b8 s k p x).2.1/\(Qt s->x.bs=[]->Qt (b8 s k p x).2.1)/\(b8 s k p x).2.1.agreed=s.agreed:=by
 have h1:=jL (s:=s) (k:=k) (db p x);have h2:Qt s->x.bs=[]->Qt (bB s k (db p x)).1:=λq e=>qW q _ (by rw [gL,e];simp);unfold b8;generalize bB s k (db p x)=q at *;simp only;split
 ·exact ⟨Gr.of h1.2.1 h1.1 h1.2.2,h2,h1.2.1⟩
 ·refine ⟨⟨by show s.agreed<=q.1.agreed;rw [h1.2.1];exact ah _,?_,h1.2.2⟩,λh e=>⟨λy hy=>?_,(h2 h e).dsk⟩,h1.2.1⟩
  ·show (q.1.log.take p++[x]).take s.agreed=_;rw [h1.1,cG (by rw [aI];omega),cB,bi hp]
  ·rcases ap.1 hy with h3 | h3
   ·exact (h2 h e).log y (eK h3)
   ·rw [aj.1 h3];exact e
theorem yD (x:Ent) (ha:s.agreed<=s.log.length):Gr s (fg s k x).2.1/\(Qt s->x.bs=[]->Qt (fg s k x).2.1):=by
 have h:=qY (s:=s) (k:=k) s.log.length x ha (ah _);unfold fg;generalize b8 s k s.log.length x=q at *;simp only;split
 ·have h3:=gP (s:=q.2.1) (k:=q.2.2);exact ⟨h.1.trans (Gr.of h3.2.1 h3.1 h3.2.2),λa b=>pU (h.2.1 a b)⟩
 ·exact ⟨h.1,h.2.1⟩
theorem sF (n:Nat):Gr s (bM s n)/\(bM s n).log=s.log/\(bM s n).wl=s.wl:=by
 unfold bM;split
 ·exact ⟨⟨by show s.agreed<=n;omega,rfl,rfl⟩,rfl,rfl⟩
 ·exact ⟨Gr.refl _,rfl,rfl⟩
theorem ir:Gr s (bI s).2/\(bI s).2.log=s.log/\(bI s).2.wl=s.wl:=by
 unfold bI;simp only;split
 ·rename_i m _;have h:=sF (s:={ s with mat:=s.mat.set s.own s.log.length }) m;exact ⟨h.1.from rfl rfl rfl,h.2.1,h.2.2⟩
 ·exact ⟨Gr.of rfl rfl rfl,rfl,rfl⟩
theorem vI (h:Qt s):Qt (bI s).2:=h.of ir.2.1 (by rw [ir.2.2])
theorem ko (h:Qt s) (d:Nat):Ay (bQ s d):=by
 intro b hb;have hb:b∈(((s.log.drop (s.next.getD d 0)).take 20).map Ent.bs):=hb;obtain ⟨x,hx,rfl⟩:=cF.1 hb;exact h.log x (mK (eK hx))
theorem i7 (d kd:Int) (N:List Int):Ay (da s d kd N):=λb hb=>by cases hb
theorem km (h:Qt s):∀m∈cR s (bQ s),Ay m:=λm hm=>by
 obtain ⟨i,_,_,rfl⟩:=ic _ _ hm;exact ko h i
theorem ma (kind:Int):∀m∈cR s (bp s kind),Ay m:=λm hm=>by
 obtain ⟨i,_,_,rfl⟩:=ic _ _ hm;exact i7 _ _ _
theorem um (ha:s.agreed<=s.log.length):St s (fT s k):=by
 have h:=yD (s:={ s with leads:=true,next:=List.replicate s.n s.log.length,mat:=List.replicate s.n 0 }) (k:=k) ⟨s.term,[]⟩ ha;unfold fT;simp only;generalize fg { s with leads:=true,next:=List.replicate s.n s.log.length,mat:=List.replicate s.n 0 } k ⟨s.term,[]⟩=p at *;have h0:Gr s p.2.1:=h.1.from rfl rfl rfl;split
 ·refine ⟨h0.trans ir.1,λq=>?_⟩;have q2:=vI (h.2 (q.of rfl rfl) rfl);exact ⟨q2,km q2⟩
 ·exact St.none h0 λq=>h.2 (q.of rfl rfl) rfl
theorem pt (term who:Int):(be s k term who).2.1.agreed=s.agreed/\(be s k term who).2.1.log=s.log:=by
 have h1:=jL (s:=s) (k:=k) (dw term who);unfold be;generalize bB s k (dw term who)=p at *;simp only;split
 ·exact ⟨h1.2.1,h1.1⟩
 ·have h3:=gP (s:=p.1) (k:=p.2);generalize bT p.1 p.2=q at *;split
  ·exact ⟨h3.2.1.trans h1.2.1,h3.1.trans h1.1⟩
  ·exact ⟨h3.2.1.trans h1.2.1,h3.1.trans h1.1⟩
theorem yo (ha:s.agreed<=s.log.length):St s (fR s k):=by
 unfold fR;split
 ·exact St.none (Gr.refl _) id
 ·have h:=nW (s:=s) (k:=k) (s.term+1) (s.own:Int);have hl:=pt (s:=s) (k:=k) (s.term+1) (s.own:Int);generalize be s k (s.term+1) (s.own:Int)=p at *;simp only;split
  ·have e:Gr s { p.2.1 with ticks:=0,votes:=(List.replicate s.n false).set s.own true }:=h.1.trans (Gr.of rfl rfl rfl);have eq:Qt s->Qt { p.2.1 with ticks:=0,votes:=(List.replicate s.n false).set s.own true }:=λq=>(h.2 q).of rfl rfl;split
   ·exact (um (by show p.2.1.agreed<=p.2.1.log.length;rw [hl.1,hl.2];exact ha)).pre e eq
   ·exact ⟨e,λq=>⟨eq q,ma 1⟩⟩
  ·exact St.none h.1 h.2
theorem AO (h:Wf s k):St s (dX s k):=by
 unfold dX;simp only;split
 ·exact St.none (Gr.of rfl rfl rfl) (λq=>q.of rfl rfl)
 ·split
  ·exact ⟨Gr.of rfl rfl rfl,λq=>⟨q.of rfl rfl,km (q.of rfl rfl)⟩⟩
  ·split
   ·exact (yo (by exact h.agr)).pre (Gr.of rfl rfl rfl) (λq=>q.of rfl rfl)
   ·split
    ·exact ⟨Gr.of rfl rfl rfl,λq=>⟨q.of rfl rfl,ma 5⟩⟩
    ·exact St.none (Gr.of rfl rfl rfl) (λq=>q.of rfl rfl)
theorem wF (h:Wf s k) (rec:List UInt8):Gr s (bw s k rec).2.2.1:=by
 unfold bw;by_cases h1:rec.length=0
 ·rw [aA h1];exact Gr.refl _
 rw [aw h1];by_cases h2:8000<rec.length
 ·rw [aA h2];exact Gr.refl _
 rw [aw h2];simp only;by_cases h3:(aV s k).done=true
 ·rw [aA h3];exact Gr.of rfl rfl rfl
 rw [aw h3];by_cases h4:(!(aV s k).leads)=true
 ·rw [aA h4];exact Gr.of rfl rfl rfl
 rw [aw h4];by_cases h5:200<=ia (aV s k)\/2000<=(aV s k).many
 ·rw [aA h5];exact Gr.of rfl rfl rfl
 rw [aw h5];have hp:=yD (s:=aV s k) (k:=k) ⟨(aV s k).term,rec⟩ (by exact h.agr);generalize fg (aV s k) k ⟨(aV s k).term,rec⟩=p at *;have h0:Gr s p.2.1:=hp.1.from rfl rfl rfl;by_cases h6:p.1=true
 ·rw [aA h6];exact h0.trans ir.1
 ·rw [aw h6];exact h0
theorem yp (m:Msg):St s (dW s k m):=by
 unfold dW;split
 ·simp only;split
  ·split
   ·have h:=nW (s:=s) (k:=k) s.term m.frm;generalize be s k s.term m.frm=p at *;split
    ·exact ⟨h.1.trans (Gr.of rfl rfl rfl),λq=>⟨(h.2 q).of rfl rfl,λx hx=>by rw [aj.1 hx];exact i7 _ _ _⟩⟩
    ·exact St.none h.1 h.2
   ·exact ⟨Gr.of rfl rfl rfl,λq=>⟨q.of rfl rfl,λx hx=>by rw [aj.1 hx];exact i7 _ _ _⟩⟩
  ·exact ⟨Gr.refl _,λq=>⟨q,λx hx=>by rw [aj.1 hx];exact i7 _ _ _⟩⟩
 ·exact St.none (Gr.refl _) id
theorem yn (ha:s.agreed<=s.log.length) (m:Msg):St s (eF s k m):=by
 unfold eF;split
 ·exact St.none (Gr.refl _) id
 ·simp only;split
  ·exact (um (by exact ha)).pre (Gr.of rfl rfl rfl) (λq=>q.of rfl rfl)
  ·exact St.none (Gr.of rfl rfl rfl) (λq=>q.of rfl rfl)
theorem zk (f:Nat) (l:List (Int×List UInt8)):∀(i:Nat) (s:Rp) (k:Dk),f+i<=s.log.length ->
  Gr s (bE f l i s k).2.1/\(Qt s->(∀x∈l,x.2=[])->Qt (bE f l i s k).2.1):=by
 induction l with
 | nil=>intro i s k _;exact ⟨Gr.refl _,λq _=>q⟩
 | cons a l ih =>
  intro i s k hf;obtain ⟨t,rec⟩:=a;unfold bE;by_cases h1:f+i<s.log.length/\(s.log.map Ent.term).getD (f+i) 0=t
  ·rw [aA h1];have h2:=ih (i+1) s k (by omega);exact ⟨h2.1,λq e=>h2.2 q (λx hx=>e x (aU _ hx))⟩
  ·rw [aw h1];by_cases h2:8000<rec.length\/t<1\/s.term<t\/f+i<s.agreed
   ·rw [aA h2];exact ⟨Gr.refl _,λq _=>q⟩
   ·rw [aw h2];have hs:=qY (s:=s) (k:=k) (f+i) ⟨t,rec⟩ (by omega) hf;have hg:=kq (s:=s) (k:=k) (f+i) ⟨t,rec⟩;generalize b8 s k (f+i) ⟨t,rec⟩=p at *;simp only;by_cases h3:p.1=true
    ·rw [aA h3];have hlen:p.2.1.log.length=f+i+1:=by
      rw [hg h3];simp [bi hf]
     have h4:=ih (i+1) p.2.1 p.2.2 (by omega);exact ⟨hs.1.trans h4.1,λq e=>h4.2 (hs.2.1 q (e _ cz)) (λx hx=>e x (aU _ hx))⟩
    ·rw [aw h3];exact ⟨hs.1,λq e=>hs.2.1 q (e _ cz)⟩
structure StM (s:Rp) (m:Msg) (p:List Msg×Rp×Dk):Prop where
 gr:Gr s p.2.1
 qt:Qt s->Ay m->Qt p.2.1/\∀m∈p.1,Ay m
theorem St.m {p:List Msg×Rp×Dk} (h:St s p) (m:Msg):StM s m p:=⟨h.gr,λq _=>h.qt q⟩
theorem StM.pre {a b:Rp} {m:Msg} {p:List Msg×Rp×Dk} (h:StM b m p) (h1:Gr a b) (h2:Qt a->Qt b):StM a m p:=⟨h1.trans h.gr,λq e=>h.qt (h2 q) e⟩
theorem AP (m:Msg):StM s m (dH s k m):=by
 unfold dH;by_cases hb:(!(m.N.length==4+m.B.length)||decide (m.N.getD 1 0<0)||(m.N.getD 0 0==s.term&&s.leads))=true
 ·rw [aA hb];exact (St.none (Gr.refl _) id).m m
 rw [aw hb];by_cases h1:m.N.getD 0 0<s.term
 ·rw [aA h1];exact St.m (p:=([da s m.frm 4 [s.term,0,0]],s,k)) ⟨Gr.refl _,λq=>⟨q,λx hx=>by rw [aj.1 hx];exact i7 _ _ _⟩⟩ m
 rw [aw h1];simp only;by_cases hft:ey { s with ticks:=0 } (m.N.getD 1 0) (m.N.getD 2 0)=true
 ·rw [aA hft];have hfl:(m.N.getD 1 0).toNat<=s.log.length:=by
   unfold ey at hft;simp only [bA,bC] at hft;omega
  have hF:=zk (m.N.getD 1 0).toNat ((m.N.drop 4).zip m.B) 0 { s with ticks:=0 } k hfl;have hz:Ay m->∀x∈(m.N.drop 4).zip m.B,x.2=[]:=λq x hx=>q x.2 (List.of_mem_zip hx).2;generalize bE (m.N.getD 1 0).toNat ((m.N.drop 4).zip m.B) 0 { s with ticks:=0 } k=p at *;have g0:Gr s p.2.1:=hF.1.from rfl rfl rfl;have q0:Qt s->Ay m->Qt p.2.1:=λq e=>hF.2 (q.of rfl rfl) (hz e);by_cases hp:p.1=true
  ·rw [aA hp];have hq:∃q:Rp×Dk,q=(if m.B.length=0 then p.2 else bT p.2.1 p.2.2)/\Gr s q.1/\(Qt s->Ay m->Qt q.1):=by
    by_cases h2:m.B.length=0
    ·rw [aA h2];exact ⟨_,rfl,g0,q0⟩
    ·rw [aw h2];exact ⟨_,rfl,g0.trans (Gr.of gP.2.1 gP.1 gP.2.2),λa b=>pU (q0 a b)⟩
   obtain ⟨q,hqe,hg,hqq⟩:=hq;rw [<-hqe];split
   ·exact ⟨hg,λa b=>⟨hqq a b,λx hx=>by cases hx⟩⟩
   ·have hag:=sF (s:=q.1) (min (m.N.getD 3 0) (((m.N.getD 1 0).toNat+m.B.length:Nat):Int)).toNat;exact ⟨hg.trans hag.1,λa b=>⟨(hqq a b).of hag.2.1 (by rw [hag.2.2]),λx hx=>by rw [aj.1 hx];exact i7 _ _ _⟩⟩
  ·rw [aw hp];exact ⟨g0,λa b=>⟨q0 a b,λx hx=>by cases hx⟩⟩
 ·rw [aw hft];exact ⟨Gr.of rfl rfl rfl,λq _=>⟨q.of rfl rfl,λx hx=>by rw [aj.1 hx];exact i7 _ _ _⟩⟩
theorem qO (m:Msg):St s ((bR s m).1,(bR s m).2,k):=by
 unfold bR;by_cases hb:(!s.leads || !(m.N.getD 0 0==s.term) || !(m.N.length==3)||decide (m.N.getD 2 0<0)||decide ((s.log.length:Int)<m.N.getD 2 0))=true
 ·rw [aA hb];exact St.none (Gr.refl _) id
 rw [aw hb];simp only;by_cases h1:m.N.getD 1 0=0
 ·rw [aA h1];split
  ·exact St.none (Gr.refl _) id
  ·exact ⟨Gr.of rfl rfl rfl,λq=>⟨q.of rfl rfl,λx hx=>by rw [aj.1 hx];exact ko (s:={ s with next:=s.next.set m.frm.toNat (max (m.N.getD 2 0).toNat (s.mat.getD m.frm.toNat 0))}) (q.of rfl rfl) _⟩⟩
 ·rw [aw h1];split
  ·exact St.none (Gr.refl _) id
  ·have hst:=ir (s:={ s with mat:=s.mat.set m.frm.toNat (m.N.getD 2 0).toNat,next:=s.next.set m.frm.toNat (max (m.N.getD 2 0).toNat (s.next.getD m.frm.toNat 0))});generalize bI { s with mat:=s.mat.set m.frm.toNat (m.N.getD 2 0).toNat,next:=s.next.set m.frm.toNat (max (m.N.getD 2 0).toNat (s.next.getD m.frm.toNat 0))}=p at *;have g0:Gr s p.2:=hst.1.from rfl rfl rfl;have q0:Qt s->Qt p.2:=λq=>q.of hst.2.1 (by rw [hst.2.2]);split
   ·exact ⟨g0,λq=>⟨q0 q,km (q0 q)⟩⟩
   ·split
    ·exact ⟨g0,λq=>⟨q0 q,λx hx=>by rw [aj.1 hx];exact ko (q0 q) _⟩⟩
    ·exact St.none g0 q0
theorem Ch (h:Wf s k) (m:Msg):StM s m (fw s k m):=by
 unfold fw;by_cases hb:((aV s k).done||l3 (aV s k) m)=true
 ·rw [aA hb];exact ⟨Gr.of rfl rfl rfl,λq _=>⟨q.of rfl rfl,λx hx=>by cases hx⟩⟩
 rw [aw hb];have hp:∃p:Bool×Rp×Dk,p=(if (aV s k).term<m.N.getD 0 0 then be (aV s k) k (m.N.getD 0 0) (-1) else (true,aV s k,k))/\Gr s p.2.1/\(Qt s->Qt p.2.1)/\p.2.1.agreed<=p.2.1.log.length:=by
  by_cases ht:(aV s k).term<m.N.getD 0 0
  ·rw [aA ht];have he:=nW (s:=aV s k) (k:=k) (m.N.getD 0 0) (-1);have ha:=pt (s:=aV s k) (k:=k) (m.N.getD 0 0) (-1);exact ⟨_,rfl,he.1.from rfl rfl rfl,λq=>he.2 (q.of rfl rfl),by rw [ha.1,ha.2];exact h.agr⟩
  ·rw [aw ht];exact ⟨_,rfl,Gr.of rfl rfl rfl,λq=>q.of rfl rfl,h.agr⟩
 obtain ⟨p,hpe,hg,hq,ha⟩:=hp;simp only;rw [<-hpe];by_cases h1:p.1=true
 ·rw [aA h1];split
  ·exact ((yp m).m m).pre hg hq
  ·split
   ·exact ((yn ha m).m m).pre hg hq
   ·split
    ·exact (AP m).pre hg hq
    ·split
     ·exact ((qO m).m m).pre hg hq
     ·split
      ·split
       ·exact ⟨hg.trans (Gr.of rfl rfl rfl),λq _=>⟨(hq q).of rfl rfl,λx hx=>by cases hx⟩⟩
       ·exact (St.none hg hq).m m
      ·exact (St.none hg hq).m m
 ·rw [aw h1];exact (St.none hg hq).m m
end
section -- Sy2
section
variable {w w':World} {A A' Y Z Z':List Nat} {c n:Nat} {S:Mn} {rs ds ls:Nat->Nat} {Xs:Nat->List Nat} {vr vd:Value} {gu:Nat} {qv gv lv:Value}
def Mn.send (S:Mn) (ms:List Msg):Mn:={ S with q:=ms.foldl fK S.q }
end
end
section -- SySend
section
variable {w w':World} {A A' Y Z Z':List Nat} {c n:Nat} {S:Mn} {rs ds ls:Nat->Nat} {Xs:Nat->List Nat} {vr vd:Value} {gu:Nat} {qv gv lv:Value}
end
end
section -- SyBring
section
variable {w w':World} {A A' Y Z Z':List Nat} {c n:Nat} {S:Mn} {rs ds ls:Nat->Nat} {Xs:Nat->List Nat} {vr vd:Value} {gu:Nat} {qv gv lv:Value}
end
end
section -- SyM
structure SInv (n cl:Nat) (S:Mn):Prop where
 nl:S.nodes.length=n
 id:∀i,i<n->(S.at i).s.own=i/\(S.at i).s.n=n
 wf:∀i,i<n->(S.at i).up=true->Wf (S.at i).s (S.at i).k/\(S.at i).s.clock<=cl
 q:∀m∈S.q,∃fr,fr<n/\GoodM fr n m
 ql:S.q.length<=2000
section
variable {n cl:Nat} {S:Mn}
theorem SInv.mono {cl':Nat} (h:SInv n cl S) (hc:cl<=cl'):SInv n cl' S:=⟨h.nl,h.id,λi hi hu=>⟨(h.wf i hi hu).1,aD (h.wf i hi hu).2 hc⟩,h.q,h.ql⟩
end
end
section -- SyCalm
section
variable {w w':World} {A A' Y Z Z':List Nat} {c n cl:Nat} {S:Mn} {rs ds ls:Nat->Nat} {Xs:Nat->List Nat} {vr vd:Value} {gu:Nat} {qv gv lv:Value}
end
end
section -- SyBegun
def B2:Dk:=⟨1048576,false,1,none⟩
def yO (n j:Nat):Nod:=⟨dg j n 1 [],B2,true⟩
def Mn.begun (n:Nat):Mn:={ nodes:=(List.range n).map (yO n),q:=[],long:=[],bad:=false,gn:=0 }
theorem gD (n j:Nat) (h:j<n):(Mn.begun n).at j=yO n j:=by
 unfold Mn.begun Mn.at;simp [aF,h]
section
variable {w w':World} {A A' Y Z Z':List Nat} {c n i:Nat} {S:Mn} {rs ds ls:Nat->Nat} {Xs:Nat->List Nat} {vr vd:Value} {gu:Nat} {qv gv lv:Value}
section
variable {W V V':World} {T:List Nat} {C n gu:Nat} {vr vd cr cd xr xd:Value} {nr nd:Nat} {lr ld:List Value}
end
end
end
section -- SyDo1
section
variable {w w':World} {A A' Y Z Z':List Nat} {c n cl:Nat} {S:Mn} {rs ds ls:Nat->Nat} {Xs:Nat->List Nat} {vr vd:Value} {gu:Nat} {qv gv lv:Value}
end
end
section -- SyQ
section
variable {w w':World} {A A' Y Z Z':List Nat} {c n cl:Nat} {S:Mn}
end
end
section -- SyDo4
def Mn.crash (S:Mn) (i:Nat) (keep:Int):Mn:=S.set i ⟨(S.at i).s,cS (S.at i).k keep,false⟩
section
variable {w w':World} {A A' Y Z Z':List Nat} {c n cl:Nat} {S:Mn} {rs ds ls:Nat->Nat} {Xs:Nat->List Nat} {vr vd:Value} {gu:Nat} {qv gv lv:Value}
end
end
section -- SyDo5
def Mn.back (S:Mn) (n i:Nat):Mn:=if (S.at i).up then S else S.set i ⟨eB i n (S.at i).s (S.at i).k,ep (S.at i).s (S.at i).k,true⟩
section
variable {w w':World} {A A' Y Z Z':List Nat} {c n cl:Nat} {S:Mn} {rs ds ls:Nat->Nat} {Xs:Nat->List Nat} {vr vd:Value} {gu:Nat} {qv gv lv:Value}
end
end
section -- SyDo6
def Mn.submit (S:Mn) (i:Nat) (rec:List UInt8):Mn :=
 if (S.at i).up then
  let p:=bw (S.at i).s (S.at i).k rec
  let S1:=S.set i ⟨p.2.2.1,p.2.2.2,true⟩
  (if p.2.1=0 then { S1 with gn:=S1.gn+1 } else S1).send p.1
 else S
section
variable {w w':World} {A A' Y Z Z':List Nat} {c n cl:Nat} {S:Mn} {rs ds ls:Nat->Nat} {Xs:Nat->List Nat} {vr vd:Value} {gu:Nat} {qv gv lv:Value}
end
end
section -- AArg
theorem tH {z:Int} (h:(Lit.int .i64 z).wf=true) : -9223372036854775808<=z/\z<=9223372036854775807:=by
 simp only [Lit.wf,IntKind.min,IntKind.max,IntKind.signed,IntKind.bits,bA,bC,if_true] at h;omega
section
variable {H:Type} {enc:TypeId×Value->H}
end
end
section -- SyLight
section
variable {w:World}
end
end
section -- SyLook0
def Dr (l lg:List (List UInt8)):List (List UInt8):=if lg.length<l.length then l else lg
section
variable {w w':World} {A A' Y Z Z':List Nat} {c n cl:Nat} {S:Mn} {rs ds ls:Nat->Nat} {Xs:Nat->List Nat} {vr vd:Value} {gu:Nat} {qv gv lv:Value}
end
end
section -- SyI
structure BInv (n cl lv:Nat) (S:Mn):Prop where
 sv:SInv n cl S
 n1:1<=n
 n5:n<=5
 up:∀i,i<n->(S.at i).up=true->UpI (S.at i).s (S.at i).k/\(S.at i).s.lives=(S.at i).k.lives
 dn:∀i,i<n->(S.at i).up=false->DnI (S.at i).s (S.at i).k
 liv:∀i,i<n->0<=(S.at i).k.lives/\(S.at i).k.lives<=lv
 gn:S.gn<=lv
structure Turn (n cl lv i:Nat) (S:Mn) (nd:Nod):Prop where
 own:nd.s.own=i
 nn:nd.s.n=n
 up:nd.up=true->UpI nd.s nd.k/\nd.s.lives=nd.k.lives/\nd.s.clock<=cl
 dn:nd.up=false->DnI nd.s nd.k
 liv:0<=nd.k.lives/\nd.k.lives<=lv
section
variable {n cl lv:Nat} {S:Mn}
theorem BInv.mono {cl' lv':Nat} (h:BInv n cl lv S) (hc:cl<=cl') (hl:lv<=lv'):BInv n cl' lv' S :=
 ⟨h.sv.mono hc,h.n1,h.n5,h.up,h.dn,λi hi=>⟨(h.liv i hi).1,by have:=(h.liv i hi).2;omega⟩,aD h.gn hl⟩
theorem BInv.set {i:Nat} {nd:Nod} (h:BInv n cl lv S) (hi:i<n) (ht:Turn n cl lv i S nd):BInv n cl lv (S.set i nd):=by
 have hat:∀j,(S.set i nd).at j=if j=i then nd else S.at j:=λj=>Mn.at_set S i j _ (by rw [h.sv.nl];exact hi)
 refine ⟨⟨by simp [Mn.set,h.sv.nl],λj hj=>?_,λj hj hu=>?_,h.sv.q,h.sv.ql⟩,h.n1,h.n5,λj hj hu=>?_,λj hj hu=>?_,λj hj=>?_,h.gn⟩;all_goals
  by_cases e:j=i
  ·subst e;simp only [hat,aA] at *;first
    | exact ⟨ht.own,ht.nn⟩
    | exact ⟨(ht.up hu).1.wf,(ht.up hu).2.2⟩
    | exact ⟨(ht.up hu).1,(ht.up hu).2.1⟩
    | exact ht.dn hu
    | exact ht.liv
  ·simp only [hat,aw e] at *;first
    | exact h.sv.id j hj
    | exact h.sv.wf j hj hu
    | exact h.up j hj hu
    | exact h.dn j hj hu
    | exact h.liv j hj
theorem Turn.of {i d:Nat} {p:List Msg×Rp×Dk} (h:BInv n cl lv S) (hi:i<n) (hu:(S.at i).up=true) (ho:Out (S.at i).s d p) (hk:KS (S.at i).k p.2.2) (hn:NOk p.2.1) (hg:Gr (S.at i).s p.2.1):Turn n (cl+d) lv i S ⟨p.2.1,p.2.2,true⟩:=by
 have h1:=h.up i hi hu;refine ⟨ho.own.trans (h.sv.id i hi).1,ho.n.trans (h.sv.id i hi).2,λ_=>⟨⟨ho.wf,hn,hk.sf h1.1.sf,hk.off.trans h1.1.off⟩,hg.liv.trans (h1.2.trans hk.lives.symm),?_⟩,(λe=>by cases e),?_⟩
 ·have:=ho.clock;have:=(h.sv.wf i hi hu).2;show p.2.1.clock<=_;omega
 ·show 0<=p.2.2.lives/\p.2.2.lives<=_;rw [hk.lives];exact h.liv i hi
theorem BInv.crash (h:BInv n cl lv S) (i:Nat) (hi:i<n) (keep:Int):BInv n cl lv (S.crash i keep):=by
 refine h.set hi ⟨(h.sv.id i hi).1,(h.sv.id i hi).2,(λe=>by cases e),λ_=>?_,h.liv i hi⟩;cases hu:(S.at i).up with
 | true=>exact (h.up i hi hu).1.crash keep
 | false=>exact (h.dn i hi hu).crash keep
theorem ue (i m:Nat) (s:Rp) (k:Dk):(eB i m s k).lives=k.lives+1/\(ep s k).lives=k.lives+1:=by
 obtain ⟨t,c,g,e⟩:=fC (dg i m (k.lives+1) (dS s k)) ((dS s k).map kT);constructor
 ·unfold eB;rw [e];rfl
 ·unfold ep eJ;split<;>rfl
theorem BInv.back (h:BInv n cl lv S) (i:Nat) (hi:i<n):BInv n cl (lv+1) (S.back n i):=by
 unfold Mn.back;split
 ·exact h.mono (ah _) (cf lv)
 ·rename_i hu;have hu:(S.at i).up=false:=by simpa using hu
  obtain ⟨h1,h2,h3,h4⟩:=BQ (h.dn i hi hu);rw [(h.sv.id i hi).1,(h.sv.id i hi).2] at h1 h2 h3 h4;have hl:=ue i n (S.at i).s (S.at i).k;have hv:=h.liv i hi;refine (h.mono (ah _) (cf lv)).set hi ⟨h2,h3,λ_=>⟨h1,by rw [hl.1,hl.2],by show (eB i n (S.at i).s (S.at i).k).clock<=cl;rw [h4];exact aH _⟩,(λe=>by cases e),?_⟩;show 0<=(ep (S.at i).s (S.at i).k).lives/\(ep (S.at i).s (S.at i).k).lives<=_;rw [hl.2];omega
theorem BInv.ofq {q:List Msg} (h:BInv n cl lv S) (hq:∀m∈q,m∈S.q) (hl:q.length<=2000):BInv n cl lv { S with q:=q } :=
 ⟨⟨h.sv.nl,h.sv.id,h.sv.wf,λm hm=>h.sv.q m (hq m hm),hl⟩,h.n1,h.n5,h.up,h.dn,h.liv,h.gn⟩
end
end
section -- SyI2
section
variable {n cl lv:Nat} {S:Mn}
theorem vE (j n:Nat) (hj:j<n) (hn:n<=5):UpI (dg j n 1 []) B2:=by
 refine ⟨⟨by show 1<=n;omega,hn,hj,by simp [dg],by simp [dg],by simp [dg],by simp [dg],?_,?_,?_,?_,ah _,rfl,(λh=>by cases h),aX _,?_,aX _,?_,(λx hx=>by cases hx),ah _,λx hx=>?_⟩,⟨⟨[],rfl,trivial,λ_=>⟨rfl,rfl,rfl⟩⟩,(λh=>by cases h)⟩,(λl q h=>by cases h),rfl⟩
 ·exact aX _
 ·show ((0:Nat):Int)<=1048576;decide
 ·rfl
 ·exact ah _
 ·show (0:Int)<=_;decide
 ·show (-1:Int)<(n:Int);omega
 ·have:x∈List.replicate n ((0:Int),(0:Int),(0:Int)):=hx;rw [List.eq_of_mem_replicate this];exact ⟨aX _,aX _⟩
theorem fx (n:Nat) (h1:1<=n) (h5:n<=5):BInv n 0 1 (Mn.begun n):=by
 have hat:=gD n;have hu:∀i,i<n->UpI (yO n i).s (yO n i).k:=λi hi=>vE i n hi h5;refine ⟨⟨by simp [Mn.begun],λi hi=>by rw [hat i hi];exact ⟨rfl,rfl⟩,λi hi _=>by rw [hat i hi];exact ⟨(hu i hi).wf,ah _⟩,(λm hm=>by cases hm),aH _⟩,h1,h5,λi hi _=>by rw [hat i hi];exact ⟨hu i hi,rfl⟩,(λi hi hd=>by rw [hat i hi] at hd;cases hd),λi hi=>by rw [hat i hi];exact ⟨show (0:Int)<=1 by decide,show (1:Int)<=((1:Nat):Int) by decide⟩,aH _⟩
end
end
section -- SyAw0
end
section -- SyLead
theorem tJ {s:Rp} {k:Dk} (h1:k.off=false) (h2:s.lives=k.lives):(jb s k).1=(s.leads && !s.done)/\(jb s k).2=s:=by
 have hd:dQ s k=s.done:=by
  unfold dQ;rw [h1,h2];simp
 have he:aV s k=s:=by unfold aV;rw [hd]
 unfold jb;by_cases hl:s.leads=true
 ·rw [aA hl];exact ⟨by rw [hd,hl];rfl,he⟩
 ·rw [aw hl];exact ⟨by simp at hl;rw [hl];rfl,rfl⟩
section
variable {w w':World} {A A' Y Z Z':List Nat} {c n cl lv:Nat} {S:Mn} {rs ds ls:Nat->Nat} {Xs:Nat->List Nat} {vr vd:Value} {gu:Nat} {qv gv lgv:Value}
end
end
end Go.Proofs.YtnhefallmioefaaGreat
