/-
  What the proof of the law leans on: contracts of the program's functions, one behind another. No condition.
-/
import Derived.Test.YtnhefallmioefaaGreatV0
import Derived.Test.YtnhefallmioefaaGreatV42
import Derived.Test.YtnhefallmioefaaGreatV1
set_option linter.unusedVariables false
set_option linter.unusedSimpArgs false
namespace Go.Proofs.YtnhefallmioefaaGreat
open Go.RowKit Go.ChangeMaps Go.WideMaps Go.Maps
set_option maxRecDepth 20000
section
variable {w wr w2:World} {A A' Z Z':List Nat} {g n:Nat} {S S':Mn} {es es':Cuts}
theorem LgA.gyp (h:LgA w wr A Z g n S es) (p:GyP wr w2 A Z g n S' es'):∃A' Z',LgA w w2 A' Z' g n S' es':=by
 obtain ⟨A2,Z2,h2,m2⟩:=p;exact ⟨A2,Z2,h.mv h2 m2⟩
theorem IsBC.z {b off i:Nat} {R:List (List UInt8)} {ao:Option Addr} {q cp:Nat} (h1:w.cell? ⟨b,off+i,none⟩=some (.slice ao q cp)) (h2:IsB w ao q cp (R.getD i [])) (h3:q<=cp) (hA:∀b∈A,w.heap.size<=b) (hb:Below w.heap.size w wr) :
  wr.cell? ⟨b,off+i,none⟩=some (.slice ao q cp)/\ImmZ wr A (.slice ao q cp) (R.getD i [])/\q=(R.getD i []).length:=by
 have hl:q=(R.getD i []).length:=h2.1.symm;refine ⟨cell_later hb h1,?_,hl⟩;by_cases h0:(R.getD i []).length=0
 ·exact .inl h0
 ·rw [hl] at h2 h3 ⊢;refine .inr ⟨ao,cp,rfl,h2.below hb,h3,λp hp=>?_⟩;obtain ⟨k1,k2,k3⟩:=h2;rcases k3 with k3 | ⟨b',off',e,k4⟩
  ·omega
  ·rw [e] at hp;cases hp;have h9:=World.block_lt_of_cell? w _ (k4 0 (by omega));have h9:b'<w.heap.size:=h9;exact ⟨λhm=>by have:=hA _ hm;show False;simp only at this;omega,aE h9 hb.size⟩
theorem IsBC.reads {ao:Option Addr} {n c:Nat} {R:List (List UInt8)} (h:IsBC w ao n R) (hc:n<=c):ReadsL w ao c R :=
 ⟨by rw [h.len];exact hc,λj hj=>by
  rcases h.at_ with h0 | ⟨b,off,e,hat⟩
  ·rw [h.len] at hj;omega
  ·obtain ⟨a,m,k,h1,h2,_⟩:=hat j (by rw [<-h.len];exact hj);exact ⟨b,off,e,a,m,k,h1,h2⟩⟩
end
structure ChI (R:List (List UInt8)) (n j:Nat) (S:Mn):Prop where
 g:GRel (nk R) S (X.fY n j)
 b:BInv n (60*n+j*(10*n+60*n+60*n)) (1+j) S
set_option maxHeartbeats 4000000 in
theorem su (n:Int) (ao:Option Addr) (m cp:Nat) (R:List (List UInt8)) (keep:Int) (w:World) (h:IsBC w ao m R) (hle:m<=cp) (hkp:(Lit.int .i64 keep).wf=true) :
  Calls Tryz.prog 5 #[.int .i64 n,.slice ao m cp,.int .i64 keep] w λe w'=>e = .returned (.bool true)/\Below w.heap.size w w':=by
 obtain ⟨hkp1,hkp2⟩:=tH hkp;clear hkp;have HX:=ab h;have HLEN:=ab h.len;clear h;go_enter Tryz.func5,Tryz.ntmps5
 go_wp2_with fail
 refine nT.mono ?_;rintro e w1 ⟨rfl,hb1⟩;have HB1:=ab hb1;clear hb1;by_cases hn1:n<3
 ·go_wp2_with fail
  go_ret
  exact ⟨rfl,HB1.out⟩
 by_cases hn5:5<n
 ·go_wp2_with fail
  go_ret
  exact ⟨rfl,HB1.out⟩
 by_cases hm6:6<(m:Int)
 ·go_wp2_with fail
  go_ret
  exact ⟨rfl,HB1.out⟩
 obtain ⟨k,rfl⟩:∃k:Nat,n=(k:Int):=⟨n.toNat,by omega⟩
 have hk3:3<=k:=by omega
 have hk5:k<=5:=by omega
 have hm6':m<=6:=by omega
 go_wp2_with fail
 refine (nK (A:=[]) k (by omega) hk5 (λb hb=>by cases hb)).mono ?_;rintro e w3 ⟨g,A3,Z3,rfl,hs3,hm3⟩;have HL3:=ab (LgA.begun HB1.out hs3 hm3);have HC3:=ab (lU hs3 (fx k (by omega) hk5) 60 (by omega) (by omega) (AM hk3 hk5 (nk R) (pT R) (nh R)));clear hs3 hm3;have HI0:Hid (ChI R k 0 (Mn.calmC k cY 60 (Mn.begun k))/\(X.fY k 0).told 0=true):=ab (by
  obtain ⟨h1,h2⟩:=wY hk3 hk5 (nk R) (pT R) (nh R);have hb:=(fx k (by omega) hk5).calmC (ct:=cY) 60;exact ⟨⟨h1,by simpa using hb⟩,h2⟩)
 generalize Mn.calmC k cY 60 (Mn.begun k)=S00 at *;go_wp2_with fail
 refine HC3.out.mono ?_;rintro e w4 ⟨rfl,hp4⟩;obtain ⟨A4,Z4,hl4⟩:=HL3.out.gyp hp4;have HL4:=ab hl4;clear hp4 hl4 HC3 HL3;go_wp2_with fail
 go_loopw [9] (λi wr=>∃(j:Nat) (A Z:List Nat) (S:Mn),j<=m/\i = .int .i64 (j:Int)/\LgA w wr A Z g k S []/\ChI R k j S/\∀i,i<j->1<=(R.getD i []).length/\(R.getD i []).length<=300) (λi _=>m - (intOf i).toNat)
 case atStart=>exact ⟨0,A4,Z4,S00,aH _,rfl,HL4.out,HI0.out.1,λi hi=>by omega⟩
 case round =>
  obtain ⟨j,A,Z,S,hj,rfl,hls,hci,hval⟩:=hrel;rename World=>wr;have q6:IntKind.i64.wrap ((j:Int)+1)=(j:Int)+1:=IntWalk.i64_in _ (by omega);have HVAL:=ab hval;have HCI:=ab hci;have HLS:=ab hls;clear hval hci;by_cases hjm:j<m
  ·have hjm2:(j:Int)<(m:Int):=by omega
   obtain ⟨b,off,rfl,hat⟩:∃b off,ao=some ⟨b,off,none⟩/\∀i,i<m->∃a m c,w.cell? ⟨b,off+i,none⟩=some (.slice a m c)/\IsB w a m c (R.getD i [])/\m<=140737488351232/\m<=c:=by
    rcases HX.out.at_ with h0 | h0
    ·omega
    ·exact h0
   obtain ⟨ra,rq,rc,g1,g2,_,g3⟩:=hat j hjm;obtain ⟨k4,_,hrq⟩:=IsBC.z (A:=A) g1 g2 g3 hls.age hls.bel;have HIZ:Hid (∀A wx,(∀b∈A,w.heap.size<=b)->Below w.heap.size w wx->wx.cell? ⟨b,off+j,none⟩=some (.slice ra rq rc)/\ImmZ wx A (.slice ra rq rc) (R.getD j [])):=ab λA wx hA hb=>⟨(IsBC.z (A:=A) g1 g2 g3 hA hb).1,(IsBC.z (A:=A) g1 g2 g3 hA hb).2.1⟩
   have HRQ:=ab hrq;clear hat g1 g2 g3 hls hrq;by_cases hs1:(rq:Int)<1
   ·have HF:=ab HLS.out.bel;go_wp2_with fail
    go_ret
    exact ⟨rfl,HF.out⟩
   by_cases hs2:(300:Int)<(rq:Int)
   ·have HF:=ab HLS.out.bel;go_wp2_with fail
    go_ret
    exact ⟨rfl,HF.out⟩
   have hv1:1<=(R.getD j []).length/\(R.getD j []).length<=300:=by rw [<-HRQ.out];omega
   obtain ⟨k0,m0,S1,S2,S3,S4,S5,S6,hW,hg6,hb6⟩:=Dc g hk3 hk5 (nk R) (pT R) (nh R) keep hkp1 hkp2 (show j<6 by omega) HCI.out.g HCI.out.b (by
    have h1:j*(10*k+60*k+60*k)<=6*(10*k+60*k+60*k):=CZ _ (by omega);omega) (by omega)
   rw [uv hv1.1 hv1.2] at hW;have HW:=ab hW;have HNE:Hid (¬(m0:Int)=(k0:Int)):=ab (λe=>hW.ne (by omega));have hne:=HNE.out;have HC6:Hid (ChI R k (j+1) S6/\∀i,i<j+1->1<=(R.getD i []).length/\(R.getD i []).length<=300):=ab ⟨⟨hg6,by
    have e:60*k+j*(10*k+60*k+60*k)+10*k+60*k+60*k=60*k+(j+1)*(10*k+60*k+60*k):=by rw [Nat.add_mul j 1 (10*k+60*k+60*k),Nat.one_mul];omega
    have e2:1+j+1=1+(j+1):=by omega
    rw [e,e2] at hb6;exact hb6⟩,λi hi=>by
    by_cases e:i=j
    ·rw [e];exact hv1
    ·exact HVAL.out i (by omega)⟩
   have HLD:=ab (hW.ld wr A Z HLS.out.gy);clear hW hg6 hb6 hv1;generalize R.getD j []=rec at *;go_wp2_with fail
   refine HLD.out.mono ?_;rintro e w5 ⟨rfl,hp5⟩;obtain ⟨A5,Z5,hl5⟩:=HLS.out.gyp hp5;obtain ⟨k5,hz5⟩:=HIZ.out A5 w5 hl5.age hl5.bel;have HGV:=ab (HW.out.gv w5 A5 Z5 ra rc hl5.gy (by rw [<-HRQ.out];exact hz5));have HL5:=ab hl5;clear hp5 hl5 hz5 HLD k4;rw [<-HRQ.out] at HGV;go_wp2_with fail
   refine HGV.out.mono ?_;rintro e w6 ⟨rfl,hp6⟩;obtain ⟨A6,Z6,hl6⟩:=HL5.out.gyp hp6;have HL6:=ab hl6;have HC1:=ab (HW.out.c1 w6 A6 Z6 hl6.gy);clear hp6 hl6 HGV k5;go_wp2_with fail
   refine HC1.out.mono ?_;rintro e w7 ⟨rfl,hp7⟩;obtain ⟨A7,Z7,hl7⟩:=HL6.out.gyp hp7;have HL7:=ab hl7;have HCR:=ab (HW.out.cr w7 A7 Z7 hl7.gy);clear hp7 hl7 HC1;go_wp2_with fail
   refine HCR.out.mono ?_;rintro e w8 ⟨rfl,hp8⟩;obtain ⟨A8,Z8,hl8⟩:=HL7.out.gyp hp8;have HL8:=ab hl8;have HC8:=ab (HW.out.c3 w8 A8 Z8 hl8.gy);clear hp8 hl8 HCR;go_wp2_with fail
   refine HC8.out.mono ?_;rintro e w9 ⟨rfl,hp9⟩;obtain ⟨A9,Z9,hl9⟩:=HL8.out.gyp hp9;have HL9:=ab hl9;have HLD2:=ab (HW.out.ld2 w9 A9 Z9 hl9.gy);clear hp9 hl9 HC8;go_wp2_with fail
   refine HLD2.out.mono ?_;rintro e w10 ⟨rfl,hp10⟩;obtain ⟨A10,Z10,hl10⟩:=HL9.out.gyp hp10;have HL10:=ab hl10;have HBK:=ab (HW.out.bk w10 A10 Z10 hl10.gy);clear hp10 hl10 HLD2;go_wp2_with fail
   refine HBK.out.mono ?_;rintro e w11 ⟨rfl,hp11⟩;obtain ⟨A11,Z11,hl11⟩:=HL10.out.gyp hp11;have HL11:=ab hl11;have HC11:=ab (HW.out.c5 w11 A11 Z11 hl11.gy);clear hp11 hl11 HBK;go_wp2_with fail
   refine HC11.out.mono ?_;rintro e w12 ⟨rfl,hp12⟩;obtain ⟨A12,Z12,hl12⟩:=HL11.out.gyp hp12;have HL12:=ab hl12;clear hp12 hl12 HC11;go_wp2_with fail
   go_roundw
   case rel=>exact ⟨j+1,A12,Z12,S6,by omega,by simp,HL12.out,HC6.out.1,HC6.out.2⟩
   case measure=>simp [intOf];omega
  ·obtain rfl:j=m:=by omega
   have HTOLD:Hid ((X.fY k j).told j=true):=ab (by
    cases j with
    | zero=>exact HI0.out.2
    | succ j =>
     obtain ⟨_,_,hall⟩:=X.lk k 6 (X.sr k hk3 hk5);obtain ⟨_,_,o⟩:=hall j (by omega);exact o.told)
   have HALL:Hid (∀i,i<k->(S.at i).up=true/\S.toldG i=R):=ab λi hi=>by
    obtain ⟨h1,h2⟩:=sq (pT R) HCI.out.g HCI.out.b.sv.nl HTOLD.out hi;refine ⟨h1,?_⟩;unfold Mn.toldG;rw [h1,aA rfl,h2];have:=yy (R:=R) (λi hi=>HVAL.out i (by rw [<-HLEN.out];exact hi));rw [HLEN.out] at this;exact this
   have HU:=ab (HCI.out.b.upok (HCI.out.g.nodone HCI.out.b.sv.nl));clear hls;go_wp2_with fail
   go_loopw [14] (λi w8=>∃(q:Nat),q<=k/\i = .int .i64 (q:Int)/\LgA w w8 A Z g k S []) (λi _=>k - (intOf i).toNat)
   case atStart=>exact ⟨0,aH _,rfl,HLS.out⟩
   case round =>
    obtain ⟨q,hq,rfl,hl8⟩:=hrel;rename World=>w8;have q9:IntKind.i64.wrap ((q:Int)+1)=(q:Int)+1:=IntWalk.i64_in _ (by omega);have HL8:=ab hl8;by_cases hqk:q<k
    ·have hqk2:(q:Int)<(k:Int):=by omega
     have HAG:=ab (lf hl8.gy HU.out q hqk);rw [(HALL.out q hqk).2,HLEN.out] at HAG;clear hl8;go_wp2_with fail
     refine HAG.out.mono ?_;rintro e w9 ⟨ao9,c9,rfl,hr9,hg9,hm9⟩;have HL9:=ab (HL8.out.mv hg9 hm9);have HBG:=ab (kE ((HX.out.reads hle).below HL9.out.bel) hr9 HLEN.out HLEN.out (dZ R) (by omega));clear hr9 hg9 hm9 HAG HL8;go_wp2_with fail
     refine HBG.out.mono ?_;rintro e w10 ⟨rfl,hb10⟩;have HL10:=ab (HL9.out.below hb10);have HAG2:=ab (lf HL10.out.gy HU.out q hqk);rw [(HALL.out q hqk).2,HLEN.out] at HAG2;clear hb10 HBG HL9;go_wp2_with fail
     refine HAG2.out.mono ?_;rintro e w11 ⟨ao11,c11,rfl,hr11,hg11,hm11⟩;have HL11:=ab (HL10.out.mv hg11 hm11);clear hr11 hg11 hm11 HAG2 HL10;go_wp2_with fail
     go_roundw
     case rel=>exact ⟨q+1,by omega,by simp,HL11.out⟩
     case measure=>simp [intOf];omega
    ·obtain rfl:q=k:=by omega
     have HF:=ab hl8.bel;clear hl8;go_wp2_with fail
     go_ret
     exact ⟨rfl,HF.out⟩
end Go.Proofs.YtnhefallmioefaaGreat
