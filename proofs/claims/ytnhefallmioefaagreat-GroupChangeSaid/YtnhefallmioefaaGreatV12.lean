/-
  What the proof of the law leans on: contracts of the program's functions, one behind another. No condition.
-/
import Derived.Test.YtnhefallmioefaaGreatV0
import Derived.Test.YtnhefallmioefaaGreatV11
import Derived.Test.YtnhefallmioefaaGreatV3
set_option linter.unusedVariables false
set_option linter.unusedSimpArgs false
namespace Go.Proofs.YtnhefallmioefaaGreat
open Go.RowKit Go.ChangeMaps Go.WideMaps Go.Maps
set_option maxRecDepth 20000
theorem xQ {p:Prop} (h:p:=by
 refine cC 14 λK hK=>?_;go_simp
 have hb2:=HB1.out.alloc HB1.out.size (.cells #[.int .i64 st,.int .i64 (f:Int),.int .i64 lt,.int .i64 ag] 2);refine hK.out _ _ (HVV.out _ hb2) (λam=>?_);clear hK K;refine bH ?_;have HB2:=ab hb2;have HO2:Hid (OwnI (W1.alloc (.cells #[.int .i64 st,.int .i64 (f:Int),.int .i64 lt,.int .i64 ag] 2)) V.heap.size 2 (.slice (some ⟨W1.heap.size,0,none⟩) 4 4) [st,(f:Int),lt,ag]):=ab (OwnI.new W1 V.heap.size 2 _ _ rfl _ rfl HB1.out.size 4 rfl (by omega));have HM2:=ab (bb HM1.out (.cells #[.int .i64 st,.int .i64 (f:Int),.int .i64 lt,.int .i64 ag] 2));generalize W1.alloc (.cells #[.int .i64 st,.int .i64 (f:Int),.int .i64 lt,.int .i64 ag] 2)=W2 at *;clear hb2;refine cC 15 λK hK=>?_;go_simp
 refine (HSAY.out _ HB2.out _ _ [st,(f:Int),lt,ag] _ _ _).mono ?_;rintro e W3 ⟨rfl,hb⟩;have HB3:=ab (HB2.out.trans (hb.mono HB2.out.size));have HO3:=ab (HO2.out.below hb);have HM3:=ab (bd hb (aQ HM2.out) HM2.out);clear hb;go_wp2_with fail
 refine hK.out _ _ (HVV.out _ HB3.out) (λam=>?_);clear hK K;refine bH ?_;refine cC 17 λK hK=>?_;refine dm rfl λQ' hQ=>?_;refine wpList_store_row rfl 83 (.tmp 7) (.tmp 46) rfl W0.heap.size #[.int .i64 (s.own:Int),.int .i64 (q:Int),.int .i64 3,.slice (some ⟨W1.heap.size,0,none⟩) 4 4,.slice none 0 0] rfl rfl 83 _ HM3.out fS rfl (fH _ _ _ _ _ _ _ _ _) ?_;refine hQ _ _ ?_;clear hQ Q';have hon:=dv W3 W0.heap.size #[.int .i64 (s.own:Int),.int .i64 (q:Int),.int .i64 3,.slice (some ⟨W1.heap.size,0,none⟩) 4 4,.slice none 0 0];have hbf:=HB3.out.trans (hon.below HB3.out.size (by simpa using HG.out));have hmf:=setRow_heap W3 W0.heap.size _ #[.int .i64 (s.own:Int),.int .i64 (q:Int),.int .i64 3,.slice (some ⟨W1.heap.size,0,none⟩) 4 4,.slice none 0 0] 83 (0,0) HM3.out;have hof:OwnI _ V.heap.size 2 _ [st,(f:Int),lt,ag]:=ej HO3.out hon (λj hj cur=>by rw [aj.1 hj,HM3.out];simp);refine hK.out _ _ (HVV.out _ hbf) (λam=>?_);clear hK K;refine bH ?_;refine fI ?_;go_wp2_with fail
 go_meet
 exact ⟨_,_,rfl,hmf,HG.out,hof,hbf⟩):p:=h
theorem xP {p:Prop} (h:p:=by
 have hof:OwnI _ V.heap.size 2 _ [st,(f:Int),lt,ag]:=ej HO3.out hon (λj hj cur=>by rw [aj.1 hj,HM3.out];simp);refine hK.out _ _ (HVV.out _ hbf) (λam=>?_);clear hK K;refine bH ?_;refine fI ?_;go_wp2_with fail
 go_meet
 exact ⟨_,_,rfl,hmf,HG.out,hof,hbf⟩):p:=h
theorem xO {p:Prop} (h:p:=by
 refine cC 6 λK hK=>?_;refine dm rfl λQ' hQ=>?_;refine dc rfl (.tmp 61) (.tmp 65) rfl V.heap.size (.slice al j cl) bj (by rfl) HOL2.out W1.heap.size (.slice a5 bl c5) bs (by rfl) ((af HC6.out 0).trans rfl) HV6.out HBJ.out HB2.out.size ?_;intro a7 c7 W3 ho7 hb7 hg7;have hon7:=je hg7;have hM7:=hon7.keeps HM2.out (λhm=>by have h9:=HOL2.out;obtain ⟨vs,_,hr,_⟩:=h9;have h8:=cV (dP hr (aH _)) (by simpa using hm);rw [HM2.out] at h8;simp at h8);have hN7:OwnI W3 V.heap.size 2 _ _:=ej HON2.out hon7 (λj hj cur hh=>by obtain ⟨vs,_,hr,_⟩:=HOL2.out;have h8:=cV (dP hr (aH _)) (by simpa using hj);rw [hh] at h8;simp at h8);have hE7:=hon7.keeps HE2.out (λhm=>by have h9:=HOL2.out;obtain ⟨vs,_,hr,_⟩:=h9;have h8:=cV (dP hr (aH _)) (by simpa using hm);rw [HE2.out] at h8;simp at h8);have hK7:W3.cell? ⟨E,1,none⟩=some (.slice au bl cu):=(af hE7 1).trans rfl;have hB7:=HB2.out.trans hb7;rw [HBJL.out] at ho7 ⊢;refine hQ _ _ ?_;clear hQ Q';refine hK.out _ _ hK7 (λam=>?_);clear hK K;refine bH ?_;have HM3:=ab hM7;have HON3:=ab hN7;have HO7:=ab ho7;have HB3:=ab hB7;have HE3:=ab hE7;clear hM7 hN7 hK7 hE7 hB7 ho7 hb7 hg7 hon7;refine aB 7 ?_;refine cC 8 λK hK=>?_;have hy4:W3.cell? ⟨M,4,none⟩=some (.slice al j cl):=(af HM3.out 4).trans rfl;have hz4:=aM HM3.out 4;go_simp
 clear hy4 hz4;have honf:Only [M] W3 (W3.setCell ⟨M,4,none⟩ (.slice a7 (j+1) c7)):=(Only.refl _ _).setCell (by simp) _;have hkf:=honf.cell ((af HE3.out 1).trans rfl) (by simpa using HEM.out);refine hK.out _ _ hkf (λam=>?_);clear hK K;refine bH ?_;refine fI ?_;go_wp2_with fail
 go_roundw
 case rel =>
  refine ⟨j+1,_,_,by omega,by go_num,aR HM3.out 4 (.slice a7 (j+1) c7),?_,?_,HB3.out.trans (honf.below HB3.out.size (by simpa using HGM.out))⟩
  ·rw [HTJ.out,<-bD,hnj];exact ej HON3.out honf (λi hi cur=>by rw [aj.1 hi,HM3.out];simp)
  ·rw [HBJ2.out];exact HO7.out.only honf (λi hi cur=>by rw [aj.1 hi,HM3.out];simp)
 case measure=>simp [intOf];omega):p:=h
theorem xN {p:Prop} (h:p:=by
 refine cC 5 λK hK=>?_;go_simp
 have hk:(W1.alloc (.cells #[.slice a5 bl c5] 31)).cell? ⟨E,1,none⟩=some (.slice au bl cu):=(af (bb HE1.out _) 1).trans rfl;refine hK.out _ _ hk (λam=>?_);clear hK K;refine bH ?_;have HE2:=ab (bb HE1.out (.cells #[.slice a5 bl c5] 31));have HB2:=ab (HB1.out.alloc HB1.out.size (.cells #[.slice a5 bl c5] 31));have HM2:=ab (bb HM1.out (.cells #[.slice a5 bl c5] 31));have HON2:Hid (OwnI (W1.alloc (.cells #[.slice a5 bl c5] 31)) V.heap.size 2 _ _):=ab (HON1.out.alloc _);have HOL2:=ab (HOL1.out.below ((az _ _).alloc (ah _) (.cells #[.slice a5 bl c5] 31)));have HV6:Hid (OwnB (W1.alloc (.cells #[.slice a5 bl c5] 31)) V.heap.size 5 _ _):=ab (HV5.out.alloc _);have HC6:=ab (aK W1 (.cells #[.slice a5 bl c5] 31));have HH:=ab (show V.heap.size<=W1.heap.size from HB1.out.size);generalize hw2:W1.alloc (.cells #[.slice a5 bl c5] 31)=W2 at *;have HEH:Hid (∃z,z=W1.heap.size):=ab ⟨_,rfl⟩;clear hk hw2;exact xO):p:=h
theorem Da:(Tryz.prog.info? 2).map (λi=>(i.zero,i.size,i.bytes))=some (some (.int .i64 0),1,8):=by kernel_rfl
section
variable {w w':World} {A A' X X':List Nat} {r d l:Nat} {s s':Rp} {k k':Dk}
def kF (s:Rp) (q:Nat):Nat:=min 20 (s.log.length - s.next.getD q 0)
theorem wC (s:Rp) (q:Nat):bQ s q=⟨(s.own:Int),(q:Int),3,[s.term,(s.next.getD q 0:Int),bJ s.log (s.next.getD q 0),(s.agreed:Int)]++((s.log.map Ent.term).drop (s.next.getD q 0)).take (kF s q),((s.log.map Ent.bs).drop (s.next.getD q 0)).take (kF s q)⟩:=by
 have e:∀{β:Type} (g:Ent->β),((s.log.map g).drop (s.next.getD q 0)).take (kF s q)=((s.log.drop (s.next.getD q 0)).take 20).map g:=λg=>by
  rw [<-Dy,gW];unfold kF;rcases Nat.le_total 20 (s.log.length - s.next.getD q 0) with h | h
  ·rw [bi h]
  ·rw [Nat.min_eq_right h,aZ (by rw [aP,bz];exact ah _),aZ (by rw [aP,bz];exact h)]
 rw [e,e];rfl
set_option maxHeartbeats 4000000 in
theorem kz (h:Nd w A X r d l s k) (hw:Wf s k) (q:Nat) (hq:q<s.n) (hnx:s.next.getD q 0<=s.log.length):Calls Tryz.prog 63 #[.pointer (some ⟨r,0,none⟩),.int .i64 (q:Int)] w λe w'=>∃v u,e = .returned (df (bQ s q) v u)/\IsMsg w' A (bQ s q) v u/\Below w.heap.size w w':=by
 have HWA:=ab h.alt;have hlogb:=hw.logb;have HRL:=ab hw.recl;obtain ⟨ao,c,hlr⟩:=h.logR;have hc8:=hlr.c8;have hle:=hlr.le;have hcm:=hlr.cm;have HN:=ab h;have HEQ:=ab (wC s q);have HLTM:=ab (λW (hb:Below w.heap.size w W)=>eY (h.below hb) (s.next.getD q 0) hnx (by omega));obtain ⟨D,L,R,vl,gv,gn,gm,gh,h,hX⟩:=h;have hc6:w.cell? ⟨r,6,none⟩=some (.int .i64 s.term):=by rw [af h.cell];rfl
 have hc9:w.cell? ⟨r,9,none⟩=some (.int .i64 (s.agreed:Int)):=by rw [af h.cell];rfl
 have hc13:w.cell? ⟨r,13,none⟩=some (.slice (some ⟨gn,0,none⟩) s.n s.n):=by rw [af h.cell];rfl
 have hcn:w.cell? ⟨gn,q,none⟩=some (.int .i64 (s.next.getD q 0:Int)):=by rw [af h.next];exact gA _ _ (by rw [hw.nl];exact hq)
 have hV:=(az w.heap.size w).alloc (ah _) (.cells #[.int .i64 0,.int .i64 0,.int .i64 0,.slice none 0 0,.slice none 0 0] 83);have hk6:=cell_later hV hc6;have hk8:=cell_later hV hc8;have hk9:=cell_later hV hc9;have hk13:=cell_later hV hc13;have hkn:=cell_later hV hcn;have hq2:(q:Int)<(s.n:Int):=by omega
 have hbn:kF s q=min 20 (s.log.length - s.next.getD q 0):=rfl;generalize s.next.getD q 0=f at *;have q1:IntKind.i64.wrap ((f:Int)+20)=(f:Int)+20:=IntWalk.i64_in _ (by omega);have hm1:(min ((f:Int)+20) (s.log.length:Int)).toNat - f=kF s q:=by omega
 have HM1:=ab hm1;have HBN:=ab hbn;clear hm1 hbn;generalize kF s q=m at *;generalize hTT:s.log.map Ent.term=T at *;generalize hBB:s.log.map Ent.bs=Bs at *;have hTl:T.length=s.log.length:=by rw [<-hTT];simp
 have hBl:Bs.length=s.log.length:=by rw [<-hBB];simp
 clear h hX hc13 hcn;go_enter Tryz.func63,Tryz.ntmps63
 go_upto_region 1 with (fail)
 have hbx:=ab (aK w (.cells #[.int .i64 0,.int .i64 0,.int .i64 0,.slice none 0 0,.slice none 0 0] 83));have hVs:w.heap.size<(w.alloc (.cells #[.int .i64 0,.int .i64 0,.int .i64 0,.slice none 0 0,.slice none 0 0] 83)).heap.size:=by simp
 generalize w.alloc (.cells #[.int .i64 0,.int .i64 0,.int .i64 0,.slice none 0 0,.slice none 0 0] 83)=V at *;have q2:(f:Int)<=(s.log.length:Int):=by omega
 have HL:=ab hlr;clear hlr;generalize hsl:s.log.length=sl at *;go_upto_region 2 with (fail)
 go_cut [6] (λv wx=>∃(ga:Option Addr) (cc:Nat),v = .slice ga m cc/\(0<m->∃g,ao=some ⟨g,0,none⟩/\ga=some ⟨g,f*2,none⟩)/\∃nq,wx=V.drewN nq)
 case first =>
  by_cases hfc:c=f
  · have hm0:m=0:=by have:=HBN.out;omega
    have hsf:sl=f:=by omega
    subst hfc;subst hsf;have HM0:=ab hm0;clear hm0;go_quiet (fail)
    go_wp2_with fail
    go_meet
    exact ⟨_,_,by rw [HM1.out],(λh=>by have:=HM0.out;omega),nq,rfl⟩
  · obtain ⟨g,rfl⟩:∃g,ao=some ⟨g,0,none⟩:=by
      cases ao with
      | none=>have:=HL.out.nil rfl;omega
      | some p=>obtain ⟨g,rfl⟩:=HL.out.form p rfl;exact ⟨g,rfl⟩
    go_quiet (fail)
    go_wp2_with fail
    go_meet
    exact ⟨_,_,by rw [HM1.out],(λh=>⟨g,rfl,rfl⟩),nq,rfl⟩
 case rest =>
 obtain ⟨ga,cc,rfl,hga,nq,rfl⟩:=hcut;have c6:∀w',Below w.heap.size w w'->w'.cell? ⟨r,6,none⟩=some (.int .i64 s.term):=λw' hb=>cell_later hb hc6;have c9:∀w',Below w.heap.size w w'->w'.cell? ⟨r,9,none⟩=some (.int .i64 (s.agreed:Int)):=λw' hb=>cell_later hb hc9;have HLT:Hid (∀w',Below V.heap.size V w'->Calls Tryz.prog 68 #[.pointer (some ⟨r,0,none⟩),.int .i64 (f:Int)] w' λe w2=>e = .returned (.int .i64 (bJ s.log f))/\w'=w2):=ab (λw' hb2=>HLTM.out w' (hV.trans (hb2.mono hV.size)));have HSAY:Hid (∀w',Below V.heap.size V w'->∀dst kind N ao n c,Calls Tryz.prog 67 #[.pointer (some ⟨r,0,none⟩),.int .i64 dst,.int .i64 kind,.slice ao n c] w' λe w2=>e = .returned (df (da s dst kind N) (.slice ao n c) (.slice none 0 0))/\Below w'.heap.size w' w2):=ab (λw' hb2 dst kind N ao n c=>jP (HN.out.below (hV.trans (hb2.mono hV.size))) dst kind N ao n c);have HVV:Hid (∀w',Below V.heap.size V w'->Below w.heap.size w w'):=ab (λw' hb=>hV.trans (hb.mono hV.size));have HBQ:Hid (Below V.heap.size V (V.drewN nq).drew):=ab ((ak V nq).trans (show Below V.heap.size (V.drewN nq) (V.drewN nq).drew from ak (V.drewN nq) 1));generalize hlt:bJ s.log f=lt at *;generalize hag:(s.agreed:Int)=ag at *;generalize s.term=st at *;clear hc6 hc8 hc9 hk6 hk8 hk9 hk13 hkn hq2;go_upto_region 3 with (fail)
 go_cut [7] (λp wx=>∃M vN,p = .pointer (some ⟨M,0,none⟩)/\wx.heap[M]? = some (.cells #[.int .i64 (s.own:Int),.int .i64 (q:Int),.int .i64 3,vN,.slice none 0 0] 83 (0,0))/\V.heap.size<=M/\OwnI wx V.heap.size 2 vN [st,(f:Int),lt,ag]/\Below V.heap.size V wx)
 case first =>
  refine wp_region_held_drew (S:=λw'=>Below w.heap.size w w') (by kernel_rfl) (HVV.out _ HBQ.out) (λam=>?_);refine aB 0 ?_;refine aB 1 ?_;refine aB 2 ?_;refine aB 3 ?_;refine aB 4 ?_;refine aB 5 ?_;refine aB 6 ?_;refine aB 7 ?_;refine aB 8 ?_;refine aB 10 ?_;refine aB 11 ?_;refine aB 12 ?_;refine aB 13 ?_;have HB0:=HBQ;generalize (V.drewN nq).drew=W0 at *;refine j5 9 16 (λK hK=>?_) λK hK=>?_
  ·go_simp
   refine (HLT.out _ HB0.out).mono ?_;rintro e wa ⟨rfl,rfl⟩;go_wp2_with fail
   refine hK.out _ _ am (λam=>?_);clear hK K;refine bH ?_;refine j5 14 16 (λK hK=>?_) λK hK=>?_
   ·go_simp
    have hb1:=HB0.out.alloc HB0.out.size (.cells #[.int .i64 st,.int .i64 (f:Int),.int .i64 lt,.int .i64 ag] 2);refine hK.out _ _ (HVV.out _ hb1) (λam=>?_);clear hK K;refine bH ?_;have HB1:=ab hb1;have HO1:Hid (OwnI (W0.alloc (.cells #[.int .i64 st,.int .i64 (f:Int),.int .i64 lt,.int .i64 ag] 2)) V.heap.size 2 (.slice (some ⟨W0.heap.size,0,none⟩) 4 4) [st,(f:Int),lt,ag]):=ab (OwnI.new W0 V.heap.size 2 _ _ rfl _ rfl HB0.out.size 4 rfl (by omega));generalize W0.alloc (.cells #[.int .i64 st,.int .i64 (f:Int),.int .i64 lt,.int .i64 ag] 2)=W1 at *;clear hb1;refine j5 15 16 (λK hK=>?_) λK hK=>?_
    ·go_simp
     refine (HSAY.out _ HB1.out _ _ [st,(f:Int),lt,ag] _ _ _).mono ?_;rintro e W2 ⟨rfl,hb⟩;have HB2:=ab (HB1.out.trans (hb.mono HB1.out.size));have HO2:=ab (HO1.out.below hb);clear hb;go_wp2_with fail
     refine hK.out _ _ (HVV.out _ HB2.out) (λam=>?_);clear hK K;refine bH ?_;refine cC 16 λK hK=>?_;go_simp
     have hb3:=HB2.out.alloc HB2.out.size (.cells #[.int .i64 0,.int .i64 0,.int .i64 0,.slice none 0 0,.slice none 0 0] 83);refine hK.out _ _ (HVV.out _ hb3) (λam=>?_);clear hK K;refine bH ?_;have HB3:=ab hb3;have HM3:=ab (aK W2 (.cells #[.int .i64 0,.int .i64 0,.int .i64 0,.slice none 0 0,.slice none 0 0] 83));have HG:Hid (V.heap.size<=W2.heap.size):=ab HB2.out.size;have HO3:Hid (OwnI (W2.alloc (.cells #[.int .i64 0,.int .i64 0,.int .i64 0,.slice none 0 0,.slice none 0 0] 83)) V.heap.size 2 _ [st,(f:Int),lt,ag]):=ab (HO2.out.alloc _);generalize hw3:W2.alloc (.cells #[.int .i64 0,.int .i64 0,.int .i64 0,.slice none 0 0,.slice none 0 0] 83)=W3 at *;clear hb3 hw3;refine cC 17 λK hK=>?_;refine dm rfl λQ' hQ=>?_;refine wpList_store_row rfl 83 (.tmp 7) (.tmp 46) rfl W2.heap.size #[.int .i64 (s.own:Int),.int .i64 (q:Int),.int .i64 3,.slice (some ⟨W0.heap.size,0,none⟩) 4 4,.slice none 0 0] rfl rfl 83 _ HM3.out fS rfl (fH _ _ _ _ _ _ _ _ _) ?_;refine hQ _ _ ?_;clear hQ Q';have hon:=dv W3 W2.heap.size #[.int .i64 (s.own:Int),.int .i64 (q:Int),.int .i64 3,.slice (some ⟨W0.heap.size,0,none⟩) 4 4,.slice none 0 0];have hbf:=HB3.out.trans (hon.below HB3.out.size (by simpa using HG.out));have hmf:=setRow_heap W3 W2.heap.size _ #[.int .i64 (s.own:Int),.int .i64 (q:Int),.int .i64 3,.slice (some ⟨W0.heap.size,0,none⟩) 4 4,.slice none 0 0] 83 (0,0) HM3.out;exact xP
    ·go_simp
     have hb2:=HB1.out.alloc HB1.out.size (.cells #[.int .i64 0,.int .i64 0,.int .i64 0,.slice none 0 0,.slice none 0 0] 83);refine hK.out _ _ (HVV.out _ hb2) (λam=>?_);clear hK K;refine bH ?_;have HB2:=ab hb2;have HM2:=ab (aK W1 (.cells #[.int .i64 0,.int .i64 0,.int .i64 0,.slice none 0 0,.slice none 0 0] 83));have HG:Hid (V.heap.size<=W1.heap.size):=ab HB1.out.size;have HO2:Hid (OwnI (W1.alloc (.cells #[.int .i64 0,.int .i64 0,.int .i64 0,.slice none 0 0,.slice none 0 0] 83)) V.heap.size 2 _ [st,(f:Int),lt,ag]):=ab (HO1.out.alloc _);generalize hw2:W1.alloc (.cells #[.int .i64 0,.int .i64 0,.int .i64 0,.slice none 0 0,.slice none 0 0] 83)=W2 at *;clear hb2 hw2;refine cC 15 λK hK=>?_;go_simp
     refine (HSAY.out _ HB2.out _ _ [st,(f:Int),lt,ag] _ _ _).mono ?_;rintro e W3 ⟨rfl,hb⟩;have HB3:=ab (HB2.out.trans (hb.mono HB2.out.size));have HO3:=ab (HO2.out.below hb);have HM3:=ab (bd hb (aQ HM2.out) HM2.out);clear hb;go_wp2_with fail
     refine hK.out _ _ (HVV.out _ HB3.out) (λam=>?_);clear hK K;refine bH ?_;refine cC 17 λK hK=>?_;refine dm rfl λQ' hQ=>?_;refine wpList_store_row rfl 83 (.tmp 7) (.tmp 46) rfl W1.heap.size #[.int .i64 (s.own:Int),.int .i64 (q:Int),.int .i64 3,.slice (some ⟨W0.heap.size,0,none⟩) 4 4,.slice none 0 0] rfl rfl 83 _ HM3.out fS rfl (fH _ _ _ _ _ _ _ _ _) ?_;refine hQ _ _ ?_;clear hQ Q';have hon:=dv W3 W1.heap.size #[.int .i64 (s.own:Int),.int .i64 (q:Int),.int .i64 3,.slice (some ⟨W0.heap.size,0,none⟩) 4 4,.slice none 0 0];have hbf:=HB3.out.trans (hon.below HB3.out.size (by simpa using HG.out));have hmf:=setRow_heap W3 W1.heap.size _ #[.int .i64 (s.own:Int),.int .i64 (q:Int),.int .i64 3,.slice (some ⟨W0.heap.size,0,none⟩) 4 4,.slice none 0 0] 83 (0,0) HM3.out;exact xP
   ·go_simp
    have hb1:=HB0.out.alloc HB0.out.size (.cells #[.int .i64 0,.int .i64 0,.int .i64 0,.slice none 0 0,.slice none 0 0] 83);refine hK.out _ _ (HVV.out _ hb1) (λam=>?_);clear hK K;refine bH ?_;have HB1:=ab hb1;have HM1:=ab (aK W0 (.cells #[.int .i64 0,.int .i64 0,.int .i64 0,.slice none 0 0,.slice none 0 0] 83));have HG:Hid (V.heap.size<=W0.heap.size):=ab HB0.out.size;generalize hw1:W0.alloc (.cells #[.int .i64 0,.int .i64 0,.int .i64 0,.slice none 0 0,.slice none 0 0] 83)=W1 at *;clear hb1 hw1;exact xQ
  ·go_simp
   have hb1:=HB0.out.alloc HB0.out.size (.cells #[.int .i64 0,.int .i64 0,.int .i64 0,.slice none 0 0,.slice none 0 0] 83);refine hK.out _ _ (HVV.out _ hb1) (λam=>?_);clear hK K;refine bH ?_;have HB1:=ab hb1;have HM1:=ab (aK W0 (.cells #[.int .i64 0,.int .i64 0,.int .i64 0,.slice none 0 0,.slice none 0 0] 83));have HG:Hid (V.heap.size<=W0.heap.size):=ab HB0.out.size;generalize hw1:W0.alloc (.cells #[.int .i64 0,.int .i64 0,.int .i64 0,.slice none 0 0,.slice none 0 0] 83)=W1 at *;clear hb1 hw1;refine cC 9 λK hK=>?_;go_simp
   refine (HLT.out _ HB1.out).mono ?_;rintro e wa ⟨rfl,rfl⟩;go_wp2_with fail
   refine hK.out _ _ am (λam=>?_);clear hK K;refine bH ?_;exact xQ
 case rest =>
 obtain ⟨M,vN0,rfl,hM0,hgM,hN0,hB0⟩:=hcut;rename World=>wx;have HGM:=ab hgM;go_wp2_with fail
 go_loopw [49] (λi wr=>∃(j:Nat) (vN vB:Value),j<=m/\i = .int .i64 (j:Int)/\wr.heap[M]? = some (.cells #[.int .i64 (s.own:Int),.int .i64 (q:Int),.int .i64 3,vN,vB] 83 (0,0))/\OwnI wr V.heap.size 2 vN ([st,(f:Int),lt,ag]++(T.drop f).take j)/\OwnL wr V.heap.size vB ((Bs.drop f).take j)/\Below V.heap.size V wr) (λi _=>m - (intOf i).toNat)
 case atStart=>exact ⟨0,_,_,aH _,rfl,hM0,by simpa using hN0,by simpa using OwnL.nil _ _,hB0⟩
 case round =>
  clear hM0 hN0 hB0 hgM;obtain ⟨j,vN,vB,hj,rfl,hM,hN,hB,hBV⟩:=hrel;have HM:=ab hM;have HNN:=ab hN;have HBB:=ab hB;have HBV:=ab hBV;clear hM hN hB hBV;by_cases hlt2:j<m
  · obtain ⟨g,rfl,rfl⟩:=hga (by omega);have hfj:f+j<sl:=by have:=HBN.out;omega
    obtain ⟨u,hu1,hu2,him⟩:=HL.out.at_ (f+j) (by rw [hsl];exact hfj) g rfl;rw [hTT] at hu1;rw [hBB] at him;have hblen:(Bs.getD (f+j) []).length<=8000:=by
      rw [<-hBB];have hlt3:f+j<s.log.length:=by rw [hsl];exact hfj
      have e:(s.log.map Ent.bs).getD (f+j) []=s.log[f+j].bs:=by simp [List.getD,hlt3]
      rw [e];exact HRL.out _ (bO _)
    have HTJ:Hid ((T.drop f).take (j+1)=(T.drop f).take j++[T.getD (f+j) 0]):=ab (by
      have hl3:j<(T.drop f).length:=by rw [bz];omega
      rw [<-bf hl3];simp [List.getD,show f+j<T.length by omega])
    have HBJ2:Hid ((Bs.drop f).take (j+1)=(Bs.drop f).take j++[Bs.getD (f+j) []]):=ab (by
      have hl3:j<(Bs.drop f).length:=by rw [bz];omega
      rw [<-bf hl3];simp [List.getD,show f+j<Bs.length by omega])
    have HBJL:Hid (((Bs.drop f).take j).length=j):=ab (by rw [aI,bz];omega);have HTJL:Hid (([st,(f:Int),lt,ag]++(T.drop f).take j).length=4+j):=ab (by rw [ay,aI,bz];simp;omega);have HBJ:Hid (((Bs.drop f).take j).length+1<=1000000):=ab (by rw [HBJL.out];omega);obtain ⟨au,cu,e,_⟩:=id him;subst e;generalize hbs:Bs.getD (f+j) []=bs at *;generalize hbl:bs.length=bl at *;have HBL:Hid (bs.length=bl):=ab hbl;have HIB:Hid (∀W',Below V.heap.size V W'->IsB W' au bl cu bs):=ab (λW' hb=>by
      obtain ⟨ao',c',e,h1,_⟩:=him.below (HVV.out _ hb);cases e;rw [hbl] at h1;exact h1)
    generalize T.getD (f+j) 0=t at *;have hu1:=cell_later (HVV.out _ HBV.out) hu1;have hu2:=cell_later (HVV.out _ HBV.out) hu2;have q9:(f+j)*2=f*2+j*2:=by omega
    rw [q9] at hu1 hu2;have q5:(j:Int)<(m:Int):=by omega
    have q6:IntKind.i64.wrap ((j:Int)+1)=(j:Int)+1:=IntWalk.i64_in _ (by omega);obtain ⟨an,cn,evn,_⟩:=HNN.out.isI;rw [HTJL.out] at evn;subst evn;obtain ⟨al,cl,evb,_⟩:=HBB.out.shape;rw [HBJL.out] at evb;subst evb;have HLEN:Hid (([st,(f:Int),lt,ag]++(T.drop f).take j).length+1<=17592186044416):=ab (by rw [HTJL.out];omega);generalize hbj:(Bs.drop f).take j=bj at *;generalize hnj:[st,(f:Int),lt,ag]++(T.drop f).take j=nj at *;have HE5:=ab (aK wr (.cells #[.int .i64 t,.slice au bl cu] 94));have HM5:=ab (bb HM.out (.cells #[.int .i64 t,.slice au bl cu] 94));have HN5:Hid (OwnI (wr.alloc (.cells #[.int .i64 t,.slice au bl cu] 94)) V.heap.size 2 _ _):=ab (HNN.out.alloc _);have HB5:=ab (HBB.out.below ((az _ _).alloc (ah _) (.cells #[.int .i64 t,.slice au bl cu] 94)));have HBV5:=ab (HBV.out.alloc HBV.out.size (.cells #[.int .i64 t,.slice au bl cu] 94));have hy3:(wr.alloc (.cells #[.int .i64 t,.slice au bl cu] 94)).cell? ⟨M,3,none⟩=some (.slice an (4+j) cn):=(af HM5.out 3).trans rfl;have hy0:(wr.alloc (.cells #[.int .i64 t,.slice au bl cu] 94)).cell? ⟨wr.heap.size,0,none⟩=some (.int .i64 t):=(af HE5.out 0).trans rfl;have HBLN:=ab hblen;clear him hblen hlt2;go_upto_region 7 with (fail)
    generalize hW5:wr.alloc (.cells #[.int .i64 t,.slice au bl cu] 94)=W5 at *;have HEW:Hid (wr.heap.size<W5.heap.size):=ab (by rw [<-hW5];simp);clear hW5 hu1 hu2;generalize wr.heap.size=E at *;go_wp2_with (at_builtin;refine gN rfl (.tmp 54) (.tmp 57) 81 rfl V.heap.size 2 Tryz.underlying81 Da (.slice an (4+j) cn) nj rfl (HN5.out.alloc _) (some ⟨W5.heap.size,0,none⟩) 1 1 [t] rfl (iG (aK W5 _)) HLEN.out (HBV5.out.alloc HBV5.out.size _).size ?_)
    intro vN6 W6 ho6 hg6 hb6;have hon6:=je hg6;have hne6:∀{b:Nat} {cs:Array Value} {t:TypeId},W5.heap[b]? = some (.cells cs t (0,0))->t≠2->W6.heap[b]? = some (.cells cs t (0,0)):=λhb ht=>hon6.keeps (bb hb _) (λhm=>by
      have h8:=cV (OwnI.mono (HN5.out.alloc (.cells #[.int .i64 t] 2)) (aH _)) (by simpa using hm);rw [bb hb _] at h8;simp at h8;exact ht h8)
    have hM6:=hne6 HM5.out (by decide);have hE6:=hne6 HE5.out (by decide);have hB6:OwnL W6 V.heap.size (.slice al j cl) bj:=(HB5.out.below ((az _ _).alloc (ah _) (.cells #[.int .i64 t] 2))).only hon6 (λb hm cur=>by
      have h8:=cV (OwnI.mono (HN5.out.alloc (.cells #[.int .i64 t] 2)) (aH _)) (by simpa using hm);rw [h8];simp)
    have hV6:=(HBV5.out.alloc HBV5.out.size (.cells #[.int .i64 t] 2)).trans hb6;have hs6:E<W6.heap.size:=aE HEW.out (aD (by simp) hon6.size);obtain ⟨a6,c6',e6,_⟩:=ho6.isI;rw [ay,HTJL.out] at e6;simp only [aY,gM,cy] at e6;subst e6;have hy3:W6.cell? ⟨M,3,none⟩=some (.slice an (4+j) cn):=(af hM6 3).trans rfl;have hz3:=aM hM6 3;have HM6:=ab hM6;have HE6:=ab hE6;have HB6:=ab hB6;have HV6:=ab hV6;have HO6:=ab ho6;clear hM6 hE6 hB6 hV6 ho6 hg6 hb6 hon6 hne6 hy0;go_upto_region 8 with (fail)
    have o9:Only [M] W6 (W6.setCell ⟨M,3,none⟩ (.slice a6 (4+j+1) c6')):=(Only.refl _ _).setCell (by simp) _;have HM0:Hid ((W6.setCell ⟨M,3,none⟩ (.slice a6 (4+j+1) c6')).heap[M]? = some (.cells #[.int .i64 (s.own:Int),.int .i64 (q:Int),.int .i64 3,.slice a6 (4+j+1) c6',.slice al j cl] 83 (0,0))):=ab (aR HM6.out 3 _);have HEM:Hid (E≠M):=ab (bZ HE6.out HM6.out (by decide));have HE0:=ab (o9.keeps HE6.out (by simpa using HEM.out));have HON0:Hid (OwnI _ V.heap.size 2 _ _):=ab (ej HO6.out o9 (λi hi cur=>by rw [aj.1 hi,HM6.out];simp));have HOL0:=ab (HB6.out.only o9 (λi hi cur=>by rw [aj.1 hi,HM6.out];simp));have HBX0:=ab (HV6.out.trans (o9.below HV6.out.size (by simpa using HGM.out)));have hy1:=(af HE0.out 1).trans (show _=some (Value.slice au bl cu) from rfl);clear o9 hy3 hz3;generalize W6.setCell ⟨M,3,none⟩ (.slice a6 (4+j+1) c6')=W9 at *;have HB0:Hid (Below V.heap.size V W9.drew):=ab (HBX0.out.drew);have HM0:Hid (W9.drew.heap[M]? = _):=HM0;have HE0:Hid (W9.drew.heap[E]? = _):=HE0;have HON0:Hid (OwnI W9.drew V.heap.size 2 _ _):=HON0;have HOL0:Hid (OwnL W9.drew V.heap.size _ _):=ab (HOL0.out.below (ak W9 1));have hy1:W9.drew.cell? ⟨E,1,none⟩=some (.slice au bl cu):=hy1;refine wp_region_held_drew (S:=λw'=>w'.cell? ⟨E,1,none⟩=some (.slice au bl cu)) (by kernel_rfl) hy1 (λam=>?_);refine aB 0 ?_;refine aB 2 ?_;refine aB 3 ?_;generalize W9.drew=W0 at *;refine j5 1 4 (λK hK=>?_) λK hK=>?_
    ·have hy4:=af HM0.out 4;have hy4b:W0.cell? ⟨M,4,none⟩=some (.slice al j cl):=hy4.trans rfl;go_simp
     clear hy4 hy4b;refine hK.out _ _ am (λam=>?_);clear hK K;refine bH ?_;refine cC 4 λK hK=>?_;go_simp
     refine (F.dd au bl cu bs _ (HIB.out _ HB0.out) (by have:=HBLN.out;omega)).mono ?_;rintro e W1 ⟨v5,rfl,ho5,hb5⟩;have HB1:=ab (HB0.out.trans (hb5.mono HB0.out.size));have HM1:=ab (bd hb5 (aQ HM0.out) HM0.out);have HON1:=ab (HON0.out.below hb5);have HOL1:=ab (HOL0.out.below hb5);have HV5:=ab (ho5.mono HB0.out.size);obtain ⟨a5,c5,e5,_⟩:=id HV5.out.isB;rw [HBL.out] at e5;subst e5;have HE1:=ab (bd hb5 (aQ HE0.out) HE0.out);have hk:W1.cell? ⟨E,1,none⟩=some (.slice au bl cu):=(af HE1.out 1).trans rfl;clear ho5 hb5;go_wp2_with fail
     refine hK.out _ _ hk (λam=>?_);clear hK K;refine bH ?_;clear hk;exact xN
    ·go_simp
     refine (F.dd au bl cu bs _ (HIB.out _ HB0.out) (by have:=HBLN.out;omega)).mono ?_;rintro e W1 ⟨v5,rfl,ho5,hb5⟩;have HB1:=ab (HB0.out.trans (hb5.mono HB0.out.size));have HM1:=ab (bd hb5 (aQ HM0.out) HM0.out);have HON1:=ab (HON0.out.below hb5);have HOL1:=ab (HOL0.out.below hb5);have HV5:=ab (ho5.mono HB0.out.size);obtain ⟨a5,c5,e5,_⟩:=id HV5.out.isB;rw [HBL.out] at e5;subst e5;have HE1:=ab (bd hb5 (aQ HE0.out) HE0.out);have hk:W1.cell? ⟨E,1,none⟩=some (.slice au bl cu):=(af HE1.out 1).trans rfl;clear ho5 hb5;go_wp2_with fail
     refine hK.out _ _ hk (λam=>?_);clear hK K;refine bH ?_;clear hk;refine j5 1 5 (λK hK=>?_) λK hK=>?_
     ·have hy4:=af HM1.out 4;have hy4b:W1.cell? ⟨M,4,none⟩=some (.slice al j cl):=hy4.trans rfl;go_simp
      clear hy4 hy4b;refine hK.out _ _ am (λam=>?_);clear hK K;refine bH ?_;exact xN
     ·go_simp
      have hk:(W1.alloc (.cells #[.slice a5 bl c5] 31)).cell? ⟨E,1,none⟩=some (.slice au bl cu):=(af (bb HE1.out _) 1).trans rfl;refine hK.out _ _ hk (λam=>?_);clear hK K;refine bH ?_;have HE2:=ab (bb HE1.out (.cells #[.slice a5 bl c5] 31));have HB2:=ab (HB1.out.alloc HB1.out.size (.cells #[.slice a5 bl c5] 31));have HM2:=ab (bb HM1.out (.cells #[.slice a5 bl c5] 31));have HON2:Hid (OwnI (W1.alloc (.cells #[.slice a5 bl c5] 31)) V.heap.size 2 _ _):=ab (HON1.out.alloc _);have HOL2:=ab (HOL1.out.below ((az _ _).alloc (ah _) (.cells #[.slice a5 bl c5] 31)));have HV6:Hid (OwnB (W1.alloc (.cells #[.slice a5 bl c5] 31)) V.heap.size 5 _ _):=ab (HV5.out.alloc _);have HC6:=ab (aK W1 (.cells #[.slice a5 bl c5] 31));have HH:=ab (show V.heap.size<=W1.heap.size from HB1.out.size);generalize hw2:W1.alloc (.cells #[.slice a5 bl c5] 31)=W2 at *;have HEH:Hid (∃z,z=W1.heap.size):=ab ⟨_,rfl⟩;clear hk hw2;refine cC 1 λK hK=>?_;have hy4:=af HM2.out 4;have hy4b:W2.cell? ⟨M,4,none⟩=some (.slice al j cl):=hy4.trans rfl;go_simp
      clear hy4 hy4b;refine hK.out _ _ am (λam=>?_);clear hK K;refine bH ?_;exact xO
  · obtain rfl:j=m:=by omega
    have q5:¬((j:Int)<(j:Int)):=by omega
    clear hga;have HZ:=ab (bd HBV.out hVs hbx.out);obtain ⟨an,cn,evn,_⟩:=HNN.out.isI;obtain ⟨al,cl,evb,_⟩:=HBB.out.shape;generalize hln:([st,(f:Int),lt,ag]++(T.drop f).take j).length=ln at *;generalize hlb:((Bs.drop f).take j).length=lb at *;subst evn evb;go_upto_region 10 with (fail)
    go_wp2_with (first | (refine wpList_load_row rfl 83 (.tmp 7) rfl M rfl 83 _ (0,0) _ HM.out Tryz.underlying83 rfl fS ?_) | (refine wpList_store_row rfl 83 (.tmp 4) (.tmp 69) rfl w.heap.size #[.int .i64 (s.own:Int),.int .i64 (q:Int),.int .i64 3,.slice an ln cn,.slice al lb cl] rfl rfl 83 _ HZ.out fS rfl (fH _ _ _ _ _ _ _ _ _) ?_))
    have hon:=dv wr w.heap.size #[.int .i64 (s.own:Int),.int .i64 (q:Int),.int .i64 3,.slice an ln cn,.slice al lb cl];have hz:∀i∈[w.heap.size],∀cur t,t≠83->wr.heap[i]? ≠ some (.cells cur t (0,0)):=λi hi cur t ht=>by
      rw [aj.1 hi,HZ.out];simp;intro _ h;exact ht h.symm
    have hA2:∀b∈A,b<V.heap.size:=λb hb=>by have:=HWA.out b hb;omega
    refine bodyPost_ret (results_cell_row (P:=Tryz.prog) (fn:=Tryz.f63) rfl _ _ w.heap.size 83 _ _ _ rfl (setRow_heap _ _ _ _ 83 (0,0) HZ.out) Tryz.underlying83 rfl fS) rfl ⟨.slice an ln cn,.slice al lb cl,by rw [HEQ.out];rfl,?_,(HVV.out _ HBV.out).trans (hon.below (HVV.out _ HBV.out).size (by simp))⟩;rw [HEQ.out];exact ⟨ImmI.new (w:=V) (ej HNN.out hon (λi hi cur=>hz i hi cur 2 (by decide))) hA2,ImmL.new (w:=V) (HBB.out.only hon (λi hi cur=>⟨hz i hi cur 31 (by decide),hz i hi cur 5 (by decide)⟩)) hA2⟩
end
end Go.Proofs.YtnhefallmioefaaGreat
