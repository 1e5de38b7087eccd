/-
  What the proof of the law leans on: contracts of the program's functions, one behind another. No condition.
-/
import Derived.Test.YtnhefallmioefaaGreatV0
import Derived.Test.YtnhefallmioefaaGreatV25
import Derived.Test.YtnhefallmioefaaGreatV3
set_option linter.unusedVariables false
set_option linter.unusedSimpArgs false
namespace Go.Proofs.YtnhefallmioefaaGreat
open Go.RowKit Go.ChangeMaps Go.WideMaps Go.Maps
set_option maxRecDepth 20000
section
variable {w w':World} {A A' X X':List Nat} {r d l:Nat} {s s':Rp} {k k':Dk}
set_option maxHeartbeats 80000000 in
theorem ze (h:Nd w A X r d l s k) (hw:Wf s k) (m:Msg) (v u:Value) (hm:IsMsg w A m v u) (hlen:2<=m.N.length) (hle:m.N.getD 0 0<=s.term) (hN1m:m.N.getD 1 0<=4611686018427387904) (hB:m.B.length<=1000000) (HC:Hid (gF s m=false/\¬m.N.getD 0 0<s.term/\ey { s with ticks:=0 } (m.N.getD 1 0) (m.N.getD 2 0)=true)) :
  Calls Tryz.prog 73 #[.pointer (some ⟨r,0,none⟩),df m v u] w λe w'=>MsP w w' A X r d l e (dH s k m):=by
 have hbw:Below w.heap.size w (w.alloc (.cells (bU m v u) 83)):=(az _ _).alloc (ah _) _;have h1:=h.below hbw;have HM0:Hid (Mv A A X X w (w.alloc (.cells (bU m v u) 83))):=ab (Mv.below hbw);obtain ⟨b,off,c,ev,hlc⟩:=rJ h.alt hm (by omega);subst ev;obtain ⟨ub,bc,eu⟩:=ll hm.b;subst eu;have hM0:(w.alloc (.cells (bU m (.slice (some ⟨b,off,none⟩) m.N.length c) (.slice ub m.B.length bc)) 83)).cell? ⟨w.heap.size,0,none⟩=some (.int .i64 m.frm):=by rw [af hlc.cell];rfl
 have hM3:(w.alloc (.cells (bU m (.slice (some ⟨b,off,none⟩) m.N.length c) (.slice ub m.B.length bc)) 83)).cell? ⟨w.heap.size,3,none⟩=some (.slice (some ⟨b,off,none⟩) m.N.length c):=by rw [af hlc.cell];rfl
 have hM4:(w.alloc (.cells (bU m (.slice (some ⟨b,off,none⟩) m.N.length c) (.slice ub m.B.length bc)) 83)).cell? ⟨w.heap.size,4,none⟩=some (.slice ub m.B.length bc):=by rw [af hlc.cell];rfl
 have hN0:=hlc.nums 0 (by omega);have hN1:=hlc.nums 1 (by omega);rw [fL] at hN0;obtain ⟨al,cl,hc8,hl1,hl2⟩:=h1.loglen;obtain ⟨vl,gv0,gn0,gm0,gh0,hcell⟩:=h1.cells;have hc6:(w.alloc (.cells (bU m (.slice (some ⟨b,off,none⟩) m.N.length c) (.slice ub m.B.length bc)) 83)).cell? ⟨r,6,none⟩=some (.int .i64 s.term):=by rw [af hcell];rfl
 have hc15:(w.alloc (.cells (bU m (.slice (some ⟨b,off,none⟩) m.N.length c) (.slice ub m.B.length bc)) 83)).cell? ⟨r,15,none⟩=some (.int .i64 (s.ticks:Int)):=by rw [af hcell];rfl
 have hz15:=aM hcell 15;have hc11:(w.alloc (.cells (bU m (.slice (some ⟨b,off,none⟩) m.N.length c) (.slice ub m.B.length bc)) 83)).cell? ⟨r,11,none⟩=some (.bool s.leads):=by rw [af hcell];rfl
 have HN1:=ab h1;have HW:=ab hw;have HLC:=ab hlc;have HBAD:=ab (rH (s:=s) (k:=k) m);have HOLD:=ab (rF (s:=s) (k:=k) m);have HUNF:=ab (nD (s:=s) (k:=k) m);have HFIT:=ab (rG (s:=s) (k:=k) m);have HBE:Hid (gF s m=(!(m.N.length==4+m.B.length)||decide (m.N.getD 1 0<0)||(m.N.getD 0 0==s.term&&s.leads))):=ab rfl;have HSAYG:Hid (∀(W8:World) A8 X8 s8 k8,Nd W8 A8 X8 r d l s8 k8->∀W9,Below W8.heap.size W8 W9->∀dst kind N ao n c,Calls Tryz.prog 67 #[.pointer (some ⟨r,0,none⟩),.int .i64 dst,.int .i64 kind,.slice ao n c] W9 λe w2=>e = .returned (df (da s8 dst kind N) (.slice ao n c) (.slice none 0 0))/\Below W9.heap.size W9 w2):=ab (λW8 A8 X8 s8 k8 h W9 hb dst kind N ao n c=>jP (h.below hb) dst kind N ao n c);have hl0:(0:Int)<(m.N.length:Int):=by omega
 have hl1':(1:Int)<(m.N.length:Int):=by omega
 have q1:IntKind.i64.wrap (4+(m.B.length:Int))=4+(m.B.length:Int):=IntWalk.i64_in _ (by omega);have HNL:Hid (∃z,z=m.N):=ab ⟨_,rfl⟩;clear h h1 hw hm hcell hbw hlc;unfold df bU at *;go_enter Tryz.func73,Tryz.ntmps73
 go_upto_region 1 with (fail)
 generalize hWW:w.alloc (.cells #[.int .i64 m.frm,.int .i64 m.dst,.int .i64 m.kind,.slice (some ⟨b,off,none⟩) m.N.length c,.slice ub m.B.length bc] 83)=W at *;generalize hMM:w.heap.size=M at *;generalize hn0:m.N.getD 0 0=n0 at *;generalize hn1:m.N.getD 1 0=n1 at *;generalize hn2:m.N.getD 2 0=n2 at *;generalize hn3:m.N.getD 3 0=n3 at *;generalize hnl:m.N.length=nl at *;generalize hbl:m.B.length=bl at *;have HDR:=ab (λa b=>dL W a b);go_cut [40] (λv wx=>v = .bool (!(nl==4+bl)||decide (n1<0)||(n0==s.term&&s.leads))/\∃q,wx=W.drewN q)
 case first =>
  by_cases h4:nl=4+bl
  ·subst h4;have E4:Hid ((4+bl==4+bl)=true):=ab (by simp);cases b1:decide (n1<0) with
   | true =>
    go_quiet (fail)
    go_wp2_with fail
    go_meet
    exact ⟨by rw [E4.out,b1];rfl,nq,rfl⟩
   | false =>
    cases b2:n0==s.term with
    | false =>
     go_quiet (fail)
     go_wp2_with fail
     go_meet
     exact ⟨by rw [E4.out,b1,b2];rfl,nq,rfl⟩
    | true =>
     go_quiet (fail)
     go_wp2_with fail
     go_meet
     exact ⟨by rw [E4.out,b1,b2];rfl,nq,rfl⟩
  ·have g4:((nl:Int) != 4+(bl:Int))=true:=by rw [qz];omega
   have e4:(nl==4+bl)=false:=by simpa using h4
   go_quiet (fail)
   go_wp2_with fail
   go_meet
   exact ⟨by rw [e4];rfl,nq,rfl⟩
 case rest =>
 obtain ⟨rfl,q2,rfl⟩:=hcut;cases hno:(!(nl==4+bl)||decide (n1<0)||(n0==s.term&&s.leads)) with
 | true =>
  exact absurd (HBE.out.trans hno) (by rw [HC.out.1];decide)
 | false =>
  have HNB:=ab (HBE.out.trans hno);simp only [eL,qC,xp,ez,Bool.and_eq_false_imp] at hno;obtain ⟨⟨h4,h5⟩,h6⟩:=hno;subst h4;go_upto_region 3 with (fail)
  by_cases hold:n0<s.term
  ·exact absurd hold HC.out.2.1
  ·have g1:decide (n0<s.term)=false:=aW hold;have HLD:Hid (s.leads=false):=ab (h6 (by omega));go_quiet (fail)
   go_upto_region 6 with (fail)
   (try rw [dL W q2 nq])
   have hlb:=HW.out.logb;have hrA:r∈A:=HN1.out.xA r HN1.out.rX;have HN5:Hid (NdP (W.drewN (q2+nq)) ((W.drewN (q2+nq)).setCell ⟨r,15,none⟩ (.int .i64 0)) A X r d l { s with ticks:=0 } k):=ab (by
    refine Nd.scal (HN1.out.below (ak W (q2+nq))) ((Only.refl _ _).setCell (by simp) _) ?_ rfl rfl rfl rfl rfl rfl;intro vl gv gn gm gh hc;rw [aR hc];rfl)
   have HLC5:Hid (LayC ((W.drewN (q2+nq)).setCell ⟨r,15,none⟩ (.int .i64 0)) A M m b off c (.slice ub bl bc)):=ab ((HLC.out.below (ak W (q2+nq))).step (S:=[r]) ((Only.refl _ _).setCell (by simp) _) (by simpa using hrA) (Ext.refl _ _));have HO5:Hid (Only [r] (W.drewN (q2+nq)) ((W.drewN (q2+nq)).setCell ⟨r,15,none⟩ (.int .i64 0))):=ab ((Only.refl _ _).setCell (by simp) _);have HW5:Hid (Wf { s with ticks:=0 } k):=ab (eE HW.out s.lives 0 s.clock s.votes (aH _) HW.out.vl (ah _));have HMD:Hid (Mv A A X X w (W.drewN (q2+nq))):=ab (HM0.out.trans (Mv.below (ak W (q2+nq))));clear hc6 hc8 hc11 hc15 hz15 hM0 hM3 hM4 hN0 hN1 h6;generalize (W.drewN (q2+nq)).setCell ⟨r,15,none⟩ (.int .i64 0)=W5 at *;obtain ⟨A5,X5,h5n,m5⟩:=HN5.out;have hX5A:∀x∈[r],x∈A:=by simpa using hrA
   have HLC5:Hid (LayC W5 A5 M m b off c (.slice ub bl bc)):=ab ((HLC.out.below (ak W (q2+nq))).step HO5.out hX5A m5.ext);have M5:=ab (HMD.out.trans m5);have H5:=ab h5n;clear m5 HO5 HMD hX5A;have hm3:W5.drew.cell? ⟨M,3,none⟩=some (.slice (some ⟨b,off,none⟩) (4+bl) c):=by
    have h9:=af HLC5.out.cell 3;rw [show (4+bl)=m.N.length from hnl.symm];exact h9
   have hn1c:W5.drew.cell? ⟨b,off+1,none⟩=some (.int .i64 n1):=by rw [<-hn1];exact HLC5.out.nums 1 (by omega)
   have hn2c:W5.drew.cell? ⟨b,off+2,none⟩=some (.int .i64 n2):=by rw [<-hn2];exact HLC5.out.nums 2 (by omega)
   have h5d:Nd W5.drew A5 X5 r d l { s with ticks:=0 } k:=h5n.below (ak W5 1);have HFT:=ab (se h5d n1 n2 (by omega) (show s.log.length<=1000000 by omega));have hl2':(2:Int)<(4:Int)+(bl:Int):=by omega
   have hl1b:(1:Int)<(4:Int)+(bl:Int):=by omega
   have HUNF:=ab (HUNF.out HNB.out hold);have HFIT:=ab (λf hf h3=>HFIT.out f HNB.out hold h3 hf);generalize hs5:({ s with ticks:=0 }:Rp)=s5 at *;have HS5:Hid (s5.term=s.term/\s5.log=s.log/\s5.leads=s.leads):=ab (by rw [<-hs5];exact ⟨rfl,rfl,rfl⟩);clear h5n hs5 hold h5d;go_cut [73] (λv wx=>v = .bool (!ey s5 n1 n2)/\wx=W5.drew)
   case first =>
    refine wp_region_held_drew (S:=λw'=>w'.cell? ⟨M,3,none⟩=some (.slice (some ⟨b,off,none⟩) (4+bl) c)/\w'.cell? ⟨b,off+1,none⟩=some (.int .i64 n1)/\w'.cell? ⟨b,off+2,none⟩=some (.int .i64 n2)) (by kernel_rfl) ⟨hm3,hn1c,hn2c⟩ (λam=>?_);refine aB 0 ?_;refine aB 1 ?_;refine aB 2 ?_;refine aB 3 ?_;refine aB 4 ?_;refine aB 5 ?_;refine aB 6 ?_;refine aB 7 ?_;refine aB 8 ?_;generalize W5.drew=V6 at *;refine cC 9 λK hK=>?_;go_simp
    refine HFT.out.mono ?_;rintro e wa ⟨rfl,rfl⟩;go_wp2_with fail
    refine hK.out _ _ am (λam=>?_);clear hK K;refine bH ?_;refine aB 10 ?_;refine fI ?_;clear am;go_wp2_with fail
    go_meet
    exact ⟨rfl,rfl⟩
   case rest =>
   obtain ⟨rfl,rfl⟩:=hcut;have H6:Hid (Nd W5.drew A5 X5 r d l s5 k):=ab (H5.out.below (ak W5 1));have HLC6:Hid (LayC W5.drew A5 M m b off c (.slice ub bl bc)):=ab (HLC5.out.below (ak W5 1));have M6:Hid (Mv A A5 X X5 w W5.drew):=ab (M5.out.trans (Mv.below (ak W5 1)));clear HFT H5 M5 HLC5;generalize W5.drew=W6 at *;cases hft:ey s5 n1 n2 with
   | false =>
    exact absurd hft (by rw [HC.out.2.2];decide)
   | true =>
    obtain ⟨f,rfl⟩:∃f:Nat,n1=(f:Int):=⟨n1.toNat,by omega⟩
    have HE:=ab (HFIT.out f rfl hft);have HFL:Hid (f<=s5.log.length):=ab (by
     unfold ey at hft;simp only [bA,bC] at hft;omega)
    have hm4:W6.cell? ⟨M,4,none⟩=some (.slice ub bl bc):=by
     exact (af HLC6.out.cell 4).trans rfl
    have HL5:Hid (s5.leads=false):=ab (HS5.out.2.2.trans HLD.out);have HT5:Hid (s5.term=s.term):=ab HS5.out.1;have HZ:=ab (λj (hj:j<bl)=>xv m j (by omega) (by omega));have HZN:Hid (((m.N.drop 4).zip m.B).drop bl=[]):=ab (AA (by rw [oq];omega));have HX56:=ab H6.out.xA;generalize (m.N.drop 4).zip m.B=L at *;clear hft hn2c HUNF HFIT HS5 HLD;have hfb:f<=87381:=by have:=HFL.out;have:=HW5.out.logb;omega
    go_wp2_with fail
    go_loopw [103] (λi wr=>∃(j:Nat) (sj:Rp) (kj:Dk),j<=bl/\i = .int .i64 (j:Int)/\NdP W6 wr A5 X5 r d l sj kj/\Wf sj kj/\sj.term=s.term/\sj.leads=false/\f+j<=sj.log.length/\bE f L 0 s5 k=bE f (L.drop j) j sj kj) (λi _=>bl - (intOf i).toNat)
    case atStart=>exact ⟨0,s5,k,aH _,rfl,H6.out.ndp (Mv.refl _ _ _),HW5.out,HT5.out,HL5.out,HFL.out,rfl⟩
    case round =>
     clear hm3 hn1c hm4;obtain ⟨j,sj,kj,hj,rfl,hn,hwf,htm,hld,hfj,hlf⟩:=hrel;obtain ⟨A7,X7,h7,m7⟩:=hn;have HLC7:=ab (HLC6.out.step m7.mv.only HX56.out m7.ext);have H7:=ab h7;have M7:=ab (M6.out.trans m7);have N7:Hid (Mv A5 A7 X5 X7 W6 wr):=ab m7;have HWJ:=ab hwf;have HLF:=ab hlf;have HTM:=ab htm;have HLDJ:=ab hld;have hlbj:=hwf.logb;have hm3:wr.cell? ⟨M,3,none⟩=some (.slice (some ⟨b,off,none⟩) (4+bl) c):=by
      have h9:=af HLC7.out.cell 3;rw [show (4+bl)=m.N.length from hnl.symm];exact h9
     have hm4:wr.cell? ⟨M,4,none⟩=some (.slice ub bl bc):=by
      exact (af HLC7.out.cell 4).trans rfl
     clear hwf hlf htm hld m7;by_cases hlt:j<bl
     ·have hNt:wr.cell? ⟨b,off+(4+j),none⟩=some (.int .i64 (m.N.getD (4+j) 0)):=HLC7.out.nums (4+j) (by omega);obtain ⟨g,bc2,ui,eub,hbc,himm⟩:=Df HLC7.out.bs j (by omega);rw [hbl] at eub;simp only [Value.slice.injEq] at eub;obtain ⟨rfl,_,rfl⟩:=eub;have HIMM:=ab himm;obtain ⟨ar,rc,er,_⟩:=himm;subst er;have HST:=ab (HZ.out j hlt);generalize m.N.getD (4+j) 0=t at *;generalize hrec:m.B.getD j []=rec at *;obtain ⟨al7,hlr⟩:=h7.logR;obtain ⟨c7,hlr⟩:=hlr;have hk8:=hlr.c8;obtain ⟨vl,gv,gn,gm,gh,hcell⟩:=h7.cells;have hk6:wr.cell? ⟨r,6,none⟩=some (.int .i64 s.term):=by rw [af hcell,<-HTM.out];rfl
      have hk9:wr.cell? ⟨r,9,none⟩=some (.int .i64 (sj.agreed:Int)):=by rw [af hcell];rfl
      have r1:IntKind.i64.wrap ((f:Int)+(j:Int))=(f:Int)+(j:Int):=IntWalk.i64_in _ (by omega);have r2:IntKind.i64.wrap (4+(j:Int))=4+(j:Int):=IntWalk.i64_in _ (by omega);have r3:IntKind.i64.wrap ((j:Int)+1)=(j:Int)+1:=IntWalk.i64_in _ (by omega);have r4:(4:Int)+(j:Int)<4+(bl:Int):=by omega
      have r5:(j:Int)<(bl:Int):=by omega
      have r6:(0:Int)<=4+(j:Int):=by omega
      have r7:(4+(j:Int)).toNat=4+j:=by omega
      have r8:((f:Int)+(j:Int)).toNat=f+j:=by omega
      have r9:(0:Int)<=(f:Int)+(j:Int):=by omega
      clear hcell;by_cases hin:f+j<sj.log.length/\(sj.log.map Ent.term).getD (f+j) 0=t
      ·as_aux_lemma =>
       obtain ⟨hin1,hin2⟩:=hin;have HLF2:Hid (bE f L 0 s5 k=bE f (L.drop (j+1)) (j+1) sj kj):=ab (by
        rw [HLF.out,HST.out];simp only [bE];rw [aA ⟨hin1,hin2⟩])
       obtain ⟨p7,rfl⟩:∃p7,al7=some p7:=by
        cases al7 with
        | none=>have:=hlr.nil rfl;have:=hlr.le;omega
        | some p=>exact ⟨p,rfl⟩
       obtain ⟨g7,rfl⟩:=hlr.form p7 rfl;obtain ⟨u7,hu7,_,_⟩:=hlr.at_ (f+j) hin1 g7 rfl;rw [hin2] at hu7;have r10:(f:Int)+(j:Int)<(sj.log.length:Int):=by omega
       have g10:decide ((f:Int)+(j:Int)<(sj.log.length:Int))=true:=aJ r10;clear hlr hin2;generalize hsl7:sj.log.length=sl at *;go_wp2_with fail
       go_roundw
       case rel=>exact ⟨j+1,sj,kj,by omega,rfl,H7.out.ndp N7.out,HWJ.out,HTM.out,HLDJ.out,by omega,HLF2.out⟩
       case measure=>simp [intOf];omega
      ·as_aux_lemma =>
       have HCL:=ab (λ(W':World) (hb:Below wr.heap.size wr W')=>HIMM.out.below hb);have HIB:Hid (IsB wr ar rec.length rc rec):=ab (by
        obtain ⟨ao',c',e,h1,_⟩:=HIMM.out;cases e;exact h1)
       have HSTP:Hid (bE f L 0 s5 k=if 8000<rec.length\/t<1\/s.term<t\/f+j<sj.agreed then (false,sj,kj) else (let p:=b8 sj kj (f+j) ⟨t,rec⟩;if p.1 then bE f (L.drop (j+1)) (j+1) p.2.1 p.2.2 else (false,p.2))):=ab (by
        rw [HLF.out,HST.out];simp only [bE];rw [aw hin,HTM.out])
       have HPL:=ab (λ(hx:rec.length<=8000) (W':World) (hb:Below wr.heap.size wr W') (u':Value) (hu:Imm W' A7 u' rec)=>vM (H7.out.below hb) HWJ.out (f+j) ((f:Int)+(j:Int)) (by omega) ⟨t,rec⟩ hfj hx u' hu);have HWP:=ab (λ(hx:rec.length<=8000) (ha:sj.agreed<=f+j)=>kH HWJ.out (f+j) ⟨t,rec⟩ hfj ha (λhl=>by rw [HLDJ.out] at hl;cases hl) hx);have HSP:=ab (iZ (s:=sj) (k:=kj) (f+j) ⟨t,rec⟩);have HPLN:=ab (vL (s:=sj) (k:=kj) (f+j) ⟨t,rec⟩ hfj);have HA7:=ab h7.alt;have HOUT:Hid (dH s k m=if (bE f L 0 s5 k).1=true then _ else ([],(bE f L 0 s5 k).2)):=ab HE.out;generalize hrl:rec.length=rl at *;go_upto_region 13 with (fail)
       go_cut [136] (λv wx=>v = .bool false/\wx=wr)
       case first =>
        by_cases hlt1:f+j<sj.log.length
        ·have hne:(sj.log.map Ent.term).getD (f+j) 0≠t:=λe=>hin ⟨hlt1,e⟩;obtain ⟨p7,rfl⟩:∃p7,al7=some p7:=by
          cases al7 with
          | none=>have:=hlr.nil rfl;have:=hlr.le;omega
          | some p=>exact ⟨p,rfl⟩
         obtain ⟨g7,rfl⟩:=hlr.form p7 rfl;obtain ⟨u7,hu7,_,_⟩:=hlr.at_ (f+j) hlt1 g7 rfl;have g11:((sj.log.map Ent.term).getD (f+j) 0==t)=false:=by simpa using hne
         have r10:(f:Int)+(j:Int)<(sj.log.length:Int):=by omega
         have g10:decide ((f:Int)+(j:Int)<(sj.log.length:Int))=true:=aJ r10;clear hlr hne hin;generalize (sj.log.map Ent.term).getD (f+j) 0=t7 at *;generalize sj.log.length=sl at *;go_wp2_with fail
         go_meet
         exact ⟨rfl,rfl⟩
        ·have r10:¬(f:Int)+(j:Int)<(sj.log.length:Int):=by omega
         have g10:decide ((f:Int)+(j:Int)<(sj.log.length:Int))=false:=aW r10;clear hlr hin;generalize sj.log.length=sl at *;go_wp2_with fail
         go_meet
         exact ⟨rfl,rfl⟩
       case rest =>
       obtain ⟨rfl,rfl⟩:=hcut;by_cases hbad:8000<rl\/t<1\/s.term<t\/f+j<sj.agreed
       ·have HE2:Hid (dH s k m=([],sj,kj)):=ab (by
         rw [HE.out,HSTP.out,aA hbad];rfl)
        by_cases d1:8000<rl
        ·have d1':(8000:Int)<(rl:Int):=by omega
         go_wp2_with fail
         go_ret
         rw [HE2.out];exact MsP.none (H7.out.ndp M7.out)
        ·have d1':¬(8000:Int)<(rl:Int):=by omega
         by_cases d2:t<1
         ·go_wp2_with fail
          go_ret
          rw [HE2.out];exact MsP.none (H7.out.ndp M7.out)
         ·by_cases d3:s.term<t
          ·go_wp2_with fail
           go_ret
           rw [HE2.out];exact MsP.none (H7.out.ndp M7.out)
          ·have d4:f+j<sj.agreed:=by
            rcases hbad with h | h | h | h
            ·exact absurd h d1
            ·exact absurd h d2
            ·exact absurd h d3
            ·exact h
           have d4':(f:Int)+(j:Int)<(sj.agreed:Int):=by omega
           clear hbad;go_wp2_with fail
           go_ret
           rw [HE2.out];exact MsP.none (H7.out.ndp M7.out)
       ·have d1:¬8000<rl:=λh=>hbad (.inl h);have d2:¬t<1:=λh=>hbad (.inr (.inl h));have d3:¬s.term<t:=λh=>hbad (.inr (.inr (.inl h)));have d4:¬f+j<sj.agreed:=λh=>hbad (.inr (.inr (.inr h)));have d1':¬(8000:Int)<(rl:Int):=by omega
        have d4':¬(f:Int)+(j:Int)<(sj.agreed:Int):=by omega
        have HSTQ:=ab (HSTP.out.trans (aw hbad));have HWPK:=ab (HWP.out (by omega) (by omega));have HPLK:=ab (HPL.out (by omega));have d1h:Hid (rl<=8000):=ab (by omega);clear hbad HWP HPL hin hlr HSTP;unfold sg at HPLK
        (try simp only at HSTQ)
        generalize b8 sj kj (f+j) ⟨t,rec⟩=pp at *;obtain ⟨ok,s9,k9⟩:=pp
        (try simp only at HSTQ);(try simp only at HPLK);(try simp only at HWPK);(try simp only at HSP);(try simp only at HPLN)
        go_wp2_with fail
        refine (F.dd ar rl rc rec _ HIB.out (by have:=d1h.out;omega)).mono ?_;rintro e w8 ⟨v8,rfl,ho8,hb8⟩;have HI8:=ab (Imm.new ho8 HA7.out);obtain ⟨a8,c8,e8,_⟩:=id HI8.out;rw [hrl] at e8;subst e8;have HB8:=ab hb8;clear ho8 hb8;go_wp2_with fail
        refine (HPLK.out w8 HB8.out _ HI8.out).mono ?_;rintro e w9 ⟨rfl,hn9⟩;have HN9:=ab hn9;clear hn9;cases ok with
        | false =>
         have HE2:Hid (dH s k m=([],s9,k9)):=ab (by
          have e:bE f L 0 s5 k=(false,s9,k9):=HSTQ.out.trans (aw (by simp));rw [HE.out,e];rfl)
         go_wp2_with fail
         go_ret
         rw [HE2.out];exact MsP.none (NdP.trans (M7.out.trans (Mv.below HB8.out)) HN9.out)
        | true =>
         have HL9:=ab (HPLN.out rfl);have HT9:Hid (s9.term=s.term/\s9.leads=false):=ab (by
          obtain ⟨w0,d0,l0,e0⟩:=HSP.out;rw [e0];exact ⟨HTM.out,HLDJ.out⟩)
         have HLF2:Hid (bE f L 0 s5 k=bE f (L.drop (j+1)) (j+1) s9 k9):=ab (HSTQ.out.trans (aA rfl));go_wp2_with fail
         go_roundw
         case rel=>exact ⟨j+1,s9,k9,by omega,rfl,NdP.trans (N7.out.trans (Mv.below HB8.out)) HN9.out,HWPK.out,HT9.out.1,HT9.out.2,by rw [HL9.out];omega,HLF2.out⟩
         case measure=>simp [intOf];omega
     ·as_aux_lemma =>
      obtain rfl:j=bl:=by omega
      have HLF2:Hid (bE f L 0 s5 k=(true,sj,kj)):=ab (by rw [HLF.out,HZN.out];rfl);have HE2:Hid (dH s k m=(let q:=if j=0 then (sj,kj) else bT sj kj
       if 0<j/\q.1.done=true then ([],q) else
       let s2:=bM q.1 (min n3 ((f+j:Nat):Int)).toNat
       ([da s2 m.frm 4 [s2.term,1,((f+j:Nat):Int)]],s2,q.2))):=ab (by rw [HE.out,HLF2.out];rfl)
      have HSY:=ab (mT H7.out);have HWSY:=ab (mE HWJ.out);have HSSY:=ab (eO (s:=sj) (k:=kj));have hbig:(f:Int)+(j:Int)<=2000000:=by have:=HFL.out;omega
      have r1:IntKind.i64.wrap ((f:Int)+(j:Int))=(f:Int)+(j:Int):=IntWalk.i64_in _ (by omega);clear HE HLF HLF2 HZ HZN HFL HNB HBAD HOLD HBE
      (try simp only at HE2)
      go_upto_region 17 with (fail)
      by_cases hdn:0<j/\(bT sj kj).1.done=true
      ·have hj0:¬j=0:=by omega
       have hj1:(0:Int)<(j:Int):=by omega
       have HE3:Hid (dH s k m=([],bT sj kj)):=ab (by
        rw [HE2.out,aw hj0,aA hdn])
       have hd2:=hdn.2;clear hdn hj0;generalize bT sj kj=q9 at *;obtain ⟨s9,k9⟩:=q9
       (try simp only at HSY);(try simp only at hd2)
       rw [hd2] at HSY;go_wp2_with fail
       refine HSY.out.mono ?_;rintro e w9 ⟨rfl,hn9⟩;have HN9:=ab hn9;clear hn9;go_wp2_with fail
       go_ret
       rw [HE3.out];exact MsP.none (NdP.trans M7.out HN9.out)
      ·go_cut [183] (λv wx=>v = .bool false/\∃s9 k9,NdP wr wx A7 X7 r d l s9 k9/\Wf s9 k9/\s9.log=sj.log/\dH s k m=([da (bM s9 (min n3 ((f+j:Nat):Int)).toNat) m.frm 4 [(bM s9 (min n3 ((f+j:Nat):Int)).toNat).term,1,((f+j:Nat):Int)]],bM s9 (min n3 ((f+j:Nat):Int)).toNat,k9))
       case first =>
        by_cases hj0:j=0
        ·have hj1:¬(0:Int)<(j:Int):=by omega
         have hj2:¬0<j:=by omega
         have HE3:=HE2.out;rw [aA hj0,aw (λh=>by omega)] at HE3;have HE3:=ab HE3;clear hdn hj0;go_wp2_with fail
         go_meet
         exact ⟨rfl,sj,kj,H7.out.ndp (Mv.refl _ _ _),HWJ.out,rfl,HE3.out⟩
        ·have hj1:(0:Int)<(j:Int):=by omega
         have hd2:(bT sj kj).1.done=false:=by
          cases hq:(bT sj kj).1.done with
          | false=>rfl
          | true=>exact absurd ⟨by omega,hq⟩ hdn
         have HE3:=HE2.out;rw [aw hj0,aw hdn] at HE3;have HE3:=ab HE3;have HLG:Hid ((bT sj kj).1.log=sj.log):=ab (by rw [eO]);clear hdn hj0 HSSY;generalize bT sj kj=q9 at *;obtain ⟨s9,k9⟩:=q9
         (try simp only at HSY);(try simp only at hd2);(try simp only at HWSY);(try simp only at HLG)
         rw [hd2] at HSY;go_wp2_with fail
         refine HSY.out.mono ?_;rintro e w9 ⟨rfl,hn9⟩;have HN9:=ab hn9;clear hn9;go_wp2_with fail
         go_meet
         exact ⟨rfl,s9,k9,HN9.out,HWSY.out,HLG.out,HE3.out⟩
       case rest =>
       obtain ⟨rfl,s9,k9,hn9,hw9,hlg9,he9⟩:=hcut;rename World=>W18;obtain ⟨A9,X9,h9,m9⟩:=hn9;have HLC9:Hid (LayC W18.drew A9 M m b off c (.slice ub j bc)):=ab ((HLC7.out.step m9.mv.only H7.out.xA m9.ext).below (ak W18 1));have H9:Hid (Nd W18.drew A9 X9 r d l s9 k9):=ab (h9.below (ak W18 1));have M9:Hid (Mv A A9 X X9 w W18.drew):=ab ((M7.out.trans m9).trans (Mv.below (ak W18 1)));have HE9:=ab he9;have hmin:min n3 (((f+j:Nat)):Int)=min n3 ((f:Int)+(j:Int)):=by rw [Int.natCast_add]
       have hlen9:f+j<=s9.log.length:=by rw [hlg9];exact hfj
       have HAG:Hid (Calls Tryz.prog 98 #[.pointer (some ⟨r,0,none⟩),.int .i64 (min n3 ((f:Int)+(j:Int)))] W18.drew λe w'=>Nd w' A9 X9 r d l (bM s9 (min n3 (((f+j:Nat)):Int)).toNat) k9/\Only [r] W18.drew w'/\e = .returned (.tuple #[])):=ab (by
        rw [hmin];refine xi H9.out _ (by omega) (by have:=hw9.logb;omega) ?_;rw [hw9.man];unfold recs;rw [aP];exact aD (di _ _) (by rw [aI];omega))
       have hm3:W18.drew.cell? ⟨M,3,none⟩=some (.slice (some ⟨b,off,none⟩) (4+j) c):=by
        have h9:=af HLC9.out.cell 3;rw [show (4+j)=m.N.length from hnl.symm];exact h9
       have hm4:W18.drew.cell? ⟨M,4,none⟩=some (.slice ub j bc):=(af HLC9.out.cell 4).trans rfl;have hn3c:W18.drew.cell? ⟨b,off+3,none⟩=some (.int .i64 n3):=by rw [<-hn3];exact HLC9.out.nums 3 (by omega)
       have hrA9:r∈A9:=H9.out.xA r H9.out.rX;have hl3':(3:Int)<(4:Int)+(j:Int):=by omega
       have HKA:Hid (∀w',Only [r] W18.drew w'->w'.cell? ⟨M,3,none⟩=some (.slice (some ⟨b,off,none⟩) (4+j) c)/\w'.cell? ⟨M,4,none⟩=some (.slice ub j bc)/\w'.cell? ⟨b,off+3,none⟩=some (.int .i64 n3)):=ab (λw' ho=>by
        have e1:M∉[r]:=by simp;intro e;exact HLC9.out.nM (e ▸ hrA9)
        have e2:b∉[r]:=by simp;intro e;exact HLC9.out.nb (e ▸ hrA9)
        exact ⟨ho.cell hm3 e1,ho.cell hm4 e1,ho.cell hn3c e2⟩)
       clear h9 m9 hw9 hlg9 he9 hdn;generalize hs2:bM s9 (min n3 (((f+j:Nat)):Int)).toNat=s2 at *;go_upto_region 19 with (fail)
       go_cut [] (λwx=>Nd wx A9 X9 r d l s2 k9/\Only [r] W18.drew wx)
       case first =>
        refine wp_region_held_drew (S:=λw'=>w'.cell? ⟨M,3,none⟩=some (.slice (some ⟨b,off,none⟩) (4+j) c)/\w'.cell? ⟨M,4,none⟩=some (.slice ub j bc)/\w'.cell? ⟨b,off+3,none⟩=some (.int .i64 n3)) (by kernel_rfl) ⟨hm3,hm4,hn3c⟩ (λam=>?_);refine aB 0 ?_;refine aB 1 ?_;refine aB 2 ?_;refine aB 3 ?_;refine aB 4 ?_;refine aB 5 ?_;refine aB 6 ?_;refine aB 7 ?_;refine aB 8 ?_;refine aB 9 ?_;refine aB 10 ?_;generalize W18.drew=V19 at *;refine cC 11 λK hK=>?_;go_simp
        refine HAG.out.mono ?_;rintro e W20 ⟨hn20,ho20,rfl⟩;have HN20:=ab hn20;have HO20:=ab ho20;have hk20:=HKA.out _ ho20;clear hn20 ho20;go_wp2_with fail
        refine hK.out _ _ hk20 (λam=>?_);clear hK K;refine bH ?_;refine fI ?_;clear am;go_wp2_with fail
        go_meet
        exact ⟨HN20.out,HO20.out⟩
       case rest =>
       obtain ⟨h20,ho20⟩:=hcut;rename World=>W20;have HLC20:Hid (LayC W20.drew A9 M m b off c (.slice ub j bc)):=ab ((HLC9.out.step ho20 (by simpa using hrA9) (Ext.refl _ _)).below (ak W20 1));have M20:=ab (M9.out.trans (Mv.only (A:=A9) (X:=X9) ho20 (by simpa using H9.out.rX)));go_upto_region 20 with (fail)
       obtain ⟨st8,hst8⟩:∃st8,st8=s2.term:=⟨_,rfl⟩
       obtain ⟨s8,hs8⟩:∃s8,s8=s2:=⟨_,rfl⟩
       obtain ⟨k8,hk8⟩:∃k8,k8=k9:=⟨_,rfl⟩
       obtain ⟨A8,hA8⟩:∃A8,A8=A9:=⟨_,rfl⟩
       obtain ⟨X8,hX8⟩:∃X8,X8=X9:=⟨_,rfl⟩
       obtain ⟨bl,hblj⟩:∃bl,bl=j:=⟨_,rfl⟩
       have h8:Nd W20.drew A8 X8 r d l s8 k8:=by rw [hs8,hk8,hA8,hX8];exact h20.below (ak _ 1)
       have M8:Hid (Mv A A8 X X8 w W20.drew):=ab (by rw [hA8,hX8];exact M20.out.trans (Mv.below (ak _ 1)));have hMV:W20.drew.cell? ⟨M,0,none⟩=some (.int .i64 m.frm):=(af HLC20.out.cell 0).trans rfl;have hm4:W20.drew.cell? ⟨M,4,none⟩=some (.slice ub bl bc):=by rw [hblj];exact (af HLC20.out.cell 4).trans rfl
       have hr6:W20.drew.cell? ⟨r,6,none⟩=some (.int .i64 st8):=by
        obtain ⟨vl,gv,gn,gm,gh,hcell⟩:=h8.cells;rw [af hcell,hst8,hs8];rfl
       have HE:Hid (dH s k m=([da s8 m.frm 4 [st8,1,(f:Int)+(bl:Int)]],s8,k8)):=ab (by rw [hs8,hk8,hst8,hblj,HE9.out,Int.natCast_add]);have r1:IntKind.i64.wrap ((f:Int)+(bl:Int))=(f:Int)+(bl:Int):=by rw [hblj];exact r1
       clear hst8 hs8 hk8 hA8 hX8 h20 ho20 hs2;rw [<-hblj] at *;clear hblj;generalize W20=W8 at *;have HK8:Hid (∀W',Below W8.drew.heap.size W8.drew W'->W'.cell? ⟨M,0,none⟩=some (.int .i64 m.frm)/\W'.cell? ⟨r,6,none⟩=some (.int .i64 st8)/\W'.cell? ⟨M,4,none⟩=some (.slice ub bl bc)):=ab (λW' hb=>⟨cell_later hb hMV,cell_later hb hr6,cell_later hb hm4⟩);have HSAY:=ab (HSAYG.out _ _ _ _ _ h8);have HA8:=ab h8.alt;have HBV:Hid (∀o,Below W8.drew.heap.size W8.drew (W8.drew.alloc o)):=ab (λo=>(az _ _).alloc (ah _) o);have HF8:Hid (∀V10 vv N,Below W8.drew.heap.size W8.drew V10->ImmI V10 A8 vv N->MsP w (V10.alloc (.cells (bU (da s8 m.frm 4 N) vv (.slice none 0 0)) 83)) A X r d l (.returned (.slice (some ⟨V10.heap.size,0,none⟩) 1 1)) ([da s8 m.frm 4 N],s8,k8)):=ab (λV10 vv N hb hi=>MsP.trans M8.out (ku h8 hb (da s8 m.frm 4 N) vv (.slice none 0 0) ⟨hi,.inl ⟨rfl,rfl⟩⟩));unfold bU at HF8;refine wp_region_held_drew (S:=λw'=>w'.cell? ⟨M,0,none⟩=some (.int .i64 m.frm)/\w'.cell? ⟨r,6,none⟩=some (.int .i64 st8)/\w'.cell? ⟨M,4,none⟩=some (.slice ub bl bc)) (by kernel_rfl) (HK8.out _ (az _ _)) (λam=>?_);refine aB 0 ?_;refine aB 1 ?_;refine aB 2 ?_;refine aB 3 ?_;refine aB 4 ?_;refine aB 5 ?_;refine aB 6 ?_;refine aB 7 ?_;refine aB 8 ?_;refine aB 9 ?_;refine aB 10 ?_;refine aB 11 ?_;generalize W8.drew=V8 at *;refine cC 12 λK hK=>?_;go_simp
       refine hK.out _ _ (HK8.out _ (HBV.out (.cells #[.int .i64 st8,.int .i64 1,.int .i64 ((f:Int)+(bl:Int))] 2))) (λam=>?_);clear hK K;refine bH ?_;have HI8:Hid (ImmI (V8.alloc (.cells #[.int .i64 st8,.int .i64 1,.int .i64 ((f:Int)+(bl:Int))] 2)) A8 (.slice (some ⟨V8.heap.size,0,none⟩) 3 3) [st8,1,(f:Int)+(bl:Int)]):=ab (ImmI.fresh [st8,1,(f:Int)+(bl:Int)] _ rfl 2 3 rfl (by omega) HA8.out);have HB8:=ab (HBV.out (.cells #[.int .i64 st8,.int .i64 1,.int .i64 ((f:Int)+(bl:Int))] 2));generalize V8.alloc (.cells #[.int .i64 st8,.int .i64 1,.int .i64 ((f:Int)+(bl:Int))] 2)=V9 at *;refine cC 13 λK hK=>?_;go_simp
       refine (HSAY.out _ HB8.out _ _ [st8,1,(f:Int)+(bl:Int)] _ _ _).mono ?_;rintro e V10 ⟨rfl,hb10⟩;have HB10:=ab (HB8.out.trans (hb10.mono HB8.out.size));have HI10:=ab (HI8.out.below hb10);clear hb10;go_wp2_with fail
       refine hK.out _ _ (HK8.out _ HB10.out) (λam=>?_);clear hK K;refine bH ?_;refine cC 14 λK hK=>?_
       (try unfold df)
       go_simp
       refine hK.out _ _ (HK8.out _ (HB10.out.alloc HB10.out.size _)) (λam=>?_);clear hK K;refine bH ?_;refine aB 15 ?_;refine fI ?_;clear am;go_wp2_with fail
       go_ret
       rw [HE.out];exact HF8.out _ _ _ HB10.out HI10.out
end
end Go.Proofs.YtnhefallmioefaaGreat
