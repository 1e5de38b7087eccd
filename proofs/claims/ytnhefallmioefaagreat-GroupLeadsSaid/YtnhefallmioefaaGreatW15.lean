/- What the law leans on. No condition. -/
import Derived.Test.YtnhefallmioefaaGreatW0
import Derived.Test.YtnhefallmioefaaGreatW1
import Derived.Test.YtnhefallmioefaaGreatW7
set_option maxHeartbeats 8000000
set_option linter.unusedVariables false
set_option linter.unusedSimpArgs false
namespace Go.Proofs.YtnhefallmioefaaGreat
open Go.RowKit Go.ChangeMaps Go.WideMaps Go.Maps
set_option maxRecDepth 20000
section
variable {w w':World} {A A' X X':List Nat} {r d l:Nat} {s s':Rp} {k k':Dk}
theorem EC (h:Nd w A X r d l s k) (hw:Wf s k) (m:OM) (v u:Value) (hm:OU w A m v u) (hlen:2<=m.N.length) (hle:m.N.getD 0 0<=s.Ow) (UJ:m.N.getD 1 0<=4611686018427387904) (hB:m.B.length<=1000000) (HC:Hid (jJ s m=false/\¬m.N.getD 0 0<s.Ow/\fN { s with Ox:=0 } (m.N.getD 1 0) (m.N.getD 2 0)=true)) :
  Calls Tryz.prog 73 #[.pointer (some ⟨r,0,none⟩),en m v u] w λe w'=>PE w w' A X r d l e (eA s k m):=by
 have Pe:Below w.heap.size w (w.alloc (.cells (cJ m v u) 83)):=(aG _ _).alloc (ah _) _;have h1:=h.below Pe;have QU:Hid (Mv A A X X w (w.alloc (.cells (cJ m v u) 83))):=af (Mv.below Pe);obtain ⟨b,off,c,ev,hlc⟩:=wo h.alt hm az;subst ev;obtain ⟨ub,bc,eu⟩:=oC hm.b;subst eu;have SY:(w.alloc (.cells (cJ m (.slice (some ⟨b,off,none⟩) m.N.length c) (.slice ub m.B.length bc)) 83)).cell? ⟨w.heap.size,0,none⟩=some (.int .i64 m.OD):=Bq;have Y7:(w.alloc (.cells (cJ m (.slice (some ⟨b,off,none⟩) m.N.length c) (.slice ub m.B.length bc)) 83)).cell? ⟨w.heap.size,3,none⟩=some (.slice (some ⟨b,off,none⟩) m.N.length c):=Bq;have hM4:(w.alloc (.cells (cJ m (.slice (some ⟨b,off,none⟩) m.N.length c) (.slice ub m.B.length bc)) 83)).cell? ⟨w.heap.size,4,none⟩=some (.slice ub m.B.length bc):=Bq;have Uu:=hlc.TD 0 az;have Sk:=hlc.TD 1 az;rw [eK] at Uu;obtain ⟨al,cl,Rq,PH,hl2⟩:=h1.Qd;obtain ⟨vl,gv0,gn0,gm0,gh0,hcell⟩:=h1.cells;have Re:(w.alloc (.cells (cJ m (.slice (some ⟨b,off,none⟩) m.N.length c) (.slice ub m.B.length bc)) 83)).cell? ⟨r,6,none⟩=some (.int .i64 s.Ow):=iI;have T9:(w.alloc (.cells (cJ m (.slice (some ⟨b,off,none⟩) m.N.length c) (.slice ub m.B.length bc)) 83)).cell? ⟨r,15,none⟩=some (.int .i64 (s.Ox:Int)):=iI;have TY:=aU hcell 15;have Qh:(w.alloc (.cells (cJ m (.slice (some ⟨b,off,none⟩) m.N.length c) (.slice ub m.B.length bc)) 83)).cell? ⟨r,11,none⟩=some (.bool s.Oy):=iI;have Ri:=af h1;have HW:=af hw;have HLC:=af hlc;have Zy:=af (wh (s:=s) (k:=k) m);have HOLD:=af (vZ (s:=s) (k:=k) m);have Wp:=af (rg (s:=s) (k:=k) m);have Wy:=af (wg (s:=s) (k:=k) m);have WC:Hid (jJ s m=(!(m.N.length==4+m.B.length)||decide (m.N.getD 1 0<0)||(m.N.getD 0 0==s.Ow&&s.Oy))):=af rfl;have TN:Hid (∀(W8:World) A8 X8 s8 k8,Nd W8 A8 X8 r d l s8 k8->∀W9,Below W8.heap.size W8 W9->∀dst kind N ao n c,Calls Tryz.prog 67 #[.pointer (some ⟨r,0,none⟩),.int .i64 dst,.int .i64 kind,.slice ao n c] W9 λe w2=>e = .returned (en (dQ s8 dst kind N) (.slice ao n c) (.slice none 0 0))/\Below W9.heap.size W9 w2):=af (λW8 A8 X8 s8 k8 h W9 hb dst kind N ao n c=>lK (h.below hb) dst kind N ao n c);have hl0:(0:Int)<(m.N.length:Int):=az;have hl1':(1:Int)<(m.N.length:Int):=az;have q1:IntKind.i64.wrap (4+(m.B.length:Int))=4+(m.B.length:Int):=IntWalk.i64_in _ az;have UQ:Hid (∃z,z=m.N):=af ⟨_,rfl⟩;clear h h1 hw hm hcell Pe hlc;unfold en cJ at *;go_enter Tryz.func73,Tryz.ntmps73
 go_upto_region 1 with (fail)
 generalize hWW:w.alloc (.cells #[.int .i64 m.OD,.int .i64 m.dst,.int .i64 m.kind,.slice (some ⟨b,off,none⟩) m.N.length c,.slice ub m.B.length bc] 83)=W at *;generalize hMM:w.heap.size=M at *;generalize hn0:m.N.getD 0 0=n0 at *;generalize PT:m.N.getD 1 0=n1 at *;generalize Pf:m.N.getD 2 0=n2 at *;generalize T5:m.N.getD 3 0=n3 at *;generalize PD:m.N.length=nl at *;generalize hbl:m.B.length=bl at *;have HDR:=af (λa b=>fg W a b);go_cut [40] (λv wx=>v = .bool (!(nl==4+bl)||decide (n1<0)||(n0==s.Ow&&s.Oy))/\∃q,wx=W.drewN q)
 case first =>
  exact N8
 case rest =>
 obtain ⟨rfl,q2,rfl⟩:=hcut;cases hno:(!(nl==4+bl)||decide (n1<0)||(n0==s.Ow&&s.Oy)) with
 | true =>
  exact absurd (WC.out.trans hno) (by rw [HC.out.1];decide)
 | false =>
  have Vn:=af (WC.out.trans hno);simp only [dw,gA,eP,cE,Bool.and_eq_false_imp] at hno;obtain ⟨⟨h4,h5⟩,h6⟩:=hno;subst h4;go_upto_region 3 with (fail)
  by_cases hold:n0<s.Ow
  ·exact absurd hold HC.out.2.1
  ·have g1:decide (n0<s.Ow)=false:=bp hold;have Xk:Hid (s.Oy=false):=af (h6 az);go_quiet (fail)
   go_upto_region 6 with (fail)
   (try rw [fg W q2 nq])
   have Uq:=HW.out.QV;have T4:r∈A:=Ri.out.xA r Ri.out.rX;have Vo:Hid (Py (W.drewN (q2+nq)) ((W.drewN (q2+nq)).setCell ⟨r,15,none⟩ (.int .i64 0)) A X r d l { s with Ox:=0 } k):=af (by
    refine Nd.TV (Ri.out.below (aB W (q2+nq))) ((Only.refl _ _).setCell bL _) ?_ rfl rfl rfl rfl rfl rfl;intro vl gv gn gm gh hc;rw [be hc];rfl)
   have SP:Hid (RI ((W.drewN (q2+nq)).setCell ⟨r,15,none⟩ (.int .i64 0)) A M m b off c (.slice ub bl bc)):=af ((HLC.out.below (aB W (q2+nq))).step (S:=[r]) ((Only.refl _ _).setCell bL _) (by simpa using T4) (Ext.refl _ _));have RJ:Hid (Only [r] (W.drewN (q2+nq)) ((W.drewN (q2+nq)).setCell ⟨r,15,none⟩ (.int .i64 0))):=af ((Only.refl _ _).setCell bL _);have HW5:Hid (Wf { s with Ox:=0 } k):=af (fF HW.out s.lives 0 s.OA s.OB (aH _) HW.out.vl (ah _));have HMD:Hid (Mv A A X X w (W.drewN (q2+nq))):=af (QU.out.trans (Mv.below (aB W (q2+nq))));clear Re Rq Qh T9 TY SY Y7 hM4 Uu Sk h6;generalize (W.drewN (q2+nq)).setCell ⟨r,15,none⟩ (.int .i64 0)=W5 at *;obtain ⟨A5,X5,h5n,m5⟩:=Vo.out;have Y6:∀x∈[r],x∈A:=by simpa using T4
   have SP:Hid (RI W5 A5 M m b off c (.slice ub bl bc)):=af ((HLC.out.below (aB W (q2+nq))).step RJ.out Y6 m5.ext);have M5:=af (HMD.out.trans m5);have H5:=af h5n;clear m5 RJ HMD Y6;have RZ:W5.drew.cell? ⟨M,3,none⟩=some (.slice (some ⟨b,off,none⟩) (4+bl) c):=by
    have h9:=ap SP.out.cell 3;exact D7
   have XD:W5.drew.cell? ⟨b,off+1,none⟩=some (.int .i64 n1):=by rw [<-PT];exact SP.out.TD 1 az
   have hn2c:W5.drew.cell? ⟨b,off+2,none⟩=some (.int .i64 n2):=by rw [<-Pf];exact SP.out.TD 2 az
   have h5d:Nd W5.drew A5 X5 r d l { s with Ox:=0 } k:=h5n.below (aB W5 1);have HFT:=af (wO h5d n1 n2 az (show s.Oz.length<=1000000 by omega));have hl2':(2:Int)<(4:Int)+(bl:Int):=az;have hl1b:(1:Int)<(4:Int)+(bl:Int):=az;have Wp:=af (Wp.out Vn.out hold);have Wy:=af (λf hf h3=>Wy.out f Vn.out hold h3 hf);generalize hs5:({ s with Ox:=0 }:Rp)=s5 at *;have ZX:Hid (s5.Ow=s.Ow/\s5.Oz=s.Oz/\s5.Oy=s.Oy):=af (by rw [<-hs5];exact ⟨rfl,rfl,rfl⟩);clear h5n hs5 hold h5d;go_cut [73] (λv wx=>v = .bool (!fN s5 n1 n2)/\wx=W5.drew)
   case first =>
    exact Ng
   case rest =>
   obtain ⟨rfl,rfl⟩:=hcut;have H6:Hid (Nd W5.drew A5 X5 r d l s5 k):=af (H5.out.below (aB W5 1));have HLC6:Hid (RI W5.drew A5 M m b off c (.slice ub bl bc)):=af (SP.out.below (aB W5 1));have M6:Hid (Mv A A5 X X5 w W5.drew):=af (M5.out.trans (Mv.below (aB W5 1)));clear HFT H5 M5 SP;generalize W5.drew=W6 at *;cases SJ:fN s5 n1 n2 with
   | false =>
    exact absurd SJ (by rw [HC.out.2.2];decide)
   | true =>
    obtain ⟨f,rfl⟩:∃f:Nat,n1=(f:Int):=⟨n1.toNat,by omega⟩
    have HE:=af (Wy.out f rfl SJ);have HFL:Hid (f<=s5.Oz.length):=af (by
     unfold fN at SJ;simp only [bu,aZ] at SJ;omega)
    have hm4:W6.cell? ⟨M,4,none⟩=some (.slice ub bl bc):=by
     exact (ap HLC6.out.cell 4).trans rfl
    have HL5:Hid (s5.Oy=false):=af (ZX.out.2.2.trans Xk.out);have HT5:Hid (s5.Ow=s.Ow):=af ZX.out.1;have HZ:=af (λj (hj:j<bl)=>Cm m j az az);have HZN:Hid (((m.N.drop 4).zip m.B).drop bl=[]):=af (nH G9);have HX56:=af H6.out.xA;generalize (m.N.drop 4).zip m.B=L at *;clear SJ hn2c Wp Wy ZX Xk;have WU:f<=87381:=by have:=HFL.out;have:=HW5.out.QV;omega
    go_wp2_with fail
    go_loopw [103] (λi wr=>∃(j:Nat) (sj:Rp) (kj:Dk),j<=bl/\i = .int .i64 (j:Int)/\Py W6 wr A5 X5 r d l sj kj/\Wf sj kj/\sj.Ow=s.Ow/\sj.Oy=false/\f+j<=sj.Oz.length/\bH f L 0 s5 k=bH f (L.drop j) j sj kj) (λi _=>bl - (intOf i).toNat)
    case atStart=>exact ⟨0,s5,k,aH _,rfl,H6.out.VJ (Mv.refl _ _ _),HW5.out,HT5.out,HL5.out,HFL.out,rfl⟩
    case round =>
     clear RZ XD hm4;obtain ⟨j,sj,kj,hj,rfl,hn,WK,UU,P9,XE,hlf⟩:=hrel;obtain ⟨A7,X7,h7,m7⟩:=hn;have Zp:=af (HLC6.out.step m7.mv.only HX56.out m7.ext);have H7:=af h7;have M7:=af (M6.out.trans m7);have N7:Hid (Mv A5 A7 X5 X7 W6 wr):=af m7;have HWJ:=af WK;have HLF:=af hlf;have HTM:=af UU;have HLDJ:=af P9;have hlbj:=WK.QV;have RZ:wr.cell? ⟨M,3,none⟩=some (.slice (some ⟨b,off,none⟩) (4+bl) c):=by
      have h9:=ap Zp.out.cell 3;exact D7
     have hm4:wr.cell? ⟨M,4,none⟩=some (.slice ub bl bc):=by
      exact (ap Zp.out.cell 4).trans rfl
     clear WK hlf UU P9 m7;by_cases hlt:j<bl
     ·have hNt:wr.cell? ⟨b,off+(4+j),none⟩=some (.int .i64 (m.N.getD (4+j) 0)):=Zp.out.TD (4+j) az;obtain ⟨g,bc2,ui,eub,hbc,Qw⟩:=NC Zp.out.bs j az;rw [hbl] at eub;simp only [Value.slice.injEq] at eub;obtain ⟨rfl,_,rfl⟩:=eub;have HIMM:=af Qw;obtain ⟨ar,rc,er,_⟩:=Qw;subst er;have HST:=af (HZ.out j hlt);generalize m.N.getD (4+j) 0=t at *;generalize SH:m.B.getD j []=rec at *;obtain ⟨al7,Qp⟩:=h7.Yy;obtain ⟨c7,Qp⟩:=Qp;have RG:=Qp.c8;obtain ⟨vl,gv,gn,gm,gh,hcell⟩:=h7.cells;have hk6:wr.cell? ⟨r,6,none⟩=some (.int .i64 s.Ow):=by rw [ap hcell,<-HTM.out];rfl
      have hk9:wr.cell? ⟨r,9,none⟩=some (.int .i64 (sj.agreed:Int)):=iI;have r1:IntKind.i64.wrap ((f:Int)+(j:Int))=(f:Int)+(j:Int):=IntWalk.i64_in _ az;have r2:IntKind.i64.wrap (4+(j:Int))=4+(j:Int):=IntWalk.i64_in _ az;have r3:IntKind.i64.wrap ((j:Int)+1)=(j:Int)+1:=IntWalk.i64_in _ az;have r4:(4:Int)+(j:Int)<4+(bl:Int):=az;have r5:(j:Int)<(bl:Int):=az;have r6:(0:Int)<=4+(j:Int):=az;have r7:(4+(j:Int)).toNat=4+j:=az;have r8:((f:Int)+(j:Int)).toNat=f+j:=az;have r9:(0:Int)<=(f:Int)+(j:Int):=az;clear hcell;by_cases O9:f+j<sj.Oz.length/\(sj.Oz.map Po.Ow).getD (f+j) 0=t
      ·as_aux_lemma =>
       obtain ⟨hin1,hin2⟩:=O9;have XN:Hid (bH f L 0 s5 k=bH f (L.drop (j+1)) (j+1) sj kj):=af (by
        rw [HLF.out,HST.out];simp only [bH];rw [ay ⟨hin1,hin2⟩])
       obtain ⟨p7,rfl⟩:∃p7,al7=some p7:=JF;obtain ⟨g7,rfl⟩:=Qp.form p7 rfl;obtain ⟨u7,hu7,_,_⟩:=Qp.at_ (f+j) hin1 g7 rfl;rw [hin2] at hu7;have r10:(f:Int)+(j:Int)<(sj.Oz.length:Int):=az;have ZU:decide ((f:Int)+(j:Int)<(sj.Oz.length:Int))=true:=aO r10;clear Qp hin2;generalize hsl7:sj.Oz.length=sl at *;go_wp2_with fail
       go_roundw
       case rel=>exact ⟨j+1,sj,kj,by omega,rfl,H7.out.VJ N7.out,HWJ.out,HTM.out,HLDJ.out,by omega,XN.out⟩
       case measure=>simp [intOf];omega
      ·as_aux_lemma =>
       have HCL:=af (λ(W':World) (hb:Below wr.heap.size wr W')=>HIMM.out.below hb);have Xl:Hid (Pg wr ar rec.length rc rec):=af (by
        obtain ⟨Wj,c',e,h1,_⟩:=HIMM.out;cases e;exact h1)
       have HSTP:Hid (bH f L 0 s5 k=if 8000<rec.length\/t<1\/s.Ow<t\/f+j<sj.agreed then (false,sj,kj) else (let p:=cR sj kj (f+j) ⟨t,rec⟩;if p.1 then bH f (L.drop (j+1)) (j+1) p.2.1 p.2.2 else (false,p.2))):=af (by
        rw [HLF.out,HST.out];simp only [bH];rw [am O9,HTM.out])
       have HPL:=af (λ(hx:rec.length<=8000) (W':World) (hb:Below wr.heap.size wr W') (u':Value) (hu:Qi W' A7 u' rec)=>AM (H7.out.below hb) HWJ.out (f+j) ((f:Int)+(j:Int)) az ⟨t,rec⟩ XE hx u' hu);have ZV:=af (λ(hx:rec.length<=8000) (ha:sj.agreed<=f+j)=>nJ HWJ.out (f+j) ⟨t,rec⟩ XE ha (λhl=>by rw [HLDJ.out] at hl;cases hl) hx);have Zi:=af (ky (s:=sj) (k:=kj) (f+j) ⟨t,rec⟩);have HPLN:=af (AL (s:=sj) (k:=kj) (f+j) ⟨t,rec⟩ XE);have HA7:=af h7.alt;have HOUT:Hid (eA s k m=if (bH f L 0 s5 k).1=true then _ else ([],(bH f L 0 s5 k).2)):=af HE.out;generalize QR:rec.length=rl at *;go_upto_region 13 with (fail)
       go_cut [136] (λv wx=>v = .bool false/\wx=wr)
       case first =>
        by_cases hlt1:f+j<sj.Oz.length
        ·have hne:(sj.Oz.map Po.Ow).getD (f+j) 0≠t:=λe=>O9 ⟨hlt1,e⟩;obtain ⟨p7,rfl⟩:∃p7,al7=some p7:=JF;obtain ⟨g7,rfl⟩:=Qp.form p7 rfl;obtain ⟨u7,hu7,_,_⟩:=Qp.at_ (f+j) hlt1 g7 rfl;have g11:((sj.Oz.map Po.Ow).getD (f+j) 0==t)=false:=by simpa using hne
         have r10:(f:Int)+(j:Int)<(sj.Oz.length:Int):=az;have ZU:decide ((f:Int)+(j:Int)<(sj.Oz.length:Int))=true:=aO r10;clear Qp hne O9;generalize (sj.Oz.map Po.Ow).getD (f+j) 0=t7 at *;exact Jj
        ·have r10:¬(f:Int)+(j:Int)<(sj.Oz.length:Int):=by omega
         have ZU:decide ((f:Int)+(j:Int)<(sj.Oz.length:Int))=false:=bp r10;clear Qp O9;exact Jj
       case rest =>
       obtain ⟨rfl,rfl⟩:=hcut;by_cases PF:8000<rl\/t<1\/s.Ow<t\/f+j<sj.agreed
       ·have Wz:Hid (eA s k m=([],sj,kj)):=af (by
         rw [HE.out,HSTP.out,ay PF];rfl)
        by_cases d1:8000<rl
        ·have d1':(8000:Int)<(rl:Int):=by omega
         exact GP
        ·have d1':¬(8000:Int)<(rl:Int):=by omega
         by_cases d2:t<1
         ·exact GP
         ·by_cases d3:s.Ow<t
          ·exact GP
          ·have d4:f+j<sj.agreed:=by
            rcases PF with h | h | h | h
            ·exact absurd h d1
            ·exact absurd h d2
            ·exact absurd h d3
            ·exact h
           have d4':(f:Int)+(j:Int)<(sj.agreed:Int):=az;clear PF;exact GP
       ·have d1:¬8000<rl:=λh=>PF (.inl h);have d2:¬t<1:=λh=>PF (.inr (.inl h));have d3:¬s.Ow<t:=λh=>PF (.inr (.inr (.inl h)));have d4:¬f+j<sj.agreed:=λh=>PF (.inr (.inr (.inr h)));have d1':¬(8000:Int)<(rl:Int):=az;have d4':¬(f:Int)+(j:Int)<(sj.agreed:Int):=az;have HSTQ:=af (HSTP.out.trans (am PF));have HWPK:=af (ZV.out az az);have HPLK:=af (HPL.out az);have d1h:Hid (rl<=8000):=af az;clear PF ZV HPL O9 Qp HSTP;unfold wP at HPLK
        (try simp only at HSTQ)
        generalize cR sj kj (f+j) ⟨t,rec⟩=pp at *;obtain ⟨ok,s9,k9⟩:=pp
        (try simp only at HSTQ);(try simp only at HPLK);(try simp only at HWPK);(try simp only at Zi);(try simp only at HPLN)
        go_wp2_with fail
        refine (F.dV ar rl rc rec _ Xl.out (by have:=d1h.out;omega)).mono ?_;rintro e w8 ⟨v8,rfl,TG,hb8⟩;have Zq:=af (Qi.new TG HA7.out);obtain ⟨a8,c8,e8,_⟩:=id Zq.out;rw [QR] at e8;subst e8;have Tr:=af hb8;clear TG hb8;go_wp2_with fail
        refine (HPLK.out w8 Tr.out _ Zq.out).mono ?_;rintro e w9 ⟨rfl,WQ⟩;have HN9:=af WQ;clear WQ;cases ok with
        | false =>
         have Wz:Hid (eA s k m=([],s9,k9)):=af (by
          have e:bH f L 0 s5 k=(false,s9,k9):=HSTQ.out.trans (am bL);rw [HE.out,e];rfl)
         go_wp2_with fail
         go_ret
         rw [Wz.out];exact PE.none (Py.trans (M7.out.trans (Mv.below Tr.out)) HN9.out)
        | true =>
         have HL9:=af (HPLN.out rfl);have HT9:Hid (s9.Ow=s.Ow/\s9.Oy=false):=af (by
          obtain ⟨w0,d0,l0,e0⟩:=Zi.out;rw [e0];exact ⟨HTM.out,HLDJ.out⟩)
         have XN:Hid (bH f L 0 s5 k=bH f (L.drop (j+1)) (j+1) s9 k9):=af (HSTQ.out.trans (ay rfl));go_wp2_with fail
         go_roundw
         case rel=>exact ⟨j+1,s9,k9,by omega,rfl,Py.trans (N7.out.trans (Mv.below Tr.out)) HN9.out,HWPK.out,HT9.out.1,HT9.out.2,by rw [HL9.out];omega,XN.out⟩
         case measure=>simp [intOf];omega
     ·as_aux_lemma =>
      obtain rfl:j=bl:=az;have XN:Hid (bH f L 0 s5 k=(true,sj,kj)):=af (by rw [HLF.out,HZN.out];rfl);have Wz:Hid (eA s k m=(let q:=if j=0 then (sj,kj) else cO sj kj
       if 0<j/\q.1.done=true then ([],q) else
       let s2:=cI q.1 (min n3 ((f+j:Nat):Int)).toNat
       ([dQ s2 m.OD 4 [s2.Ow,1,((f+j:Nat):Int)]],s2,q.2))):=af (by rw [HE.out,XN.out];rfl)
      have ZW:=af (qA H7.out);have HWSY:=af (qb HWJ.out);have HSSY:=af (fQ (s:=sj) (k:=kj));have Y3:(f:Int)+(j:Int)<=2000000:=by have:=HFL.out;omega
      have r1:IntKind.i64.wrap ((f:Int)+(j:Int))=(f:Int)+(j:Int):=IntWalk.i64_in _ az;clear HE HLF XN HZ HZN HFL Vn Zy HOLD WC
      (try simp only at Wz)
      go_upto_region 17 with (fail)
      by_cases P5:0<j/\(cO sj kj).1.done=true
      ·have hj0:¬j=0:=by omega
       have hj1:(0:Int)<(j:Int):=az;have Ug:Hid (eA s k m=([],cO sj kj)):=af (by
        rw [Wz.out,am hj0,ay P5])
       have PJ:=P5.2;clear P5 hj0;generalize cO sj kj=q9 at *;obtain ⟨s9,k9⟩:=q9
       (try simp only at ZW);(try simp only at PJ)
       rw [PJ] at ZW;go_wp2_with fail
       refine ZW.out.mono ?_;rintro e w9 ⟨rfl,WQ⟩;have HN9:=af WQ;clear WQ;go_wp2_with fail
       go_ret
       rw [Ug.out];exact PE.none (Py.trans M7.out HN9.out)
      ·go_cut [183] (λv wx=>v = .bool false/\∃s9 k9,Py wr wx A7 X7 r d l s9 k9/\Wf s9 k9/\s9.Oz=sj.Oz/\eA s k m=([dQ (cI s9 (min n3 ((f+j:Nat):Int)).toNat) m.OD 4 [(cI s9 (min n3 ((f+j:Nat):Int)).toNat).Ow,1,((f+j:Nat):Int)]],cI s9 (min n3 ((f+j:Nat):Int)).toNat,k9))
       case first =>
        by_cases hj0:j=0
        ·have hj1:¬(0:Int)<(j:Int):=by omega
         have Tv:¬0<j:=az;have Ug:=Wz.out;rw [ay hj0,am (λh=>by omega)] at Ug;have Ug:=af Ug;clear P5 hj0;go_wp2_with fail
         go_meet
         exact ⟨rfl,sj,kj,H7.out.VJ (Mv.refl _ _ _),HWJ.out,rfl,Ug.out⟩
        ·have hj1:(0:Int)<(j:Int):=by omega
         have PJ:(cO sj kj).1.done=false:=by
          cases hq:(cO sj kj).1.done with
          | false=>rfl
          | true=>exact absurd ⟨by omega,hq⟩ P5
         have Ug:=Wz.out;rw [am hj0,am P5] at Ug;have Ug:=af Ug;have Xj:Hid ((cO sj kj).1.Oz=sj.Oz):=af (by rw [fQ]);clear P5 hj0 HSSY;generalize cO sj kj=q9 at *;obtain ⟨s9,k9⟩:=q9
         (try simp only at ZW);(try simp only at PJ);(try simp only at HWSY);(try simp only at Xj)
         rw [PJ] at ZW;go_wp2_with fail
         refine ZW.out.mono ?_;rintro e w9 ⟨rfl,WQ⟩;have HN9:=af WQ;clear WQ;go_wp2_with fail
         go_meet
         exact ⟨rfl,s9,k9,HN9.out,HWSY.out,Xj.out,Ug.out⟩
       case rest =>
       obtain ⟨rfl,s9,k9,WQ,hw9,hlg9,he9⟩:=hcut;rename World=>Xa;obtain ⟨A9,X9,h9,m9⟩:=WQ;have XO:Hid (RI Xa.drew A9 M m b off c (.slice ub j bc)):=af ((Zp.out.step m9.mv.only H7.out.xA m9.ext).below (aB Xa 1));have H9:Hid (Nd Xa.drew A9 X9 r d l s9 k9):=af (h9.below (aB Xa 1));have M9:Hid (Mv A A9 X X9 w Xa.drew):=af ((M7.out.trans m9).trans (Mv.below (aB Xa 1)));have HE9:=af he9;have UF:min n3 (((f+j:Nat)):Int)=min n3 ((f:Int)+(j:Int)):=by rw [Int.natCast_add]
       have hlen9:f+j<=s9.Oz.length:=by rw [hlg9];exact XE
       have Xn:Hid (Calls Tryz.prog 98 #[.pointer (some ⟨r,0,none⟩),.int .i64 (min n3 ((f:Int)+(j:Int)))] Xa.drew λe w'=>Nd w' A9 X9 r d l (cI s9 (min n3 (((f+j:Nat)):Int)).toNat) k9/\Only [r] Xa.drew w'/\e = .returned (.tuple #[])):=af (by
        rw [UF];refine Cd H9.out _ az (by have:=hw9.QV;omega) ?_;rw [hw9.VK];unfold recs;rw [aW];exact aF (cX _ _) yd)
       have RZ:Xa.drew.cell? ⟨M,3,none⟩=some (.slice (some ⟨b,off,none⟩) (4+j) c):=by
        have h9:=ap XO.out.cell 3;rw [show (4+j)=m.N.length from PD.symm];exact h9
       have hm4:Xa.drew.cell? ⟨M,4,none⟩=some (.slice ub j bc):=(ap XO.out.cell 4).trans rfl;have hn3c:Xa.drew.cell? ⟨b,off+3,none⟩=some (.int .i64 n3):=by rw [<-T5];exact XO.out.TD 3 az
       have hrA9:r∈A9:=H9.out.xA r H9.out.rX;have hl3':(3:Int)<(4:Int)+(j:Int):=az;have HKA:Hid (∀w',Only [r] Xa.drew w'->w'.cell? ⟨M,3,none⟩=some (.slice (some ⟨b,off,none⟩) (4+j) c)/\w'.cell? ⟨M,4,none⟩=some (.slice ub j bc)/\w'.cell? ⟨b,off+3,none⟩=some (.int .i64 n3)):=af (λw' ho=>by
        have e1:M∉[r]:=by simp;intro e;exact XO.out.nM (e ▸ hrA9)
        have e2:b∉[r]:=by simp;intro e;exact XO.out.nb (e ▸ hrA9)
        exact ⟨ho.cell RZ e1,ho.cell hm4 e1,ho.cell hn3c e2⟩)
       clear h9 m9 hw9 hlg9 he9 P5;generalize hs2:cI s9 (min n3 (((f+j:Nat)):Int)).toNat=s2 at *;go_upto_region 19 with (fail)
       go_cut [] (λwx=>Nd wx A9 X9 r d l s2 k9/\Only [r] Xa.drew wx)
       case first =>
        refine wp_region_held_drew (S:=λw'=>w'.cell? ⟨M,3,none⟩=some (.slice (some ⟨b,off,none⟩) (4+j) c)/\w'.cell? ⟨M,4,none⟩=some (.slice ub j bc)/\w'.cell? ⟨b,off+3,none⟩=some (.int .i64 n3)) dW ⟨RZ,hm4,hn3c⟩ (λaD=>?_);refine aJ 0 ?_;refine aJ 1 ?_;refine aJ 2 ?_;refine aJ 3 ?_;refine aJ 4 ?_;refine aJ 5 ?_;refine aJ 6 ?_;refine aJ 7 ?_;refine aJ 8 ?_;refine aJ 9 ?_;refine aJ 10 ?_;generalize Xa.drew=V19 at *;refine dh 11 λK hK=>?_;go_simp
        refine Xn.out.mono ?_;rintro e W20 ⟨hn20,VQ,rfl⟩;have HN20:=af hn20;have HO20:=af VQ;have hk20:=HKA.out _ VQ;clear hn20 VQ;go_wp2_with fail
        refine hK.out _ _ hk20 (λaD=>?_);clear hK K;refine bX ?_;refine iX ?_;clear aD;go_wp2_with fail
        go_meet
        exact ⟨HN20.out,HO20.out⟩
       case rest =>
       obtain ⟨h20,VQ⟩:=hcut;rename World=>W20;have HLC20:Hid (RI W20.drew A9 M m b off c (.slice ub j bc)):=af ((XO.out.step VQ (by simpa using hrA9) (Ext.refl _ _)).below (aB W20 1));have M20:=af (M9.out.trans (Mv.only (A:=A9) (X:=X9) VQ (by simpa using H9.out.rX)));go_upto_region 20 with (fail)
       obtain ⟨PQ,Q9⟩:∃PQ,PQ=s2.Ow:=⟨_,rfl⟩
       obtain ⟨s8,TR⟩:∃s8,s8=s2:=⟨_,rfl⟩
       obtain ⟨k8,RG⟩:∃k8,k8=k9:=⟨_,rfl⟩
       obtain ⟨A8,Wh⟩:∃A8,A8=A9:=⟨_,rfl⟩
       obtain ⟨X8,V7⟩:∃X8,X8=X9:=⟨_,rfl⟩
       obtain ⟨bl,Y0⟩:∃bl,bl=j:=⟨_,rfl⟩
       have h8:Nd W20.drew A8 X8 r d l s8 k8:=by rw [TR,RG,Wh,V7];exact h20.below (aB _ 1)
       have M8:Hid (Mv A A8 X X8 w W20.drew):=af (by rw [Wh,V7];exact M20.out.trans (Mv.below (aB _ 1)));have hMV:W20.drew.cell? ⟨M,0,none⟩=some (.int .i64 m.OD):=(ap HLC20.out.cell 0).trans rfl;have hm4:W20.drew.cell? ⟨M,4,none⟩=some (.slice ub bl bc):=by rw [Y0];exact (ap HLC20.out.cell 4).trans rfl
       have Xx:W20.drew.cell? ⟨r,6,none⟩=some (.int .i64 PQ):=Jp;have HE:Hid (eA s k m=([dQ s8 m.OD 4 [PQ,1,(f:Int)+(bl:Int)]],s8,k8)):=af (by rw [TR,RG,Q9,Y0,HE9.out,Int.natCast_add]);have r1:IntKind.i64.wrap ((f:Int)+(bl:Int))=(f:Int)+(bl:Int):=by rw [Y0];exact r1
       clear Q9 TR RG Wh V7 h20 VQ hs2;rw [<-Y0] at *;clear Y0;generalize W20=W8 at *;have Tz:Hid (∀W',Below W8.drew.heap.size W8.drew W'->W'.cell? ⟨M,0,none⟩=some (.int .i64 m.OD)/\W'.cell? ⟨r,6,none⟩=some (.int .i64 PQ)/\W'.cell? ⟨M,4,none⟩=some (.slice ub bl bc)):=af (λW' hb=>⟨cell_later hb hMV,cell_later hb Xx,cell_later hb hm4⟩);have Rv:=af (TN.out _ _ _ _ _ h8);have ZC:=af h8.alt;have QZ:Hid (∀o,Below W8.drew.heap.size W8.drew (W8.drew.alloc o)):=af (λo=>(aG _ _).alloc (ah _) o);have Tp:Hid (∀RH vv N,Below W8.drew.heap.size W8.drew RH->PB RH A8 vv N->PE w (RH.alloc (.cells (cJ (dQ s8 m.OD 4 N) vv (.slice none 0 0)) 83)) A X r d l (.returned (.slice (some ⟨RH.heap.size,0,none⟩) 1 1)) ([dQ s8 m.OD 4 N],s8,k8)):=af (λRH vv N hb hi=>PE.trans M8.out (mL h8 hb (dQ s8 m.OD 4 N) vv (.slice none 0 0) ⟨hi,.inl ⟨rfl,rfl⟩⟩));unfold cJ at Tp;refine wp_region_held_drew (S:=λw'=>w'.cell? ⟨M,0,none⟩=some (.int .i64 m.OD)/\w'.cell? ⟨r,6,none⟩=some (.int .i64 PQ)/\w'.cell? ⟨M,4,none⟩=some (.slice ub bl bc)) dW (Tz.out _ (aG _ _)) (λaD=>?_);refine aJ 0 ?_;refine aJ 1 ?_;refine aJ 2 ?_;refine aJ 3 ?_;refine aJ 4 ?_;refine aJ 5 ?_;refine aJ 6 ?_;refine aJ 7 ?_;refine aJ 8 ?_;refine aJ 9 ?_;refine aJ 10 ?_;refine aJ 11 ?_;generalize W8.drew=V8 at *;refine dh 12 λK hK=>?_;go_simp
       refine hK.out _ _ (Tz.out _ (QZ.out (.cells #[.int .i64 PQ,.int .i64 1,.int .i64 ((f:Int)+(bl:Int))] 2))) (λaD=>?_);clear hK K;refine bX ?_;have Zq:Hid (PB (V8.alloc (.cells #[.int .i64 PQ,.int .i64 1,.int .i64 ((f:Int)+(bl:Int))] 2)) A8 (.slice (some ⟨V8.heap.size,0,none⟩) 3 3) [PQ,1,(f:Int)+(bl:Int)]):=af (PB.fresh [PQ,1,(f:Int)+(bl:Int)] _ rfl 2 3 rfl az ZC.out);have Tr:=af (QZ.out (.cells #[.int .i64 PQ,.int .i64 1,.int .i64 ((f:Int)+(bl:Int))] 2));generalize V8.alloc (.cells #[.int .i64 PQ,.int .i64 1,.int .i64 ((f:Int)+(bl:Int))] 2)=V9 at *;refine dh 13 λK hK=>?_;go_simp
       refine (Rv.out _ Tr.out _ _ [PQ,1,(f:Int)+(bl:Int)] _ _ _).mono ?_;rintro e RH ⟨rfl,R6⟩;have Rx:=af (Tr.out.trans (R6.mono Tr.out.size));have Zr:=af (Zq.out.below R6);clear R6;go_wp2_with fail
       refine hK.out _ _ (Tz.out _ Rx.out) (λaD=>?_);clear hK K;refine bX ?_;refine dh 14 λK hK=>?_
       (try unfold en)
       go_simp
       refine hK.out _ _ (Tz.out _ (Rx.out.alloc Rx.out.size _)) (λaD=>?_);clear hK K;refine bX ?_;refine aJ 15 ?_;exact KG
end
end Go.Proofs.YtnhefallmioefaaGreat
