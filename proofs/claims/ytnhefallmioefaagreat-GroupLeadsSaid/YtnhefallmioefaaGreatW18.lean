/- What the law leans on. No condition. -/
import Derived.Test.YtnhefallmioefaaGreatW0
import Derived.Test.YtnhefallmioefaaGreatW1
import Derived.Test.YtnhefallmioefaaGreatW16
import Derived.Test.YtnhefallmioefaaGreatW17
set_option maxHeartbeats 8000000
set_option linter.unusedVariables false
set_option linter.unusedSimpArgs false
namespace Go.Proofs.YtnhefallmioefaaGreat
open Go.RowKit Go.ChangeMaps Go.WideMaps Go.Maps
set_option maxRecDepth 20000
def Da (s:Rp) (k:Dk) (m:OM):List OM×Rp×Dk :=
 if m.kind=1 then eX s k m
 else if m.kind=2 then fS s k m
 else if m.kind=3 then eA s k m
 else if m.kind=4 then ((cG s m).1,(cG s m).2,k)
 else if m.kind=5 then (if m.N.length=3 then ([],{ s with heard:=s.heard.set m.OD.toNat ((s.OA:Int),m.N.getD 1 0,m.N.getD 2 0)},k) else ([],s,k))
 else ([],s,k)
theorem zP (s0:Rp) (k0:Dk) (m:OM):gJ s0 k0 m=if (bw s0 k0).done||pD (bw s0 k0) m then ([],bw s0 k0,k0) else
 let p:=if (bw s0 k0).Ow<m.N.getD 0 0 then bB (bw s0 k0) k0 (m.N.getD 0 0) (-1) else (true,bw s0 k0,k0)
 if p.1 then Da p.2.1 p.2.2 m else ([],p.2):=rfl
section
variable {w w':World} {A A' X X' D L R:List Nat} {r d l:Nat} {s s':Rp} {k k':Dk} {vl:Value} {gv gn gm gh:Nat}
theorem QK.new_heard (h:QK w A D L R r d l s k vl gv gn gm gh) (ho:Only [gh] w w') (l2:List (Int×Int×Int)) (hc:w'.heap[gh]? = some (.cells (fZ l2) 117 (0,0))):QK w' A D L R r d l { s with heard:=l2 } k vl gv gn gm gh:=by
 have hS:∀b∈[gh],b∈R:=λb hb=>by rw [aj.1 hb];exact h.hR
 exact ⟨h.Ry ho hS,ho.keeps h.cell (by simpa using cQ h.cell h.heard dZ),h.Oz.step ho (λb hb=>h.rA b (hS b hb)) (Ext.refl _ _),ho.keeps h.OB (by simpa using cQ h.OB h.heard dZ),
  ho.keeps h.next (by simpa using cQ h.next h.heard dZ),ho.keeps h.OE (by simpa using cQ h.OE h.heard dZ),hc,h.nm,h.rR,h.vR,h.nR,h.mR,h.hR,h.Yi,h.Yh,h.rA⟩
theorem wz (l:List (Int×Int×Int)) (i:Nat) (x:Int×Int×Int) (h:i<l.length):(((fZ l).setIfInBounds (i*3) (.int .i64 x.1)).setIfInBounds (i*3+1) (.int .i64 x.2.1)).setIfInBounds (i*3+2) (.int .i64 x.2.2)=fZ (l.set i x):=yy l i x h
theorem wy (l:List (Int×Int×Int)):(fZ l).size=l.length*3:=by
 unfold fZ;induction l with
 | nil=>rfl
 | cons a l ih =>
  simp only [nG,List.size_toArray,aE,aX] at ih ⊢;rw [ih];simp [pa];omega
theorem Fd (h:Nd w A X r d l s k) (hw:Wf s k) (m:OM) (v u:Value) (hm:OU w A m v u) (P5:eG s k=false) (Ut:pD (bw s k) m=false) (UJ:m.N.getD 1 0<=4611686018427387904) (hB:m.B.length<=1000000) (hlm:m.N.length<=1000000000) :
  Calls Tryz.prog 40 #[.pointer (some ⟨r,0,none⟩),en m v u] w λe w'=>PE w w' A X r d l e (gJ s k m):=by
 have Pe:Below w.heap.size w (w.alloc (.cells (cJ m v u) 83)):=(aG _ _).alloc (ah _) _;have h1:=h.below Pe;have hmw:=hm.below Pe;obtain ⟨ao,c,ev,_⟩:=id hm.n;subst ev;obtain ⟨ub,bc,eu⟩:=oC hm.b;subst eu;have HRX:=af h.rX;have hMA:w.heap.size∉A:=λhb=>by have:=h.alt _ hb;omega
 have T4:r∈A:=h.xA r h.rX;have ZR:w.heap.size∉[r]:=by
  simp;intro e;exact hMA (e ▸ T4)
 have P0:=aV w (.cells (cJ m (.slice ao m.N.length c) (.slice ub m.B.length bc)) 83);have QU:Hid (Mv A A X X w (w.alloc (.cells (cJ m (.slice ao m.N.length c) (.slice ub m.B.length bc)) 83)).drew):=af ((Mv.below Pe).trans (Mv.below (aB _ 1)));have h1d:Nd (w.alloc (.cells (cJ m (.slice ao m.N.length c) (.slice ub m.B.length bc)) 83)).drew A X r d l s k:=h1.below (aB _ 1);have UR:=af (ke h1d);have Zv:Hid (∀W s9,Nd W A X r d l s9 k->s9.own=s.own->s9.n=s.n->W.cell? ⟨r,0,none⟩=some (.int .i64 (s.own:Int))/\W.cell? ⟨r,1,none⟩=some (.int .i64 (s.n:Int))):=af (λW s9 h9 e1 e2=>by
  obtain ⟨vl,gv,gn,gm,gh,hcell⟩:=h9.cells;exact ⟨by rw [ap hcell,<-e1];rfl,by rw [ap hcell,<-e2];rfl⟩)
 have SG:Hid ((w.alloc (.cells (cJ m (.slice ao m.N.length c) (.slice ub m.B.length bc)) 83)).drew.cell? ⟨w.heap.size,0,none⟩=some (.int .i64 m.OD)/\(w.alloc (.cells (cJ m (.slice ao m.N.length c) (.slice ub m.B.length bc)) 83)).drew.cell? ⟨w.heap.size,1,none⟩=some (.int .i64 m.dst)/\(w.alloc (.cells (cJ m (.slice ao m.N.length c) (.slice ub m.B.length bc)) 83)).drew.cell? ⟨w.heap.size,3,none⟩=some (.slice ao m.N.length c)/\(w.alloc (.cells (cJ m (.slice ao m.N.length c) (.slice ub m.B.length bc)) 83)).drew.cell? ⟨r,0,none⟩=some (.int .i64 (s.own:Int))/\(w.alloc (.cells (cJ m (.slice ao m.N.length c) (.slice ub m.B.length bc)) 83)).drew.cell? ⟨r,1,none⟩=some (.int .i64 (s.n:Int))):=af
  ⟨(ap P0 0).trans rfl,(ap P0 1).trans rfl,(ap P0 3).trans rfl,(Zv.out _ _ h1d rfl rfl).1,(Zv.out _ _ h1d rfl rfl).2⟩
 have Tm:Hid (∀w',Only [r] (w.alloc (.cells (cJ m (.slice ao m.N.length c) (.slice ub m.B.length bc)) 83)).drew w'->Nd w' A X r d l (bw s k) k->w'.cell? ⟨w.heap.size,0,none⟩=some (.int .i64 m.OD)/\w'.cell? ⟨w.heap.size,1,none⟩=some (.int .i64 m.dst)/\w'.cell? ⟨w.heap.size,3,none⟩=some (.slice ao m.N.length c)/\w'.cell? ⟨r,0,none⟩=some (.int .i64 (s.own:Int))/\w'.cell? ⟨r,1,none⟩=some (.int .i64 (s.n:Int))):=af (λw' ho hn =>
  ⟨ho.cell SG.out.1 ZR,ho.cell SG.out.2.1 ZR,ho.cell SG.out.2.2.1 ZR,(Zv.out _ _ hn rfl rfl).1,(Zv.out _ _ hn rfl rfl).2⟩)
 have HNUM:Hid (1<=m.N.length->∃b off,ao=some ⟨b,off,none⟩/\Hid ((w.alloc (.cells (cJ m (.slice ao m.N.length c) (.slice ub m.B.length bc)) 83)).drew.cell? ⟨b,off,none⟩=some (.int .i64 (m.N.getD 0 0)))/\Hid (∀w',Only [r] (w.alloc (.cells (cJ m (.slice ao m.N.length c) (.slice ub m.B.length bc)) 83)).drew w'->w'.cell? ⟨b,off,none⟩=some (.int .i64 (m.N.getD 0 0)))):=af (λhl=>by
  obtain ⟨b,off,c9,Q5⟩:=AX hmw.n az;have e9:=Q5.v;simp only [Value.slice.injEq] at e9;obtain ⟨rfl,_,rfl⟩:=e9;have h0:=Q5.at_ 0 az;rw [eK] at h0;have hbr:b∉[r]:=by
   obtain ⟨Wj,c',e,_,_,_,h3⟩:=hm.n;cases e;simp;intro e;exact (h3 _ rfl).1 (e ▸ T4)
  exact ⟨b,off,rfl,af h0,af (λw' ho=>ho.cell h0 hbr)⟩)
 have hE:gJ s k m=(let p:=if (bw s k).Ow<m.N.getD 0 0 then bB (bw s k) k (m.N.getD 0 0) (-1) else (true,bw s k,k)
  if p.1 then Da p.2.1 p.2.2 m else ([],p.2)):=by
  rw [zP,am (by rw [Ut];show ¬(eG s k||false)=true;rw [P5];decide)]
 have HE:=af hE;have hbd2:(!(m.dst==(s.own:Int))||m.OD==(s.own:Int)||decide (m.OD<0)||decide ((s.n:Int)<=m.OD)||decide (m.N.length<2)||decide (m.N.getD 0 0<1)||decide (1099511627776<m.N.getD 0 0))=false:=Ut;simp only [dw,gA,eP,cE] at hbd2;obtain ⟨⟨⟨⟨⟨⟨c0,c1⟩,c2⟩,c3⟩,c4⟩,c5⟩,c6⟩:=hbd2;have c1:(m.OD==(s.own:Int))=false:=c1;have Ze:=af (iC hw);have HMG:=af (hmw.below (aB _ 1));have HBX:Hid ((w.alloc (.cells (cJ m (.slice ao m.N.length c) (.slice ub m.B.length bc)) 83)).drew.heap[w.heap.size]? = some (.cells (cJ m (.slice ao m.N.length c) (.slice ub m.B.length bc)) 83 (0,0))):=af P0;have HMA:=af hMA;have HMR:=af ZR;have HRA:=af T4;have HSN:Hid ((bw s k).n=s.n/\(bw s k).own=s.own):=af ⟨rfl,rfl⟩;have g0:(m.dst != (s.own:Int))=false:=by simpa using c0
 have g2:decide (m.OD<0)=false:=bp c2;have g3:decide ((s.n:Int)<=m.OD)=false:=bp c3;have g4:decide ((m.N.length:Int)<2)=false:=bp az;have e4:¬(m.N.length:Int)<2:=az;have el0:(0:Int)<(m.N.length:Int):=az;have el1:0<m.N.length:=az;have g5:decide (m.N.getD 0 0<1)=false:=bp c5;have g6:decide (1099511627776<m.N.getD 0 0)=false:=bp c6;obtain ⟨b,off,hao,HN0,HKN⟩:=HNUM.out az;subst hao;have SG:Hid (_/\_/\_/\_/\_/\_):=af ⟨SG.out.1,SG.out.2.1,SG.out.2.2.1,SG.out.2.2.2.1,SG.out.2.2.2.2,HN0.out⟩;have Tm:=af (λw' (ho:Only [r] (w.alloc (.cells (cJ m (.slice (some ⟨b,off,none⟩) m.N.length c) (.slice ub m.B.length bc)) 83)).drew w') (hn:Nd w' A X r d l (bw s k) k)=>(⟨(Tm.out w' ho hn).1,(Tm.out w' ho hn).2.1,(Tm.out w' ho hn).2.2.1,(Tm.out w' ho hn).2.2.2.1,(Tm.out w' ho hn).2.2.2.2,HKN.out w' ho⟩:_/\_/\_/\_/\_/\_));rw [P5] at UR;clear h h1 hm hmw Pe P0 h1d Zv hMA T4 ZR hw P5 Ut hE c0 HNUM HN0 HKN;generalize hn0:m.N.getD 0 0=n0 at *;have HN0E:=af hn0;clear hn0;unfold en cJ at *;go_enter Tryz.func40,Tryz.ntmps40
 go_upto_region 1 with (fail)
 generalize w.alloc (.cells #[.int .i64 m.OD,.int .i64 m.dst,.int .i64 m.kind,.slice (some ⟨b,off,none⟩) m.N.length c,.slice ub m.B.length bc] 83)=W1 at *;generalize w.heap.size=M at *;generalize hs1:bw s k=s1 at *;have Xh:=af hs1;clear hs1;go_cut [58] (λv wx=>v = .bool false/\Nd wx A X r d l s1 k/\Only [r] W1.drew wx)
 case first =>
  exact Ob
 case rest =>
 obtain ⟨rfl,Pf,OZ⟩:=hcut;rename World=>W2;have H2:=af Pf;have O5:=af (OZ.keeps HBX.out HMR.out);have HMS2:=af (HMG.out.step OZ (by simpa using HRA.out) (Ext.refl _ _));have M2:Hid (Mv A A X X w W2):=af (QU.out.trans (Mv.only OZ (by simpa using HRX.out)));have RZ:W2.drew.cell? ⟨M,3,none⟩=some (.slice (some ⟨b,off,none⟩) m.N.length c):=(ap O5.out 3).trans rfl;have YK:W2.drew.cell? ⟨b,off,none⟩=some (.int .i64 n0):=(Tm.out W2 OZ Pf).2.2.2.2.2;obtain ⟨vl2,gv2,gn2,gm2,gh2,YX⟩:=Pf.cells;have Xx:W2.drew.cell? ⟨r,6,none⟩=some (.int .i64 s1.Ow):=by
  have h9:=ap YX 6;exact h9.trans rfl
 have HXA2:=af Pf.xA;clear Pf OZ YX UR SG Tm HBX QU HMR;have Xm:=af (λV (hb:Below W2.heap.size W2 V)=>pz (H2.out.below hb) Ze.out n0 (-1));have HWE:=af (jP Ze.out n0 (-1) az az az (by have:=Ze.out.n1;omega));have HEE:=af (Ij (s:=s1) (k:=k) n0 (-1));go_upto_region 3 with (fail)
 go_cut [76] (λv wx=>∃p:Bool×Rp×Dk,p=(if s1.Ow<n0 then bB s1 k n0 (-1) else (true,s1,k))/\v = .bool (!p.1)/\Py W2 wx A X r d l p.2.1 p.2.2)
 case first =>
  as_aux_lemma =>
  by_cases hlt:s1.Ow<n0
  ·have glt:decide (s1.Ow<n0)=true:=aO hlt;have Xm:=af (Xm.out W2.drew (aB W2 1));have HMD:Hid (Mv A A X X W2 W2.drew):=af (Mv.below (aB W2 1));have HK4F:Hid (∀w4 s4 k4,Py W2.drew w4 A X r d l s4 k4->w4.cell? ⟨M,3,none⟩=some (.slice (some ⟨b,off,none⟩) m.N.length c)/\w4.cell? ⟨b,off,none⟩=some (.int .i64 n0)):=af (λw4 s4 k4 hn=>by
    obtain ⟨A4,X4,h4,m4⟩:=hn;have hb4:W2.drew.heap[M]? = _:=O5.out;refine ⟨(ap (m4.mv.only.keeps hb4 (λhm=>HMA.out (HXA2.out _ hm))) 3).trans rfl,m4.mv.only.cell YK (λhm=>?_)⟩;obtain ⟨Wj,c',e,_,_,_,h3⟩:=HMS2.out.n;cases e;exact (h3 _ rfl).1 (HXA2.out _ hm))
   clear HWE HEE H2;have HIF:Hid (bB s1 k n0 (-1)=if s1.Ow<n0 then bB s1 k n0 (-1) else (true,s1,k)):=af (ay hlt).symm;generalize bB s1 k n0 (-1)=p at *;obtain ⟨ok,s3,k3⟩:=p
   (try simp only at Xm)
   refine wp_region_held_drew (S:=λw'=>w'.cell? ⟨M,3,none⟩=some (.slice (some ⟨b,off,none⟩) m.N.length c)/\w'.cell? ⟨b,off,none⟩=some (.int .i64 n0)) dW ⟨RZ,YK⟩ (λaD=>?_);refine aJ 0 ?_;refine aJ 1 ?_;refine aJ 2 ?_;refine aJ 3 ?_;refine aJ 4 ?_;refine aJ 5 ?_;refine aJ 6 ?_;generalize W2.drew=V2 at *;refine dh 7 λK hK=>?_;go_simp
   refine hK.out _ _ aD (λaD=>?_);clear hK K;refine bX ?_;refine aJ 8 ?_;refine aJ 9 ?_;refine aJ 10 ?_;refine aJ 11 ?_;refine aJ 12 ?_;refine aJ 13 ?_;refine aJ 14 ?_;refine dh 15 λK hK=>?_;go_simp
   refine Xm.out.mono ?_;rintro e w4 ⟨rfl,Vu⟩;have Zo:=af Vu;have Yp:=af (HK4F.out _ _ _ Vu);clear Vu;go_wp2_with fail
   refine hK.out _ _ Yp.out (λaD=>?_);clear hK K;refine bX ?_;refine aJ 16 ?_;refine aJ 17 ?_;refine iX ?_;clear aD;go_wp2_with fail
   go_meet
   exact ⟨(ok,s3,k3),HIF.out,rfl,Py.trans HMD.out Zo.out⟩
  ·have HIF:Hid ((true,s1,k)=if s1.Ow<n0 then bB s1 k n0 (-1) else (true,s1,k)):=af (by rw [am hlt]);have glt:decide (s1.Ow<n0)=false:=bp hlt;have RZ:W2.cell? ⟨M,3,none⟩=some (.slice (some ⟨b,off,none⟩) m.N.length c):=RZ;have YK:W2.cell? ⟨b,off,none⟩=some (.int .i64 n0):=YK;have Xx:W2.cell? ⟨r,6,none⟩=some (.int .i64 s1.Ow):=Xx;go_quiet (fail)
   go_wp2_with fail
   go_meet
   exact ⟨_,HIF.out,rfl,(H2.out.below (aB W2 nq)).VJ (Mv.below (aB W2 nq))⟩
 case rest =>
 obtain ⟨p,hp,rfl,T5⟩:=hcut;rename World=>W3;have HP3:Hid (Wf p.2.1 p.2.2/\p.2.1.n=s.n/\p.2.1.own=s.own/\(p.1=true->n0<=p.2.1.Ow)):=af (by
  rw [hp];by_cases hlt:s1.Ow<n0
  ·rw [ay hlt];exact ⟨HWE.out,HEE.out.1.trans HSN.out.1,HEE.out.2.1.trans HSN.out.2,λh=>by rw [HEE.out.2.2 h];exact aP _⟩
  ·rw [am hlt];exact ⟨Ze.out,HSN.out.1,HSN.out.2,λ_=>by show n0<=s1.Ow;omega⟩)
 have Ug:Hid (gJ s k m=if p.1 then Da p.2.1 p.2.2 m else ([],p.2)):=af (by rw [HE.out,hp]);have Xi:=af T5;clear hp T5 Xm HWE HEE HE Ze Xx RZ YK;obtain ⟨ok,s3,k3⟩:=p
 (try simp only at HP3);(try simp only at Ug);(try simp only at Xi)
 cases ok with
 | false =>
  rw [am dZ] at Ug;have HF:Hid (PE w W3 A X r d l (.returned (.slice none 0 0)) ([],s3,k3)):=af (PE.none (Py.trans M2.out Xi.out));go_wp2_with fail
  go_ret
  rw [Ug.out];exact HF.out
 | true =>
  rw [ay rfl] at Ug;obtain ⟨A3,X3,h3,m3⟩:=Xi.out;have H3:=af h3;have M3:=af (M2.out.trans m3);have Pk:=af (m3.mv.only.keeps O5.out (λhm=>HMA.out (HXA2.out _ hm)));have XM:=af (HMS2.out.step m3.mv.only HXA2.out m3.ext);have HMA3:Hid (M∉A3):=af (λhm=>by
   rcases m3.ext _ hm with h1 | h1
   ·exact HMA.out h1
   ·have:=bg O5.out;omega)
  have SN:=af HP3.out.1;obtain ⟨fr,T7⟩:∃fr:Nat,m.OD=(fr:Int):=⟨m.OD.toNat,by omega⟩
  have Z0:=af T7;have HFN:Hid (fr<s3.n):=af (by rw [HP3.out.2.1];omega);have Yo:Hid (m.N.getD 0 0<=s3.Ow):=af (by rw [HN0E.out];exact HP3.out.2.2.2 rfl);have HLEN:Hid (2<=m.N.length):=af az;have Qb:W3.cell? ⟨M,2,none⟩=some (.int .i64 m.kind):=(ap Pk.out 2).trans rfl;have WR:W3.cell? ⟨M,0,none⟩=some (.int .i64 m.OD):=(ap Pk.out 0).trans rfl;have Uo:W3.cell? ⟨M,1,none⟩=some (.int .i64 m.dst):=(ap Pk.out 1).trans rfl;have RZ:W3.cell? ⟨M,3,none⟩=some (.slice (some ⟨b,off,none⟩) m.N.length c):=(ap Pk.out 3).trans rfl;have hm4:W3.cell? ⟨M,4,none⟩=some (.slice ub m.B.length bc):=(ap Pk.out 4).trans rfl;have HASK:Hid (Calls Tryz.prog 71 #[.pointer (some ⟨r,0,none⟩),.agg #[.int .i64 m.OD,.int .i64 m.dst,.int .i64 m.kind,.slice (some ⟨b,off,none⟩) m.N.length c,.slice ub m.B.length bc]] W3 λe w'=>PE W3 w' A3 X3 r d l e (eX s3 k3 m)):=af (Cb h3 SN.out m _ _ XM.out az (by rw [Z0.out];exact_mod_cast HFN.out));have HVOT:Hid (Calls Tryz.prog 72 #[.pointer (some ⟨r,0,none⟩),.agg #[.int .i64 m.OD,.int .i64 m.dst,.int .i64 m.kind,.slice (some ⟨b,off,none⟩) m.N.length c,.slice ub m.B.length bc]] W3 λe w'=>PE W3 w' A3 X3 r d l e (fS s3 k3 m)):=af (Ah h3 SN.out m _ _ XM.out fr Z0.out HFN.out HLEN.out);have HLAY:Hid (Calls Tryz.prog 73 #[.pointer (some ⟨r,0,none⟩),.agg #[.int .i64 m.OD,.int .i64 m.dst,.int .i64 m.kind,.slice (some ⟨b,off,none⟩) m.N.length c,.slice ub m.B.length bc]] W3 λe w'=>PE W3 w' A3 X3 r d l e (eA s3 k3 m)):=af (EG h3 SN.out m _ _ XM.out HLEN.out Yo.out UJ hB);have HANS:Hid (Calls Tryz.prog 74 #[.pointer (some ⟨r,0,none⟩),.agg #[.int .i64 m.OD,.int .i64 m.dst,.int .i64 m.kind,.slice (some ⟨b,off,none⟩) m.N.length c,.slice ub m.B.length bc]] W3 λe w'=>PE W3 w' A3 X3 r d l e ((cG s3 m).1,(cG s3 m).2,k3)):=af (uE h3 SN.out m _ _ XM.out fr Z0.out HFN.out HLEN.out);have TP:Hid (Da s3 k3 m=if m.kind=1 then eX s3 k3 m else if m.kind=2 then fS s3 k3 m else if m.kind=3 then eA s3 k3 m else if m.kind=4 then ((cG s3 m).1,(cG s3 m).2,k3) else if m.kind=5 then (if m.N.length=3 then ([],{ s3 with heard:=s3.heard.set m.OD.toNat ((s3.OA:Int),m.N.getD 1 0,m.N.getD 2 0)},k3) else ([],s3,k3)) else ([],s3,k3)):=af rfl;clear h3 m3 T7 hB UJ;by_cases k1:m.kind=1
  ·have HR:Hid (Da s3 k3 m=eX s3 k3 m):=af (by rw [TP.out,ay k1]);have f1:(m.kind==1)=true:=by simpa using k1
   clear k1;as_aux_lemma =>
   go_wp2_with fail
   refine HASK.out.mono ?_;exact GT
  ·have f1:(m.kind==1)=false:=by simpa using k1
   by_cases k2:m.kind=2
   ·have HR:Hid (Da s3 k3 m=fS s3 k3 m):=af (by rw [TP.out,am k1,ay k2]);have f2:(m.kind==2)=true:=by simpa using k2
    clear k1 k2;as_aux_lemma =>
    go_wp2_with fail
    refine HVOT.out.mono ?_;exact GT
   ·have f2:(m.kind==2)=false:=by simpa using k2
    by_cases k4:m.kind=3
    ·have HR:Hid (Da s3 k3 m=eA s3 k3 m):=af (by rw [TP.out,am k1,am k2,ay k4]);have f3:(m.kind==3)=true:=by simpa using k4
     clear k1 k2 k4;as_aux_lemma =>
     go_wp2_with fail
     refine HLAY.out.mono ?_;exact GT
    ·have f3:(m.kind==3)=false:=by simpa using k4
     by_cases k5:m.kind=4
     ·have HR:Hid (Da s3 k3 m=((cG s3 m).1,(cG s3 m).2,k3)):=af (by rw [TP.out,am k1,am k2,am k4,ay k5]);have f4:(m.kind==4)=true:=by simpa using k5
      clear k1 k2 k4 k5;as_aux_lemma =>
      go_wp2_with fail
      refine HANS.out.mono ?_;exact GT
     ·have f4:(m.kind==4)=false:=by simpa using k5
      by_cases k6:m.kind=5
      ·have f5:(m.kind==5)=true:=by simpa using k6
       by_cases k7:m.N.length=3
       ·have HR:Hid (Da s3 k3 m=([],{ s3 with heard:=s3.heard.set fr ((s3.OA:Int),m.N.getD 1 0,m.N.getD 2 0)},k3)):=af (by rw [TP.out,am k1,am k2,am k4,am k5,ay k6,ay k7,Z0.out,bU]);clear k1 k2 k4 k5 k6;have f6:((m.N.length:Int)==3)=true:=gD;obtain ⟨D,L,R,vl,gv,gn,gm,gh,Si,hX3⟩:=H3.out;have HNC:=af Si;have HX3:=af hX3;have hgA:gh∈A3:=Si.rA _ Si.hR;have hMA3:=HMA3.out;obtain ⟨b9,off9,c9,Q5⟩:=AX XM.out.n az;have e9:=Q5.v;cases e9;have hbgh:b≠gh:=λe=>by
         obtain ⟨Wj,c',e1,_,_,_,h3⟩:=XM.out.n;cases e1;exact (h3 _ rfl).1 (e ▸ hgA)
        have hMgh:M≠gh:=λe=>hMA3 (e ▸ hgA);have hrgh:r≠gh:=cQ Si.cell Si.heard dZ;have Rh:fr<s3.heard.length:=by rw [SN.out.hl];exact HFN.out
        have hfn:(fr:Int)<(s3.n:Int):=by have:=HFN.out;omega
        have Vh:(1:Int)<(m.N.length:Int):=az;have hl4:(2:Int)<(m.N.length:Int):=az;have hS:∀w',Only [gh] W3.drew w'->w'.cell? ⟨r,17,none⟩=some (.slice (some ⟨gh,0,none⟩) s3.n s3.n)/\w'.cell? ⟨r,16,none⟩=some (.int .i64 (s3.OA:Int))/\w'.cell? ⟨M,0,none⟩=some (.int .i64 (fr:Int))/\w'.cell? ⟨M,3,none⟩=some (.slice (some ⟨b,off,none⟩) m.N.length c)/\w'.cell? ⟨b,off+1,none⟩=some (.int .i64 (m.N.getD 1 0))/\w'.cell? ⟨b,off+2,none⟩=some (.int .i64 (m.N.getD 2 0)):=λw' ho=>by
         have k1:W3.drew.cell? ⟨r,17,none⟩=some (.slice (some ⟨gh,0,none⟩) s3.n s3.n):=by rw [show W3.drew.cell? ⟨r,17,none⟩=W3.cell? ⟨r,17,none⟩ from rfl,ap Si.cell];rfl
         have k2:W3.drew.cell? ⟨r,16,none⟩=some (.int .i64 (s3.OA:Int)):=by rw [show W3.drew.cell? ⟨r,16,none⟩=W3.cell? ⟨r,16,none⟩ from rfl,ap Si.cell];rfl
         have k3:W3.drew.cell? ⟨M,0,none⟩=some (.int .i64 (fr:Int)):=by rw [<-Z0.out];exact WR
         have k4:W3.drew.cell? ⟨b,off+1,none⟩=some (.int .i64 (m.N.getD 1 0)):=Q5.at_ 1 az;have k5:W3.drew.cell? ⟨b,off+2,none⟩=some (.int .i64 (m.N.getD 2 0)):=Q5.at_ 2 az;have k6:W3.drew.cell? ⟨M,3,none⟩=some (.slice (some ⟨b,off,none⟩) m.N.length c):=RZ;exact ⟨ho.cell k1 (by simpa using hrgh),ho.cell k2 (by simpa using hrgh),ho.cell k3 (by simpa using hMgh),ho.cell k6 (by simpa using hMgh),ho.cell k4 (by simpa using hbgh),ho.cell k5 (by simpa using hbgh)⟩
        have HS:=af hS;have hh:W3.drew.heap[gh]? = some (.cells (fZ s3.heard) 117 (0,0)):=Si.heard;have hsz:(fZ s3.heard).size=s3.heard.length*3:=wy _;generalize hx1g:m.N.getD 1 0=x1 at *;generalize hx2g:m.N.getD 2 0=x2 at *;have HFH:Hid (PE w (((W3.drew.setCell ⟨gh,fr*3,none⟩ (.int .i64 (s3.OA:Int))).setCell ⟨gh,fr*3+1,none⟩ (.int .i64 x1)).setCell ⟨gh,fr*3+2,none⟩ (.int .i64 x2)) A X r d l (.returned (.slice none 0 0)) ([],{ s3 with heard:=s3.heard.set fr ((s3.OA:Int),x1,x2)},k3)):=af (by
         have ho:Only [gh] W3.drew (((W3.drew.setCell ⟨gh,fr*3,none⟩ (.int .i64 (s3.OA:Int))).setCell ⟨gh,fr*3+1,none⟩ (.int .i64 x1)).setCell ⟨gh,fr*3+2,none⟩ (.int .i64 x2)):=(((Only.refl _ _).setCell bL _).setCell bL _).setCell bL _;have h9:=(HNC.out.below (aB W3 1)).new_heard ho (s3.heard.set fr ((s3.OA:Int),x1,x2)) (by
          rw [be (be (be hh (fr*3) _) (fr*3+1) _) (fr*3+2) _,<-wz _ _ _ Rh])
         exact PE.trans M3.out (PE.none (Py.trans (Mv.below (aB W3 1)) ((h9.nd HX3.out).VJ (Mv.only ho (λb hb=>by rw [aj.1 hb];exact (HX3.out gh).2 (.inr (.inr HNC.out.hR))))))))
        have U1:Hid (Only [gh] W3.drew (((W3.drew.setCell ⟨gh,fr*3,none⟩ (.int .i64 (s3.OA:Int))).setCell ⟨gh,fr*3+1,none⟩ (.int .i64 x1)).setCell ⟨gh,fr*3+2,none⟩ (.int .i64 x2))):=af ((((Only.refl _ _).setCell bL _).setCell bL _).setCell bL _);obtain ⟨z0,hx0⟩:∃z,W3.drew.cell? ⟨gh,fr*3,none⟩=some z:=by rw [ap hh];exact ⟨_,xp (by rw [hsz];omega)⟩
        have hh1:=be hh (fr*3) (.int .i64 (s3.OA:Int));obtain ⟨z1,hx1⟩:∃z,(W3.drew.setCell ⟨gh,fr*3,none⟩ (.int .i64 (s3.OA:Int))).cell? ⟨gh,fr*3+1,none⟩=some z:=by rw [ap hh1];exact ⟨_,xp (by rw [Array.size_setIfInBounds,hsz];omega)⟩
        have hh2:=be hh1 (fr*3+1) (.int .i64 x1);obtain ⟨z2,hx2⟩:∃z,((W3.drew.setCell ⟨gh,fr*3,none⟩ (.int .i64 (s3.OA:Int))).setCell ⟨gh,fr*3+1,none⟩ (.int .i64 x1)).cell? ⟨gh,fr*3+2,none⟩=some z:=by rw [ap hh2];exact ⟨_,xp (by rw [Array.size_setIfInBounds,Array.size_setIfInBounds,hsz];omega)⟩
        have HX0:=af (And.intro hx0 (aU hh (fr*3)));have HX1:=af (And.intro hx1 (aU hh1 (fr*3+1)));have HX2:=af (And.intro hx2 (aU hh2 (fr*3+2)));clear Si hX3 hgA hMA3 Q5 hbgh hMgh hrgh hS f1 f2 f3 f4 Uo hm4 hh hh1 hh2 hx0 hx1 hx2 hx1g hx2g hsz;go_upto_region 16 with (fail)
        clear WR Qb RZ;as_aux_lemma =>
        refine wp_region_held_drew (S:=λw'=>w'.cell? ⟨r,17,none⟩=some (.slice (some ⟨gh,0,none⟩) s3.n s3.n)/\w'.cell? ⟨r,16,none⟩=some (.int .i64 (s3.OA:Int))/\w'.cell? ⟨M,0,none⟩=some (.int .i64 (fr:Int))/\w'.cell? ⟨M,3,none⟩=some (.slice (some ⟨b,off,none⟩) m.N.length c)/\w'.cell? ⟨b,off+1,none⟩=some (.int .i64 x1)/\w'.cell? ⟨b,off+2,none⟩=some (.int .i64 x2)) dW (HS.out _ (Only.refl _ _)) (λaD=>?_);refine aJ 0 ?_;refine aJ 1 ?_;refine aJ 2 ?_;refine aJ 3 ?_;refine aJ 4 ?_;refine aJ 5 ?_;refine aJ 6 ?_;refine aJ 7 ?_;refine aJ 8 ?_;refine aJ 9 ?_;refine aJ 10 ?_;refine aJ 11 ?_;refine aJ 12 ?_;refine aJ 13 ?_;refine aJ 14 ?_;refine aJ 15 ?_;refine aJ 16 ?_;refine aJ 17 ?_;refine aJ 18 ?_;refine aJ 19 ?_;generalize W3.drew=V3 at *;refine dh 20 λK hK=>?_;obtain ⟨y0,f0⟩:=HX0.out;obtain ⟨y1,f1⟩:=HX1.out;obtain ⟨y2,f2⟩:=HX2.out;go_simp
        clear y0 f0 y1 f1 y2 f2;refine hK.out _ _ (HS.out _ U1.out) (λaD=>?_);clear hK K;refine bX ?_;refine iX ?_;clear aD;go_wp2_with fail
        go_ret
        rw [Ug.out,HR.out];exact HFH.out
       ·have HR:Hid (Da s3 k3 m=([],s3,k3)):=af (by rw [TP.out,am k1,am k2,am k4,am k5,ay k6,am k7]);have f6:((m.N.length:Int)==3)=false:=gD;have HF:Hid (PE w W3 A X r d l (.returned (.slice none 0 0)) ([],s3,k3)):=af (PE.trans M3.out (PE.none (H3.out.VJ (Mv.refl _ _ _))));clear k1 k2 k4 k5 k6 k7;exact Jb
      ·have f5:(m.kind==5)=false:=by simpa using k6
       have HR:Hid (Da s3 k3 m=([],s3,k3)):=af (by rw [TP.out,am k1,am k2,am k4,am k5,am k6]);have HF:Hid (PE w W3 A X r d l (.returned (.slice none 0 0)) ([],s3,k3)):=af (PE.trans M3.out (PE.none (H3.out.VJ (Mv.refl _ _ _))));clear k1 k2 k4 k5 k6;exact Jb
end
end Go.Proofs.YtnhefallmioefaaGreat
