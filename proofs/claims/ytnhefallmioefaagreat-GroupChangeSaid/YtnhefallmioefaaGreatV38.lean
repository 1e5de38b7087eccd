/-
  What the proof of the law leans on: contracts of the program's functions, one behind another. No condition.
-/
import Derived.Test.YtnhefallmioefaaGreatV0
import Derived.Test.YtnhefallmioefaaGreatV36
import Derived.Test.YtnhefallmioefaaGreatV37
import Derived.Test.YtnhefallmioefaaGreatV3
set_option linter.unusedVariables false
set_option linter.unusedSimpArgs false
namespace Go.Proofs.YtnhefallmioefaaGreat
open Go.RowKit Go.ChangeMaps Go.WideMaps Go.Maps
set_option maxRecDepth 20000
def yj (s:Rp) (k:Dk) (m:Msg):List Msg×Rp×Dk :=
 if m.kind=1 then dW s k m
 else if m.kind=2 then eF s k m
 else if m.kind=3 then dH s k m
 else if m.kind=4 then ((bR s m).1,(bR s m).2,k)
 else if m.kind=5 then (if m.N.length=3 then ([],{ s with heard:=s.heard.set m.frm.toNat ((s.clock:Int),m.N.getD 1 0,m.N.getD 2 0)},k) else ([],s,k))
 else ([],s,k)
theorem uO (s0:Rp) (k0:Dk) (m:Msg):fw s0 k0 m=if (aV s0 k0).done||l3 (aV s0 k0) m then ([],aV s0 k0,k0) else
 let p:=if (aV s0 k0).term<m.N.getD 0 0 then be (aV s0 k0) k0 (m.N.getD 0 0) (-1) else (true,aV s0 k0,k0)
 if p.1 then yj p.2.1 p.2.2 m else ([],p.2):=rfl
section
variable {w w':World} {A A' X X' D L R:List Nat} {r d l:Nat} {s s':Rp} {k k':Dk} {vl:Value} {gv gn gm gh:Nat}
theorem NdC.new_heard (h:NdC w A D L R r d l s k vl gv gn gm gh) (ho:Only [gh] w w') (l2:List (Int×Int×Int)) (hc:w'.heap[gh]? = some (.cells (eS l2) 117 (0,0))):NdC w' A D L R r d l { s with heard:=l2 } k vl gv gn gm gh:=by
 have hS:∀b∈[gh],b∈R:=λb hb=>by rw [aj.1 hb];exact h.hR
 exact ⟨h.wd_only ho hS,ho.keeps h.cell (by simpa using bZ h.cell h.heard (by decide)),h.log.step ho (λb hb=>h.rA b (hS b hb)) (Ext.refl _ _),ho.keeps h.votes (by simpa using bZ h.votes h.heard (by decide)),
  ho.keeps h.next (by simpa using bZ h.next h.heard (by decide)),ho.keeps h.mat (by simpa using bZ h.mat h.heard (by decide)),hc,h.nm,h.rR,h.vR,h.nR,h.mR,h.hR,h.dRD,h.dRL,h.rA⟩
theorem rP (l:List (Int×Int×Int)) (i:Nat) (x:Int×Int×Int) (h:i<l.length):(((eS l).setIfInBounds (i*3) (.int .i64 x.1)).setIfInBounds (i*3+1) (.int .i64 x.2.1)).setIfInBounds (i*3+2) (.int .i64 x.2.2)=eS (l.set i x):=tS l i x h
theorem rO (l:List (Int×Int×Int)):(eS l).size=l.length*3:=by
 unfold eS;induction l with
 | nil=>rfl
 | cons a l ih =>
  simp only [kG,List.size_toArray,ay,aY] at ih ⊢;rw [ih];simp [lG];omega
set_option maxHeartbeats 40000000 in
theorem zL (h:Nd w A X r d l s k) (hw:Wf s k) (m:Msg) (v u:Value) (hm:IsMsg w A m v u) (hdn:dQ s k=false) (hbd:l3 (aV s k) m=false) (hN1m:m.N.getD 1 0<=4611686018427387904) (hB:m.B.length<=1000000) (hlm:m.N.length<=1000000000) :
  Calls Tryz.prog 40 #[.pointer (some ⟨r,0,none⟩),df m v u] w λe w'=>MsP w w' A X r d l e (fw s k m):=by
 have hbw:Below w.heap.size w (w.alloc (.cells (bU m v u) 83)):=(az _ _).alloc (ah _) _;have h1:=h.below hbw;have hmw:=hm.below hbw;obtain ⟨ao,c,ev,_⟩:=id hm.n;subst ev;obtain ⟨ub,bc,eu⟩:=ll hm.b;subst eu;have HRX:=ab h.rX;have hMA:w.heap.size∉A:=λhb=>by have:=h.alt _ hb;omega
 have hrA:r∈A:=h.xA r h.rX;have hMr:w.heap.size∉[r]:=by
  simp;intro e;exact hMA (e ▸ hrA)
 have hbx:=aK w (.cells (bU m (.slice ao m.N.length c) (.slice ub m.B.length bc)) 83);have HM0:Hid (Mv A A X X w (w.alloc (.cells (bU m (.slice ao m.N.length c) (.slice ub m.B.length bc)) 83)).drew):=ab ((Mv.below hbw).trans (Mv.below (ak _ 1)));have h1d:Nd (w.alloc (.cells (bU m (.slice ao m.N.length c) (.slice ub m.B.length bc)) 83)).drew A X r d l s k:=h1.below (ak _ 1);have HDN:=ab (iL h1d);have HCE:Hid (∀W s9,Nd W A X r d l s9 k->s9.own=s.own->s9.n=s.n->W.cell? ⟨r,0,none⟩=some (.int .i64 (s.own:Int))/\W.cell? ⟨r,1,none⟩=some (.int .i64 (s.n:Int))):=ab (λW s9 h9 e1 e2=>by
  obtain ⟨vl,gv,gn,gm,gh,hcell⟩:=h9.cells;exact ⟨by rw [af hcell,<-e1];rfl,by rw [af hcell,<-e2];rfl⟩)
 have HK0:Hid ((w.alloc (.cells (bU m (.slice ao m.N.length c) (.slice ub m.B.length bc)) 83)).drew.cell? ⟨w.heap.size,0,none⟩=some (.int .i64 m.frm)/\(w.alloc (.cells (bU m (.slice ao m.N.length c) (.slice ub m.B.length bc)) 83)).drew.cell? ⟨w.heap.size,1,none⟩=some (.int .i64 m.dst)/\(w.alloc (.cells (bU m (.slice ao m.N.length c) (.slice ub m.B.length bc)) 83)).drew.cell? ⟨w.heap.size,3,none⟩=some (.slice ao m.N.length c)/\(w.alloc (.cells (bU m (.slice ao m.N.length c) (.slice ub m.B.length bc)) 83)).drew.cell? ⟨r,0,none⟩=some (.int .i64 (s.own:Int))/\(w.alloc (.cells (bU m (.slice ao m.N.length c) (.slice ub m.B.length bc)) 83)).drew.cell? ⟨r,1,none⟩=some (.int .i64 (s.n:Int))):=ab
  ⟨(af hbx 0).trans rfl,(af hbx 1).trans rfl,(af hbx 3).trans rfl,(HCE.out _ _ h1d rfl rfl).1,(HCE.out _ _ h1d rfl rfl).2⟩
 have HKK:Hid (∀w',Only [r] (w.alloc (.cells (bU m (.slice ao m.N.length c) (.slice ub m.B.length bc)) 83)).drew w'->Nd w' A X r d l (aV s k) k->w'.cell? ⟨w.heap.size,0,none⟩=some (.int .i64 m.frm)/\w'.cell? ⟨w.heap.size,1,none⟩=some (.int .i64 m.dst)/\w'.cell? ⟨w.heap.size,3,none⟩=some (.slice ao m.N.length c)/\w'.cell? ⟨r,0,none⟩=some (.int .i64 (s.own:Int))/\w'.cell? ⟨r,1,none⟩=some (.int .i64 (s.n:Int))):=ab (λw' ho hn =>
  ⟨ho.cell HK0.out.1 hMr,ho.cell HK0.out.2.1 hMr,ho.cell HK0.out.2.2.1 hMr,(HCE.out _ _ hn rfl rfl).1,(HCE.out _ _ hn rfl rfl).2⟩)
 have HNUM:Hid (1<=m.N.length->∃b off,ao=some ⟨b,off,none⟩/\Hid ((w.alloc (.cells (bU m (.slice ao m.N.length c) (.slice ub m.B.length bc)) 83)).drew.cell? ⟨b,off,none⟩=some (.int .i64 (m.N.getD 0 0)))/\Hid (∀w',Only [r] (w.alloc (.cells (bU m (.slice ao m.N.length c) (.slice ub m.B.length bc)) 83)).drew w'->w'.cell? ⟨b,off,none⟩=some (.int .i64 (m.N.getD 0 0)))):=ab (λhl=>by
  obtain ⟨b,off,c9,hc9⟩:=vW hmw.n (by omega);have e9:=hc9.v;simp only [Value.slice.injEq] at e9;obtain ⟨rfl,_,rfl⟩:=e9;have h0:=hc9.at_ 0 (by omega);rw [fL] at h0;have hbr:b∉[r]:=by
   obtain ⟨ao',c',e,_,_,_,h3⟩:=hm.n;cases e;simp;intro e;exact (h3 _ rfl).1 (e ▸ hrA)
  exact ⟨b,off,rfl,ab h0,ab (λw' ho=>ho.cell h0 hbr)⟩)
 have hE:fw s k m=(let p:=if (aV s k).term<m.N.getD 0 0 then be (aV s k) k (m.N.getD 0 0) (-1) else (true,aV s k,k)
  if p.1 then yj p.2.1 p.2.2 m else ([],p.2)):=by
  rw [uO,aw (by rw [hbd];show ¬(dQ s k||false)=true;rw [hdn];decide)]
 have HE:=ab hE;have hbd2:(!(m.dst==(s.own:Int))||m.frm==(s.own:Int)||decide (m.frm<0)||decide ((s.n:Int)<=m.frm)||decide (m.N.length<2)||decide (m.N.getD 0 0<1)||decide (1099511627776<m.N.getD 0 0))=false:=hbd;simp only [eL,qC,xp,ez] at hbd2;obtain ⟨⟨⟨⟨⟨⟨c0,c1⟩,c2⟩,c3⟩,c4⟩,c5⟩,c6⟩:=hbd2;have c1:(m.frm==(s.own:Int))=false:=c1;have HWF:=ab (gt hw);have HMG:=ab (hmw.below (ak _ 1));have HBX:Hid ((w.alloc (.cells (bU m (.slice ao m.N.length c) (.slice ub m.B.length bc)) 83)).drew.heap[w.heap.size]? = some (.cells (bU m (.slice ao m.N.length c) (.slice ub m.B.length bc)) 83 (0,0))):=ab hbx;have HMA:=ab hMA;have HMR:=ab hMr;have HRA:=ab hrA;have HSN:Hid ((aV s k).n=s.n/\(aV s k).own=s.own):=ab ⟨rfl,rfl⟩;have g0:(m.dst != (s.own:Int))=false:=by simpa using c0
 have g2:decide (m.frm<0)=false:=aW c2;have g3:decide ((s.n:Int)<=m.frm)=false:=aW c3;have g4:decide ((m.N.length:Int)<2)=false:=aW (by omega);have e4:¬(m.N.length:Int)<2:=by omega
 have el0:(0:Int)<(m.N.length:Int):=by omega
 have el1:0<m.N.length:=by omega
 have g5:decide (m.N.getD 0 0<1)=false:=aW c5;have g6:decide (1099511627776<m.N.getD 0 0)=false:=aW c6;obtain ⟨b,off,hao,HN0,HKN⟩:=HNUM.out (by omega);subst hao;have HK0:Hid (_/\_/\_/\_/\_/\_):=ab ⟨HK0.out.1,HK0.out.2.1,HK0.out.2.2.1,HK0.out.2.2.2.1,HK0.out.2.2.2.2,HN0.out⟩;have HKK:=ab (λw' (ho:Only [r] (w.alloc (.cells (bU m (.slice (some ⟨b,off,none⟩) m.N.length c) (.slice ub m.B.length bc)) 83)).drew w') (hn:Nd w' A X r d l (aV s k) k)=>(⟨(HKK.out w' ho hn).1,(HKK.out w' ho hn).2.1,(HKK.out w' ho hn).2.2.1,(HKK.out w' ho hn).2.2.2.1,(HKK.out w' ho hn).2.2.2.2,HKN.out w' ho⟩:_/\_/\_/\_/\_/\_));rw [hdn] at HDN;clear h h1 hm hmw hbw hbx h1d HCE hMA hrA hMr hw hdn hbd hE c0 HNUM HN0 HKN;generalize hn0:m.N.getD 0 0=n0 at *;have HN0E:=ab hn0;clear hn0;unfold df bU at *;go_enter Tryz.func40,Tryz.ntmps40
 go_upto_region 1 with (fail)
 generalize w.alloc (.cells #[.int .i64 m.frm,.int .i64 m.dst,.int .i64 m.kind,.slice (some ⟨b,off,none⟩) m.N.length c,.slice ub m.B.length bc] 83)=W1 at *;generalize w.heap.size=M at *;generalize hs1:aV s k=s1 at *;have HS1:=ab hs1;clear hs1;go_cut [58] (λv wx=>v = .bool false/\Nd wx A X r d l s1 k/\Only [r] W1.drew wx)
 case first =>
  as_aux_lemma =>
  refine wp_region_held_drew (S:=λw'=>w'.cell? ⟨M,0,none⟩=some (.int .i64 m.frm)/\w'.cell? ⟨M,1,none⟩=some (.int .i64 m.dst)/\w'.cell? ⟨M,3,none⟩=some (.slice (some ⟨b,off,none⟩) m.N.length c)/\w'.cell? ⟨r,0,none⟩=some (.int .i64 (s.own:Int))/\w'.cell? ⟨r,1,none⟩=some (.int .i64 (s.n:Int))/\w'.cell? ⟨b,off,none⟩=some (.int .i64 n0)) (by kernel_rfl) HK0.out (λam=>?_);refine aB 0 ?_;generalize W1.drew=V1 at *;refine cC 1 λK hK=>?_;go_simp
  refine HDN.out.mono ?_;rintro e w2 ⟨rfl,hn2,ho2⟩;have HN2:=ab hn2;have HO2:=ab ho2;clear hn2 ho2;go_wp2_with fail
  refine hK.out _ _ (HKK.out _ HO2.out HN2.out) (λam=>?_);clear hK K;refine bH ?_;refine aB 2 ?_;refine aB 3 ?_;refine aB 4 ?_;refine aB 5 ?_;refine aB 6 ?_;refine aB 7 ?_;refine aB 8 ?_;refine aB 9 ?_;refine aB 10 ?_;refine aB 11 ?_;refine aB 12 ?_;refine aB 13 ?_;refine aB 14 ?_;refine aB 15 ?_;refine aB 16 ?_;refine aB 17 ?_;refine aB 18 ?_;refine aB 19 ?_;refine aB 20 ?_;refine aB 21 ?_;refine aB 22 ?_;refine aB 23 ?_;refine aB 24 ?_;refine aB 25 ?_;refine aB 26 ?_;refine aB 27 ?_;refine aB 28 ?_;refine aB 29 ?_;refine aB 30 ?_;refine aB 31 ?_;refine aB 32 ?_;refine aB 33 ?_;refine aB 34 ?_;refine aB 35 ?_;refine aB 36 ?_;refine aB 37 ?_;refine aB 38 ?_;refine aB 39 ?_;refine aB 40 ?_;refine aB 41 ?_;refine aB 42 ?_;refine aB 43 ?_;refine aB 44 ?_;refine aB 45 ?_;refine aB 46 ?_;refine aB 47 ?_;refine aB 48 ?_;refine aB 49 ?_;refine aB 50 ?_;refine aB 51 ?_;refine aB 52 ?_;refine aB 53 ?_;refine fI ?_;clear am;go_wp2_with fail
  go_meet
  exact ⟨rfl,HN2.out,HO2.out⟩
 case rest =>
 obtain ⟨rfl,hn2,ho2⟩:=hcut;rename World=>W2;have H2:=ab hn2;have HB2:=ab (ho2.keeps HBX.out HMR.out);have HMS2:=ab (HMG.out.step ho2 (by simpa using HRA.out) (Ext.refl _ _));have M2:Hid (Mv A A X X w W2):=ab (HM0.out.trans (Mv.only ho2 (by simpa using HRX.out)));have hm3:W2.drew.cell? ⟨M,3,none⟩=some (.slice (some ⟨b,off,none⟩) m.N.length c):=(af HB2.out 3).trans rfl;have hn0c:W2.drew.cell? ⟨b,off,none⟩=some (.int .i64 n0):=(HKK.out W2 ho2 hn2).2.2.2.2.2;obtain ⟨vl2,gv2,gn2,gm2,gh2,hcell2⟩:=hn2.cells;have hr6:W2.drew.cell? ⟨r,6,none⟩=some (.int .i64 s1.term):=by
  have h9:=af hcell2 6;exact h9.trans rfl
 have HXA2:=ab hn2.xA;clear hn2 ho2 hcell2 HDN HK0 HKK HBX HM0 HMR;have HEN:=ab (λV (hb:Below W2.heap.size W2 V)=>lX (H2.out.below hb) HWF.out n0 (-1));have HWE:=ab (iq HWF.out n0 (-1) (by omega) (by omega) (by omega) (by have:=HWF.out.n1;omega));have HEE:=ab (BJ (s:=s1) (k:=k) n0 (-1));go_upto_region 3 with (fail)
 go_cut [76] (λv wx=>∃p:Bool×Rp×Dk,p=(if s1.term<n0 then be s1 k n0 (-1) else (true,s1,k))/\v = .bool (!p.1)/\NdP W2 wx A X r d l p.2.1 p.2.2)
 case first =>
  as_aux_lemma =>
  by_cases hlt:s1.term<n0
  ·have glt:decide (s1.term<n0)=true:=aJ hlt;have HEN:=ab (HEN.out W2.drew (ak W2 1));have HMD:Hid (Mv A A X X W2 W2.drew):=ab (Mv.below (ak W2 1));have HK4F:Hid (∀w4 s4 k4,NdP W2.drew w4 A X r d l s4 k4->w4.cell? ⟨M,3,none⟩=some (.slice (some ⟨b,off,none⟩) m.N.length c)/\w4.cell? ⟨b,off,none⟩=some (.int .i64 n0)):=ab (λw4 s4 k4 hn=>by
    obtain ⟨A4,X4,h4,m4⟩:=hn;have hb4:W2.drew.heap[M]? = _:=HB2.out;refine ⟨(af (m4.mv.only.keeps hb4 (λhm=>HMA.out (HXA2.out _ hm))) 3).trans rfl,m4.mv.only.cell hn0c (λhm=>?_)⟩;obtain ⟨ao',c',e,_,_,_,h3⟩:=HMS2.out.n;cases e;exact (h3 _ rfl).1 (HXA2.out _ hm))
   clear HWE HEE H2;have HIF:Hid (be s1 k n0 (-1)=if s1.term<n0 then be s1 k n0 (-1) else (true,s1,k)):=ab (aA hlt).symm;generalize be s1 k n0 (-1)=p at *;obtain ⟨ok,s3,k3⟩:=p
   (try simp only at HEN)
   refine wp_region_held_drew (S:=λw'=>w'.cell? ⟨M,3,none⟩=some (.slice (some ⟨b,off,none⟩) m.N.length c)/\w'.cell? ⟨b,off,none⟩=some (.int .i64 n0)) (by kernel_rfl) ⟨hm3,hn0c⟩ (λam=>?_);refine aB 0 ?_;refine aB 1 ?_;refine aB 2 ?_;refine aB 3 ?_;refine aB 4 ?_;refine aB 5 ?_;refine aB 6 ?_;generalize W2.drew=V2 at *;refine cC 7 λK hK=>?_;go_simp
   refine hK.out _ _ am (λam=>?_);clear hK K;refine bH ?_;refine aB 8 ?_;refine aB 9 ?_;refine aB 10 ?_;refine aB 11 ?_;refine aB 12 ?_;refine aB 13 ?_;refine aB 14 ?_;refine cC 15 λK hK=>?_;go_simp
   refine HEN.out.mono ?_;rintro e w4 ⟨rfl,hn4⟩;have HN4:=ab hn4;have HK4:=ab (HK4F.out _ _ _ hn4);clear hn4;go_wp2_with fail
   refine hK.out _ _ HK4.out (λam=>?_);clear hK K;refine bH ?_;refine aB 16 ?_;refine aB 17 ?_;refine fI ?_;clear am;go_wp2_with fail
   go_meet
   exact ⟨(ok,s3,k3),HIF.out,rfl,NdP.trans HMD.out HN4.out⟩
  ·have HIF:Hid ((true,s1,k)=if s1.term<n0 then be s1 k n0 (-1) else (true,s1,k)):=ab (by rw [aw hlt]);have glt:decide (s1.term<n0)=false:=aW hlt;have hm3:W2.cell? ⟨M,3,none⟩=some (.slice (some ⟨b,off,none⟩) m.N.length c):=hm3;have hn0c:W2.cell? ⟨b,off,none⟩=some (.int .i64 n0):=hn0c;have hr6:W2.cell? ⟨r,6,none⟩=some (.int .i64 s1.term):=hr6;go_quiet (fail)
   go_wp2_with fail
   go_meet
   exact ⟨_,HIF.out,rfl,(H2.out.below (ak W2 nq)).ndp (Mv.below (ak W2 nq))⟩
 case rest =>
 obtain ⟨p,hp,rfl,hn3⟩:=hcut;rename World=>W3;have HP3:Hid (Wf p.2.1 p.2.2/\p.2.1.n=s.n/\p.2.1.own=s.own/\(p.1=true->n0<=p.2.1.term)):=ab (by
  rw [hp];by_cases hlt:s1.term<n0
  ·rw [aA hlt];exact ⟨HWE.out,HEE.out.1.trans HSN.out.1,HEE.out.2.1.trans HSN.out.2,λh=>by rw [HEE.out.2.2 h];exact aX _⟩
  ·rw [aw hlt];exact ⟨HWF.out,HSN.out.1,HSN.out.2,λ_=>by show n0<=s1.term;omega⟩)
 have HE3:Hid (fw s k m=if p.1 then yj p.2.1 p.2.2 m else ([],p.2)):=ab (by rw [HE.out,hp]);have HN3:=ab hn3;clear hp hn3 HEN HWE HEE HE HWF hr6 hm3 hn0c;obtain ⟨ok,s3,k3⟩:=p
 (try simp only at HP3);(try simp only at HE3);(try simp only at HN3)
 cases ok with
 | false =>
  rw [aw (by decide)] at HE3;have HF:Hid (MsP w W3 A X r d l (.returned (.slice none 0 0)) ([],s3,k3)):=ab (MsP.none (NdP.trans M2.out HN3.out));go_wp2_with fail
  go_ret
  rw [HE3.out];exact HF.out
 | true =>
  rw [aA rfl] at HE3;obtain ⟨A3,X3,h3,m3⟩:=HN3.out;have H3:=ab h3;have M3:=ab (M2.out.trans m3);have HB3:=ab (m3.mv.only.keeps HB2.out (λhm=>HMA.out (HXA2.out _ hm)));have HMS3:=ab (HMS2.out.step m3.mv.only HXA2.out m3.ext);have HMA3:Hid (M∉A3):=ab (λhm=>by
   rcases m3.ext _ hm with h1 | h1
   ·exact HMA.out h1
   ·have:=aQ HB2.out;omega)
  have HW3:=ab HP3.out.1;obtain ⟨fr,hfr⟩:∃fr:Nat,m.frm=(fr:Int):=⟨m.frm.toNat,by omega⟩
  have HFR:=ab hfr;have HFN:Hid (fr<s3.n):=ab (by rw [HP3.out.2.1];omega);have HLE:Hid (m.N.getD 0 0<=s3.term):=ab (by rw [HN0E.out];exact HP3.out.2.2.2 rfl);have HLEN:Hid (2<=m.N.length):=ab (by omega);have hm2:W3.cell? ⟨M,2,none⟩=some (.int .i64 m.kind):=(af HB3.out 2).trans rfl;have hm0:W3.cell? ⟨M,0,none⟩=some (.int .i64 m.frm):=(af HB3.out 0).trans rfl;have hm1:W3.cell? ⟨M,1,none⟩=some (.int .i64 m.dst):=(af HB3.out 1).trans rfl;have hm3:W3.cell? ⟨M,3,none⟩=some (.slice (some ⟨b,off,none⟩) m.N.length c):=(af HB3.out 3).trans rfl;have hm4:W3.cell? ⟨M,4,none⟩=some (.slice ub m.B.length bc):=(af HB3.out 4).trans rfl;have HASK:Hid (Calls Tryz.prog 71 #[.pointer (some ⟨r,0,none⟩),.agg #[.int .i64 m.frm,.int .i64 m.dst,.int .i64 m.kind,.slice (some ⟨b,off,none⟩) m.N.length c,.slice ub m.B.length bc]] W3 λe w'=>MsP W3 w' A3 X3 r d l e (dW s3 k3 m)):=ab (xg h3 HW3.out m _ _ HMS3.out (by omega) (by rw [HFR.out];exact_mod_cast HFN.out));have HVOT:Hid (Calls Tryz.prog 72 #[.pointer (some ⟨r,0,none⟩),.agg #[.int .i64 m.frm,.int .i64 m.dst,.int .i64 m.kind,.slice (some ⟨b,off,none⟩) m.N.length c,.slice ub m.B.length bc]] W3 λe w'=>MsP W3 w' A3 X3 r d l e (eF s3 k3 m)):=ab (vh h3 HW3.out m _ _ HMS3.out fr HFR.out HFN.out HLEN.out);have HLAY:Hid (Calls Tryz.prog 73 #[.pointer (some ⟨r,0,none⟩),.agg #[.int .i64 m.frm,.int .i64 m.dst,.int .i64 m.kind,.slice (some ⟨b,off,none⟩) m.N.length c,.slice ub m.B.length bc]] W3 λe w'=>MsP W3 w' A3 X3 r d l e (dH s3 k3 m)):=ab (zh h3 HW3.out m _ _ HMS3.out HLEN.out HLE.out hN1m hB);have HANS:Hid (Calls Tryz.prog 74 #[.pointer (some ⟨r,0,none⟩),.agg #[.int .i64 m.frm,.int .i64 m.dst,.int .i64 m.kind,.slice (some ⟨b,off,none⟩) m.N.length c,.slice ub m.B.length bc]] W3 λe w'=>MsP W3 w' A3 X3 r d l e ((bR s3 m).1,(bR s3 m).2,k3)):=ab (qq h3 HW3.out m _ _ HMS3.out fr HFR.out HFN.out HLEN.out);have HKIND:Hid (yj s3 k3 m=if m.kind=1 then dW s3 k3 m else if m.kind=2 then eF s3 k3 m else if m.kind=3 then dH s3 k3 m else if m.kind=4 then ((bR s3 m).1,(bR s3 m).2,k3) else if m.kind=5 then (if m.N.length=3 then ([],{ s3 with heard:=s3.heard.set m.frm.toNat ((s3.clock:Int),m.N.getD 1 0,m.N.getD 2 0)},k3) else ([],s3,k3)) else ([],s3,k3)):=ab rfl;clear h3 m3 hfr hB hN1m;by_cases k1:m.kind=1
  ·have HR:Hid (yj s3 k3 m=dW s3 k3 m):=ab (by rw [HKIND.out,aA k1]);have f1:(m.kind==1)=true:=by simpa using k1
   clear k1;as_aux_lemma =>
   go_wp2_with fail
   refine HASK.out.mono ?_;intro e w4 h4;have H4:=ab (MsP.trans M3.out h4);obtain ⟨v4,_,_,rfl,_⟩:=h4;go_wp2_with fail
   go_ret
   rw [HE3.out,HR.out];exact H4.out
  ·have f1:(m.kind==1)=false:=by simpa using k1
   by_cases k2:m.kind=2
   ·have HR:Hid (yj s3 k3 m=eF s3 k3 m):=ab (by rw [HKIND.out,aw k1,aA k2]);have f2:(m.kind==2)=true:=by simpa using k2
    clear k1 k2;as_aux_lemma =>
    go_wp2_with fail
    refine HVOT.out.mono ?_;intro e w4 h4;have H4:=ab (MsP.trans M3.out h4);obtain ⟨v4,_,_,rfl,_⟩:=h4;go_wp2_with fail
    go_ret
    rw [HE3.out,HR.out];exact H4.out
   ·have f2:(m.kind==2)=false:=by simpa using k2
    by_cases k4:m.kind=3
    ·have HR:Hid (yj s3 k3 m=dH s3 k3 m):=ab (by rw [HKIND.out,aw k1,aw k2,aA k4]);have f3:(m.kind==3)=true:=by simpa using k4
     clear k1 k2 k4;as_aux_lemma =>
     go_wp2_with fail
     refine HLAY.out.mono ?_;intro e w4 h4;have H4:=ab (MsP.trans M3.out h4);obtain ⟨v4,_,_,rfl,_⟩:=h4;go_wp2_with fail
     go_ret
     rw [HE3.out,HR.out];exact H4.out
    ·have f3:(m.kind==3)=false:=by simpa using k4
     by_cases k5:m.kind=4
     ·have HR:Hid (yj s3 k3 m=((bR s3 m).1,(bR s3 m).2,k3)):=ab (by rw [HKIND.out,aw k1,aw k2,aw k4,aA k5]);have f4:(m.kind==4)=true:=by simpa using k5
      clear k1 k2 k4 k5;as_aux_lemma =>
      go_wp2_with fail
      refine HANS.out.mono ?_;intro e w4 h4;have H4:=ab (MsP.trans M3.out h4);obtain ⟨v4,_,_,rfl,_⟩:=h4;go_wp2_with fail
      go_ret
      rw [HE3.out,HR.out];exact H4.out
     ·have f4:(m.kind==4)=false:=by simpa using k5
      by_cases k6:m.kind=5
      ·have f5:(m.kind==5)=true:=by simpa using k6
       by_cases k7:m.N.length=3
       ·have HR:Hid (yj s3 k3 m=([],{ s3 with heard:=s3.heard.set fr ((s3.clock:Int),m.N.getD 1 0,m.N.getD 2 0)},k3)):=ab (by rw [HKIND.out,aw k1,aw k2,aw k4,aw k5,aA k6,aA k7,HFR.out,ed]);clear k1 k2 k4 k5 k6;have f6:((m.N.length:Int)==3)=true:=by simp;omega
        obtain ⟨D,L,R,vl,gv,gn,gm,gh,hnc,hX3⟩:=H3.out;have HNC:=ab hnc;have HX3:=ab hX3;have hgA:gh∈A3:=hnc.rA _ hnc.hR;have hMA3:=HMA3.out;obtain ⟨b9,off9,c9,hc9⟩:=vW HMS3.out.n (by omega);have e9:=hc9.v;cases e9;have hbgh:b≠gh:=λe=>by
         obtain ⟨ao',c',e1,_,_,_,h3⟩:=HMS3.out.n;cases e1;exact (h3 _ rfl).1 (e ▸ hgA)
        have hMgh:M≠gh:=λe=>hMA3 (e ▸ hgA);have hrgh:r≠gh:=bZ hnc.cell hnc.heard (by decide);have hfl:fr<s3.heard.length:=by rw [HW3.out.hl];exact HFN.out
        have hfn:(fr:Int)<(s3.n:Int):=by have:=HFN.out;omega
        have hl3:(1:Int)<(m.N.length:Int):=by omega
        have hl4:(2:Int)<(m.N.length:Int):=by omega
        have hS:∀w',Only [gh] W3.drew w'->w'.cell? ⟨r,17,none⟩=some (.slice (some ⟨gh,0,none⟩) s3.n s3.n)/\w'.cell? ⟨r,16,none⟩=some (.int .i64 (s3.clock:Int))/\w'.cell? ⟨M,0,none⟩=some (.int .i64 (fr:Int))/\w'.cell? ⟨M,3,none⟩=some (.slice (some ⟨b,off,none⟩) m.N.length c)/\w'.cell? ⟨b,off+1,none⟩=some (.int .i64 (m.N.getD 1 0))/\w'.cell? ⟨b,off+2,none⟩=some (.int .i64 (m.N.getD 2 0)):=λw' ho=>by
         have k1:W3.drew.cell? ⟨r,17,none⟩=some (.slice (some ⟨gh,0,none⟩) s3.n s3.n):=by rw [show W3.drew.cell? ⟨r,17,none⟩=W3.cell? ⟨r,17,none⟩ from rfl,af hnc.cell];rfl
         have k2:W3.drew.cell? ⟨r,16,none⟩=some (.int .i64 (s3.clock:Int)):=by rw [show W3.drew.cell? ⟨r,16,none⟩=W3.cell? ⟨r,16,none⟩ from rfl,af hnc.cell];rfl
         have k3:W3.drew.cell? ⟨M,0,none⟩=some (.int .i64 (fr:Int)):=by rw [<-HFR.out];exact hm0
         have k4:W3.drew.cell? ⟨b,off+1,none⟩=some (.int .i64 (m.N.getD 1 0)):=hc9.at_ 1 (by omega);have k5:W3.drew.cell? ⟨b,off+2,none⟩=some (.int .i64 (m.N.getD 2 0)):=hc9.at_ 2 (by omega);have k6:W3.drew.cell? ⟨M,3,none⟩=some (.slice (some ⟨b,off,none⟩) m.N.length c):=hm3;exact ⟨ho.cell k1 (by simpa using hrgh),ho.cell k2 (by simpa using hrgh),ho.cell k3 (by simpa using hMgh),ho.cell k6 (by simpa using hMgh),ho.cell k4 (by simpa using hbgh),ho.cell k5 (by simpa using hbgh)⟩
        have HS:=ab hS;have hh:W3.drew.heap[gh]? = some (.cells (eS s3.heard) 117 (0,0)):=hnc.heard;have hsz:(eS s3.heard).size=s3.heard.length*3:=rO _;generalize hx1g:m.N.getD 1 0=x1 at *;generalize hx2g:m.N.getD 2 0=x2 at *;have HFH:Hid (MsP w (((W3.drew.setCell ⟨gh,fr*3,none⟩ (.int .i64 (s3.clock:Int))).setCell ⟨gh,fr*3+1,none⟩ (.int .i64 x1)).setCell ⟨gh,fr*3+2,none⟩ (.int .i64 x2)) A X r d l (.returned (.slice none 0 0)) ([],{ s3 with heard:=s3.heard.set fr ((s3.clock:Int),x1,x2)},k3)):=ab (by
         have ho:Only [gh] W3.drew (((W3.drew.setCell ⟨gh,fr*3,none⟩ (.int .i64 (s3.clock:Int))).setCell ⟨gh,fr*3+1,none⟩ (.int .i64 x1)).setCell ⟨gh,fr*3+2,none⟩ (.int .i64 x2)):=(((Only.refl _ _).setCell (by simp) _).setCell (by simp) _).setCell (by simp) _;have h9:=(HNC.out.below (ak W3 1)).new_heard ho (s3.heard.set fr ((s3.clock:Int),x1,x2)) (by
          rw [aR (aR (aR hh (fr*3) _) (fr*3+1) _) (fr*3+2) _,<-rP _ _ _ hfl])
         exact MsP.trans M3.out (MsP.none (NdP.trans (Mv.below (ak W3 1)) ((h9.nd HX3.out).ndp (Mv.only ho (λb hb=>by rw [aj.1 hb];exact (HX3.out gh).2 (.inr (.inr HNC.out.hR))))))))
        have HOF:Hid (Only [gh] W3.drew (((W3.drew.setCell ⟨gh,fr*3,none⟩ (.int .i64 (s3.clock:Int))).setCell ⟨gh,fr*3+1,none⟩ (.int .i64 x1)).setCell ⟨gh,fr*3+2,none⟩ (.int .i64 x2))):=ab ((((Only.refl _ _).setCell (by simp) _).setCell (by simp) _).setCell (by simp) _);obtain ⟨z0,hx0⟩:∃z,W3.drew.cell? ⟨gh,fr*3,none⟩=some z:=by rw [af hh];exact ⟨_,sK (by rw [hsz];omega)⟩
        have hh1:=aR hh (fr*3) (.int .i64 (s3.clock:Int));obtain ⟨z1,hx1⟩:∃z,(W3.drew.setCell ⟨gh,fr*3,none⟩ (.int .i64 (s3.clock:Int))).cell? ⟨gh,fr*3+1,none⟩=some z:=by rw [af hh1];exact ⟨_,sK (by rw [Array.size_setIfInBounds,hsz];omega)⟩
        have hh2:=aR hh1 (fr*3+1) (.int .i64 x1);obtain ⟨z2,hx2⟩:∃z,((W3.drew.setCell ⟨gh,fr*3,none⟩ (.int .i64 (s3.clock:Int))).setCell ⟨gh,fr*3+1,none⟩ (.int .i64 x1)).cell? ⟨gh,fr*3+2,none⟩=some z:=by rw [af hh2];exact ⟨_,sK (by rw [Array.size_setIfInBounds,Array.size_setIfInBounds,hsz];omega)⟩
        have HX0:=ab (And.intro hx0 (aM hh (fr*3)));have HX1:=ab (And.intro hx1 (aM hh1 (fr*3+1)));have HX2:=ab (And.intro hx2 (aM hh2 (fr*3+2)));clear hnc hX3 hgA hMA3 hc9 hbgh hMgh hrgh hS f1 f2 f3 f4 hm1 hm4 hh hh1 hh2 hx0 hx1 hx2 hx1g hx2g hsz;go_upto_region 16 with (fail)
        clear hm0 hm2 hm3;as_aux_lemma =>
        refine wp_region_held_drew (S:=λw'=>w'.cell? ⟨r,17,none⟩=some (.slice (some ⟨gh,0,none⟩) s3.n s3.n)/\w'.cell? ⟨r,16,none⟩=some (.int .i64 (s3.clock:Int))/\w'.cell? ⟨M,0,none⟩=some (.int .i64 (fr:Int))/\w'.cell? ⟨M,3,none⟩=some (.slice (some ⟨b,off,none⟩) m.N.length c)/\w'.cell? ⟨b,off+1,none⟩=some (.int .i64 x1)/\w'.cell? ⟨b,off+2,none⟩=some (.int .i64 x2)) (by kernel_rfl) (HS.out _ (Only.refl _ _)) (λam=>?_);refine aB 0 ?_;refine aB 1 ?_;refine aB 2 ?_;refine aB 3 ?_;refine aB 4 ?_;refine aB 5 ?_;refine aB 6 ?_;refine aB 7 ?_;refine aB 8 ?_;refine aB 9 ?_;refine aB 10 ?_;refine aB 11 ?_;refine aB 12 ?_;refine aB 13 ?_;refine aB 14 ?_;refine aB 15 ?_;refine aB 16 ?_;refine aB 17 ?_;refine aB 18 ?_;refine aB 19 ?_;generalize W3.drew=V3 at *;refine cC 20 λK hK=>?_;obtain ⟨y0,f0⟩:=HX0.out;obtain ⟨y1,f1⟩:=HX1.out;obtain ⟨y2,f2⟩:=HX2.out;go_simp
        clear y0 f0 y1 f1 y2 f2;refine hK.out _ _ (HS.out _ HOF.out) (λam=>?_);clear hK K;refine bH ?_;refine fI ?_;clear am;go_wp2_with fail
        go_ret
        rw [HE3.out,HR.out];exact HFH.out
       ·have HR:Hid (yj s3 k3 m=([],s3,k3)):=ab (by rw [HKIND.out,aw k1,aw k2,aw k4,aw k5,aA k6,aw k7]);have f6:((m.N.length:Int)==3)=false:=by simp;omega
        have HF:Hid (MsP w W3 A X r d l (.returned (.slice none 0 0)) ([],s3,k3)):=ab (MsP.trans M3.out (MsP.none (H3.out.ndp (Mv.refl _ _ _))));clear k1 k2 k4 k5 k6 k7;as_aux_lemma =>
        go_wp2_with fail
        go_ret
        rw [HE3.out,HR.out];exact HF.out
      ·have f5:(m.kind==5)=false:=by simpa using k6
       have HR:Hid (yj s3 k3 m=([],s3,k3)):=ab (by rw [HKIND.out,aw k1,aw k2,aw k4,aw k5,aw k6]);have HF:Hid (MsP w W3 A X r d l (.returned (.slice none 0 0)) ([],s3,k3)):=ab (MsP.trans M3.out (MsP.none (H3.out.ndp (Mv.refl _ _ _))));clear k1 k2 k4 k5 k6;as_aux_lemma =>
       go_wp2_with fail
       go_ret
       rw [HE3.out,HR.out];exact HF.out
end
end Go.Proofs.YtnhefallmioefaaGreat
