/-
  What the proof of the law leans on: contracts of the program's functions, one behind another. No condition.
-/
import Derived.Test.YtnicaicjgaoolaaU0
import Derived.Test.YtnicaicjgaoolaaU22
import Derived.Test.YtnicaicjgaoolaaU21
import Derived.Test.YtnicaicjgaoolaaU3
import Derived.Test.YtnicaicjgaoolaaU18
import Derived.Test.YtnicaicjgaoolaaU16
set_option linter.unusedVariables false
set_option linter.unusedSimpArgs false
namespace Go.Proofs.Ytnicaicjgaoolaa
open Go.RowKit Go.ChangeMaps Go.WideMaps Go.Maps
set_option maxRecDepth 20000
def yt (s:Rp) (k:Dk) (m:Msg):List Msg×Rp×Dk :=
 if m.kind=1 then dV s k m
 else if m.kind=2 then eM s k m
 else if m.kind=3 then dK s k m
 else if m.kind=4 then ((ct s m).1,(ct s m).2,k)
 else if m.kind=5 then (if m.N.length=3 then ([],{ s with heard:=s.heard.set m.frm.toNat ((s.clock:Int),m.N.getD 1 0,m.N.getD 2 0)},k) else ([],s,k))
 else ([],s,k)
theorem uO (s0:Rp) (k0:Dk) (m:Msg):fC s0 k0 m=if (aY s0 k0).done||mh (aY s0 k0) m then ([],aY s0 k0,k0) else
 let p:=if (aY s0 k0).term<m.N.getD 0 0 then bx (aY s0 k0) k0 (m.N.getD 0 0) (-1) else (true,aY s0 k0,k0)
 if p.1 then yt p.2.1 p.2.2 m else ([],p.2):=rfl
section
variable {w w':World} {A A' X X' D L R:List Nat} {r d l:Nat} {s s':Rp} {k k':Dk} {vl:Value} {gv gn gm gh:Nat}
theorem NdC.new_heard (h:NdC w A D L R r d l s k vl gv gn gm gh) (ho:Only [gh] w w') (l2:List (Int×Int×Int)) (hc:w'.heap[gh]? = some (.cells (fg l2) 76 (0,0))):NdC w' A D L R r d l { s with heard:=l2 } k vl gv gn gm gh:=by
 have hS:∀b∈[gh],b∈R:=λb hb=>by rw [aj.1 hb];exact h.hR
 exact ⟨h.wd_only ho hS,ho.keeps h.cell (by simpa using b8 h.cell h.heard (by decide)),h.log.step ho (λb hb=>h.rA b (hS b hb)) (Ext.refl _ _),ho.keeps h.votes (by simpa using b8 h.votes h.heard (by decide)),
  ho.keeps h.next (by simpa using b8 h.next h.heard (by decide)),ho.keeps h.mat (by simpa using b8 h.mat h.heard (by decide)),hc,h.nm,h.rR,h.vR,h.nR,h.mR,h.hR,h.dRD,h.dRL,h.rA⟩
theorem rP (l:List (Int×Int×Int)) (i:Nat) (x:Int×Int×Int) (h:i<l.length):(((fg l).setIfInBounds (i*3) (.int .i64 x.1)).setIfInBounds (i*3+1) (.int .i64 x.2.1)).setIfInBounds (i*3+2) (.int .i64 x.2.2)=fg (l.set i x):=tN l i x h
theorem rO (l:List (Int×Int×Int)):(fg l).size=l.length*3:=by
 unfold fg;induction l with
 | nil=>rfl
 | cons a l ih =>
  simp only [ue,List.size_toArray,ay,aX] at ih ⊢;rw [ih];simp [lP];omega
set_option maxHeartbeats 40000000 in
theorem zY (h:Nd w A X r d l s k) (hw:Wf s k) (m:Msg) (v u:Value) (hm:IsMsg w A m v u) (hdn:ew s k=false) (hbd:mh (aY s k) m=false) (hN1m:m.N.getD 1 0<=4611686018427387904) (hB:m.B.length<=1000000) (hlm:m.N.length<=1000000000) :
  Calls Try.prog 19 #[.pointer (some ⟨r,0,none⟩),eA m v u] w λe w'=>MsP w w' A X r d l e (fC s k m):=by
 have hbw:Below w.heap.size w (w.alloc (.cells (bX m v u) 51)):=(aB _ _).alloc (ah _) _;have h1:=h.below hbw;have hmw:=hm.below hbw;obtain ⟨ao,c,ev,_⟩:=id hm.n;subst ev;obtain ⟨ub,bc,eu⟩:=fU hm.b;subst eu;have HRX:=ab h.rX;have hMA:w.heap.size∉A:=λhb=>by have:=h.alt _ hb;omega
 have hrA:r∈A:=h.xA r h.rX;have hMr:w.heap.size∉[r]:=by
  simp;intro e;exact hMA (e ▸ hrA)
 have hbx:=aJ w (.cells (bX m (.slice ao m.N.length c) (.slice ub m.B.length bc)) 51);have HM0:Hid (Mv A A X X w (w.alloc (.cells (bX m (.slice ao m.N.length c) (.slice ub m.B.length bc)) 51)).drew):=ab ((Mv.below hbw).trans (Mv.below (ap _ 1)));have h1d:Nd (w.alloc (.cells (bX m (.slice ao m.N.length c) (.slice ub m.B.length bc)) 51)).drew A X r d l s k:=h1.below (ap _ 1);have HDN:=ab (iV h1d);have HCE:Hid (∀W s9,Nd W A X r d l s9 k->s9.own=s.own->s9.n=s.n->W.cell? ⟨r,0,none⟩=some (.int .i64 (s.own:Int))/\W.cell? ⟨r,1,none⟩=some (.int .i64 (s.n:Int))):=ab (λW s9 h9 e1 e2=>by
  obtain ⟨vl,gv,gn,gm,gh,hcell⟩:=h9.cells;exact ⟨by rw [af hcell,<-e1];rfl,by rw [af hcell,<-e2];rfl⟩)
 have HK0:Hid ((w.alloc (.cells (bX m (.slice ao m.N.length c) (.slice ub m.B.length bc)) 51)).drew.cell? ⟨w.heap.size,0,none⟩=some (.int .i64 m.frm)/\(w.alloc (.cells (bX m (.slice ao m.N.length c) (.slice ub m.B.length bc)) 51)).drew.cell? ⟨w.heap.size,1,none⟩=some (.int .i64 m.dst)/\(w.alloc (.cells (bX m (.slice ao m.N.length c) (.slice ub m.B.length bc)) 51)).drew.cell? ⟨w.heap.size,3,none⟩=some (.slice ao m.N.length c)/\(w.alloc (.cells (bX m (.slice ao m.N.length c) (.slice ub m.B.length bc)) 51)).drew.cell? ⟨r,0,none⟩=some (.int .i64 (s.own:Int))/\(w.alloc (.cells (bX m (.slice ao m.N.length c) (.slice ub m.B.length bc)) 51)).drew.cell? ⟨r,1,none⟩=some (.int .i64 (s.n:Int))):=ab
  ⟨(af hbx 0).trans rfl,(af hbx 1).trans rfl,(af hbx 3).trans rfl,(HCE.out _ _ h1d rfl rfl).1,(HCE.out _ _ h1d rfl rfl).2⟩
 have HKK:Hid (∀w',Only [r] (w.alloc (.cells (bX m (.slice ao m.N.length c) (.slice ub m.B.length bc)) 51)).drew w'->Nd w' A X r d l (aY s k) k->w'.cell? ⟨w.heap.size,0,none⟩=some (.int .i64 m.frm)/\w'.cell? ⟨w.heap.size,1,none⟩=some (.int .i64 m.dst)/\w'.cell? ⟨w.heap.size,3,none⟩=some (.slice ao m.N.length c)/\w'.cell? ⟨r,0,none⟩=some (.int .i64 (s.own:Int))/\w'.cell? ⟨r,1,none⟩=some (.int .i64 (s.n:Int))):=ab (λw' ho hn =>
  ⟨ho.cell HK0.out.1 hMr,ho.cell HK0.out.2.1 hMr,ho.cell HK0.out.2.2.1 hMr,(HCE.out _ _ hn rfl rfl).1,(HCE.out _ _ hn rfl rfl).2⟩)
 have HNUM:Hid (1<=m.N.length->∃b off,ao=some ⟨b,off,none⟩/\Hid ((w.alloc (.cells (bX m (.slice ao m.N.length c) (.slice ub m.B.length bc)) 51)).drew.cell? ⟨b,off,none⟩=some (.int .i64 (m.N.getD 0 0)))/\Hid (∀w',Only [r] (w.alloc (.cells (bX m (.slice ao m.N.length c) (.slice ub m.B.length bc)) 51)).drew w'->w'.cell? ⟨b,off,none⟩=some (.int .i64 (m.N.getD 0 0)))):=ab (λhl=>by
  obtain ⟨b,off,c9,hc9⟩:=vT hmw.n (by omega);have e9:=hc9.v;simp only [Value.slice.injEq] at e9;obtain ⟨rfl,_,rfl⟩:=e9;have h0:=hc9.at_ 0 (by omega);rw [eK] at h0;have hbr:b∉[r]:=by
   obtain ⟨ao',c',e,_,_,_,h3⟩:=hm.n;cases e;simp;intro e;exact (h3 _ rfl).1 (e ▸ hrA)
  exact ⟨b,off,rfl,ab h0,ab (λw' ho=>ho.cell h0 hbr)⟩)
 have hE:fC s k m=(let p:=if (aY s k).term<m.N.getD 0 0 then bx (aY s k) k (m.N.getD 0 0) (-1) else (true,aY s k,k)
  if p.1 then yt p.2.1 p.2.2 m else ([],p.2)):=by
  rw [uO,aw (by rw [hbd];show ¬(ew s k||false)=true;rw [hdn];decide)]
 have HE:=ab hE;have hbd2:(!(m.dst==(s.own:Int))||m.frm==(s.own:Int)||decide (m.frm<0)||decide ((s.n:Int)<=m.frm)||decide (m.N.length<2)||decide (m.N.getD 0 0<1)||decide (1099511627776<m.N.getD 0 0))=false:=hbd;simp only [dZ,gS,ke,cH] at hbd2;obtain ⟨⟨⟨⟨⟨⟨c0,c1⟩,c2⟩,c3⟩,c4⟩,c5⟩,c6⟩:=hbd2;have c1:(m.frm==(s.own:Int))=false:=c1;have HWF:=ab (gx hw);have HMG:=ab (hmw.below (ap _ 1));have HBX:Hid ((w.alloc (.cells (bX m (.slice ao m.N.length c) (.slice ub m.B.length bc)) 51)).drew.heap[w.heap.size]? = some (.cells (bX m (.slice ao m.N.length c) (.slice ub m.B.length bc)) 51 (0,0))):=ab hbx;have HMA:=ab hMA;have HMR:=ab hMr;have HRA:=ab hrA;have HSN:Hid ((aY s k).n=s.n/\(aY s k).own=s.own):=ab ⟨rfl,rfl⟩;have g0:(m.dst != (s.own:Int))=false:=by simpa using c0
 have g2:decide (m.frm<0)=false:=bq c2;have g3:decide ((s.n:Int)<=m.frm)=false:=bq c3;have g4:decide ((m.N.length:Int)<2)=false:=bq (by omega);have e4:¬(m.N.length:Int)<2:=by omega
 have el0:(0:Int)<(m.N.length:Int):=by omega
 have el1:0<m.N.length:=by omega
 have g5:decide (m.N.getD 0 0<1)=false:=bq c5;have g6:decide (1099511627776<m.N.getD 0 0)=false:=bq c6;obtain ⟨b,off,hao,HN0,HKN⟩:=HNUM.out (by omega);subst hao;have HK0:Hid (_/\_/\_/\_/\_/\_):=ab ⟨HK0.out.1,HK0.out.2.1,HK0.out.2.2.1,HK0.out.2.2.2.1,HK0.out.2.2.2.2,HN0.out⟩;have HKK:=ab (λw' (ho:Only [r] (w.alloc (.cells (bX m (.slice (some ⟨b,off,none⟩) m.N.length c) (.slice ub m.B.length bc)) 51)).drew w') (hn:Nd w' A X r d l (aY s k) k)=>(⟨(HKK.out w' ho hn).1,(HKK.out w' ho hn).2.1,(HKK.out w' ho hn).2.2.1,(HKK.out w' ho hn).2.2.2.1,(HKK.out w' ho hn).2.2.2.2,HKN.out w' ho⟩:_/\_/\_/\_/\_/\_));rw [hdn] at HDN;clear h h1 hm hmw hbw hbx h1d HCE hMA hrA hMr hw hdn hbd hE c0 HNUM HN0 HKN;generalize hn0:m.N.getD 0 0=n0 at *;have HN0E:=ab hn0;clear hn0;unfold eA bX at *;go_enter Try.func19,Try.ntmps19
 go_upto_region 1 with (fail)
 generalize w.alloc (.cells #[.int .i64 m.frm,.int .i64 m.dst,.int .i64 m.kind,.slice (some ⟨b,off,none⟩) m.N.length c,.slice ub m.B.length bc] 51)=W1 at *;generalize w.heap.size=M at *;generalize hs1:aY s k=s1 at *;have HS1:=ab hs1;clear hs1;go_cut [58] (λv wx=>v = .bool false/\Nd wx A X r d l s1 k/\Only [r] W1.drew wx)
 case first =>
  as_aux_lemma =>
  refine wp_region_held_drew (S:=λw'=>w'.cell? ⟨M,0,none⟩=some (.int .i64 m.frm)/\w'.cell? ⟨M,1,none⟩=some (.int .i64 m.dst)/\w'.cell? ⟨M,3,none⟩=some (.slice (some ⟨b,off,none⟩) m.N.length c)/\w'.cell? ⟨r,0,none⟩=some (.int .i64 (s.own:Int))/\w'.cell? ⟨r,1,none⟩=some (.int .i64 (s.n:Int))/\w'.cell? ⟨b,off,none⟩=some (.int .i64 n0)) (by kernel_rfl) HK0.out (λam=>?_);refine az 0 ?_;generalize W1.drew=V1 at *;refine cf 1 λK hK=>?_;go_simp
  refine HDN.out.mono ?_;rintro e w2 ⟨rfl,hn2,ho2⟩;have HN2:=ab hn2;have HO2:=ab ho2;clear hn2 ho2;go_wp2_with fail
  refine hK.out _ _ (HKK.out _ HO2.out HN2.out) (λam=>?_);clear hK K;refine bu ?_;refine az 2 ?_;refine az 3 ?_;refine az 4 ?_;refine az 5 ?_;refine az 6 ?_;refine az 7 ?_;refine az 8 ?_;refine az 9 ?_;refine az 10 ?_;refine az 11 ?_;refine az 12 ?_;refine az 13 ?_;refine az 14 ?_;refine az 15 ?_;refine az 16 ?_;refine az 17 ?_;refine az 18 ?_;refine az 19 ?_;refine az 20 ?_;refine az 21 ?_;refine az 22 ?_;refine az 23 ?_;refine az 24 ?_;refine az 25 ?_;refine az 26 ?_;refine az 27 ?_;refine az 28 ?_;refine az 29 ?_;refine az 30 ?_;refine az 31 ?_;refine az 32 ?_;refine az 33 ?_;refine az 34 ?_;refine az 35 ?_;refine az 36 ?_;refine az 37 ?_;refine az 38 ?_;refine az 39 ?_;refine az 40 ?_;refine az 41 ?_;refine az 42 ?_;refine az 43 ?_;refine az 44 ?_;refine az 45 ?_;refine az 46 ?_;refine az 47 ?_;refine az 48 ?_;refine az 49 ?_;refine az 50 ?_;refine az 51 ?_;refine az 52 ?_;refine az 53 ?_;refine fc ?_;clear am;go_wp2_with fail
  go_meet
  exact ⟨rfl,HN2.out,HO2.out⟩
 case rest =>
 obtain ⟨rfl,hn2,ho2⟩:=hcut;rename World=>W2;have H2:=ab hn2;have HB2:=ab (ho2.keeps HBX.out HMR.out);have HMS2:=ab (HMG.out.step ho2 (by simpa using HRA.out) (Ext.refl _ _));have M2:Hid (Mv A A X X w W2):=ab (HM0.out.trans (Mv.only ho2 (by simpa using HRX.out)));have hm3:W2.drew.cell? ⟨M,3,none⟩=some (.slice (some ⟨b,off,none⟩) m.N.length c):=(af HB2.out 3).trans rfl;have hn0c:W2.drew.cell? ⟨b,off,none⟩=some (.int .i64 n0):=(HKK.out W2 ho2 hn2).2.2.2.2.2;obtain ⟨vl2,gv2,gn2,gm2,gh2,hcell2⟩:=hn2.cells;have hr6:W2.drew.cell? ⟨r,6,none⟩=some (.int .i64 s1.term):=by
  have h9:=af hcell2 6;exact h9.trans rfl
 have HXA2:=ab hn2.xA;clear hn2 ho2 hcell2 HDN HK0 HKK HBX HM0 HMR;have HEN:=ab (λV (hb:Below W2.heap.size W2 V)=>me (H2.out.below hb) HWF.out n0 (-1));have HWE:=ab (iz HWF.out n0 (-1) (by omega) (by omega) (by omega) (by have:=HWF.out.n1;omega));have HEE:=ab (BD (s:=s1) (k:=k) n0 (-1));go_upto_region 3 with (fail)
 go_cut [76] (λv wx=>∃p:Bool×Rp×Dk,p=(if s1.term<n0 then bx s1 k n0 (-1) else (true,s1,k))/\v = .bool (!p.1)/\NdP W2 wx A X r d l p.2.1 p.2.2)
 case first =>
  as_aux_lemma =>
  by_cases hlt:s1.term<n0
  ·have glt:decide (s1.term<n0)=true:=bV hlt;have HEN:=ab (HEN.out W2.drew (ap W2 1));have HMD:Hid (Mv A A X X W2 W2.drew):=ab (Mv.below (ap W2 1));have HK4F:Hid (∀w4 s4 k4,NdP W2.drew w4 A X r d l s4 k4->w4.cell? ⟨M,3,none⟩=some (.slice (some ⟨b,off,none⟩) m.N.length c)/\w4.cell? ⟨b,off,none⟩=some (.int .i64 n0)):=ab (λw4 s4 k4 hn=>by
    obtain ⟨A4,X4,h4,m4⟩:=hn;have hb4:W2.drew.heap[M]? = _:=HB2.out;refine ⟨(af (m4.mv.only.keeps hb4 (λhm=>HMA.out (HXA2.out _ hm))) 3).trans rfl,m4.mv.only.cell hn0c (λhm=>?_)⟩;obtain ⟨ao',c',e,_,_,_,h3⟩:=HMS2.out.n;cases e;exact (h3 _ rfl).1 (HXA2.out _ hm))
   clear HWE HEE H2;have HIF:Hid (bx s1 k n0 (-1)=if s1.term<n0 then bx s1 k n0 (-1) else (true,s1,k)):=ab (ax hlt).symm;generalize bx s1 k n0 (-1)=p at *;obtain ⟨ok,s3,k3⟩:=p
   (try simp only at HEN)
   refine wp_region_held_drew (S:=λw'=>w'.cell? ⟨M,3,none⟩=some (.slice (some ⟨b,off,none⟩) m.N.length c)/\w'.cell? ⟨b,off,none⟩=some (.int .i64 n0)) (by kernel_rfl) ⟨hm3,hn0c⟩ (λam=>?_);refine az 0 ?_;refine az 1 ?_;refine az 2 ?_;refine az 3 ?_;refine az 4 ?_;refine az 5 ?_;refine az 6 ?_;generalize W2.drew=V2 at *;refine cf 7 λK hK=>?_;go_simp
   refine hK.out _ _ am (λam=>?_);clear hK K;refine bu ?_;refine az 8 ?_;refine az 9 ?_;refine az 10 ?_;refine az 11 ?_;refine az 12 ?_;refine az 13 ?_;refine az 14 ?_;refine cf 15 λK hK=>?_;go_simp
   refine HEN.out.mono ?_;rintro e w4 ⟨rfl,hn4⟩;have HN4:=ab hn4;have HK4:=ab (HK4F.out _ _ _ hn4);clear hn4;go_wp2_with fail
   refine hK.out _ _ HK4.out (λam=>?_);clear hK K;refine bu ?_;refine az 16 ?_;refine az 17 ?_;refine fc ?_;clear am;go_wp2_with fail
   go_meet
   exact ⟨(ok,s3,k3),HIF.out,rfl,NdP.trans HMD.out HN4.out⟩
  ·have HIF:Hid ((true,s1,k)=if s1.term<n0 then bx s1 k n0 (-1) else (true,s1,k)):=ab (by rw [aw hlt]);have glt:decide (s1.term<n0)=false:=bq hlt;have hm3:W2.cell? ⟨M,3,none⟩=some (.slice (some ⟨b,off,none⟩) m.N.length c):=hm3;have hn0c:W2.cell? ⟨b,off,none⟩=some (.int .i64 n0):=hn0c;have hr6:W2.cell? ⟨r,6,none⟩=some (.int .i64 s1.term):=hr6;go_quiet (fail)
   go_wp2_with fail
   go_meet
   exact ⟨_,HIF.out,rfl,(H2.out.below (ap W2 nq)).ndp (Mv.below (ap W2 nq))⟩
 case rest =>
 obtain ⟨p,hp,rfl,hn3⟩:=hcut;rename World=>W3;have HP3:Hid (Wf p.2.1 p.2.2/\p.2.1.n=s.n/\p.2.1.own=s.own/\(p.1=true->n0<=p.2.1.term)):=ab (by
  rw [hp];by_cases hlt:s1.term<n0
  ·rw [ax hlt];exact ⟨HWE.out,HEE.out.1.trans HSN.out.1,HEE.out.2.1.trans HSN.out.2,λh=>by rw [HEE.out.2.2 h];exact aM _⟩
  ·rw [aw hlt];exact ⟨HWF.out,HSN.out.1,HSN.out.2,λ_=>by show n0<=s1.term;omega⟩)
 have HE3:Hid (fC s k m=if p.1 then yt p.2.1 p.2.2 m else ([],p.2)):=ab (by rw [HE.out,hp]);have HN3:=ab hn3;clear hp hn3 HEN HWE HEE HE HWF hr6 hm3 hn0c;obtain ⟨ok,s3,k3⟩:=p
 (try simp only at HP3);(try simp only at HE3);(try simp only at HN3)
 cases ok with
 | false =>
  rw [aw (by decide)] at HE3;have HF:Hid (MsP w W3 A X r d l (.returned (.slice none 0 0)) ([],s3,k3)):=ab (MsP.none (NdP.trans M2.out HN3.out));go_wp2_with fail
  go_ret
  rw [HE3.out];exact HF.out
 | true =>
  rw [ax rfl] at HE3;obtain ⟨A3,X3,h3,m3⟩:=HN3.out;have H3:=ab h3;have M3:=ab (M2.out.trans m3);have HB3:=ab (m3.mv.only.keeps HB2.out (λhm=>HMA.out (HXA2.out _ hm)));have HMS3:=ab (HMS2.out.step m3.mv.only HXA2.out m3.ext);have HMA3:Hid (M∉A3):=ab (λhm=>by
   rcases m3.ext _ hm with h1 | h1
   ·exact HMA.out h1
   ·have:=aU HB2.out;omega)
  have HW3:=ab HP3.out.1;obtain ⟨fr,hfr⟩:∃fr:Nat,m.frm=(fr:Int):=⟨m.frm.toNat,by omega⟩
  have HFR:=ab hfr;have HFN:Hid (fr<s3.n):=ab (by rw [HP3.out.2.1];omega);have HLE:Hid (m.N.getD 0 0<=s3.term):=ab (by rw [HN0E.out];exact HP3.out.2.2.2 rfl);have HLEN:Hid (2<=m.N.length):=ab (by omega);have hm2:W3.cell? ⟨M,2,none⟩=some (.int .i64 m.kind):=(af HB3.out 2).trans rfl;have hm0:W3.cell? ⟨M,0,none⟩=some (.int .i64 m.frm):=(af HB3.out 0).trans rfl;have hm1:W3.cell? ⟨M,1,none⟩=some (.int .i64 m.dst):=(af HB3.out 1).trans rfl;have hm3:W3.cell? ⟨M,3,none⟩=some (.slice (some ⟨b,off,none⟩) m.N.length c):=(af HB3.out 3).trans rfl;have hm4:W3.cell? ⟨M,4,none⟩=some (.slice ub m.B.length bc):=(af HB3.out 4).trans rfl;have HASK:Hid (Calls Try.prog 35 #[.pointer (some ⟨r,0,none⟩),.agg #[.int .i64 m.frm,.int .i64 m.dst,.int .i64 m.kind,.slice (some ⟨b,off,none⟩) m.N.length c,.slice ub m.B.length bc]] W3 λe w'=>MsP W3 w' A3 X3 r d l e (dV s3 k3 m)):=ab (wY h3 HW3.out m _ _ HMS3.out (by omega) (by rw [HFR.out];exact_mod_cast HFN.out));have HVOT:Hid (Calls Try.prog 36 #[.pointer (some ⟨r,0,none⟩),.agg #[.int .i64 m.frm,.int .i64 m.dst,.int .i64 m.kind,.slice (some ⟨b,off,none⟩) m.N.length c,.slice ub m.B.length bc]] W3 λe w'=>MsP W3 w' A3 X3 r d l e (eM s3 k3 m)):=ab (vf h3 HW3.out m _ _ HMS3.out fr HFR.out HFN.out HLEN.out);have HLAY:Hid (Calls Try.prog 37 #[.pointer (some ⟨r,0,none⟩),.agg #[.int .i64 m.frm,.int .i64 m.dst,.int .i64 m.kind,.slice (some ⟨b,off,none⟩) m.N.length c,.slice ub m.B.length bc]] W3 λe w'=>MsP W3 w' A3 X3 r d l e (dK s3 k3 m)):=ab (zC h3 HW3.out m _ _ HMS3.out HLEN.out HLE.out hN1m hB);have HANS:Hid (Calls Try.prog 38 #[.pointer (some ⟨r,0,none⟩),.agg #[.int .i64 m.frm,.int .i64 m.dst,.int .i64 m.kind,.slice (some ⟨b,off,none⟩) m.N.length c,.slice ub m.B.length bc]] W3 λe w'=>MsP W3 w' A3 X3 r d l e ((ct s3 m).1,(ct s3 m).2,k3)):=ab (qh h3 HW3.out m _ _ HMS3.out fr HFR.out HFN.out HLEN.out);have HKIND:Hid (yt s3 k3 m=if m.kind=1 then dV s3 k3 m else if m.kind=2 then eM s3 k3 m else if m.kind=3 then dK s3 k3 m else if m.kind=4 then ((ct s3 m).1,(ct s3 m).2,k3) else if m.kind=5 then (if m.N.length=3 then ([],{ s3 with heard:=s3.heard.set m.frm.toNat ((s3.clock:Int),m.N.getD 1 0,m.N.getD 2 0)},k3) else ([],s3,k3)) else ([],s3,k3)):=ab rfl;clear h3 m3 hfr hB hN1m;by_cases k1:m.kind=1
  ·have HR:Hid (yt s3 k3 m=dV s3 k3 m):=ab (by rw [HKIND.out,ax k1]);have f1:(m.kind==1)=true:=by simpa using k1
   clear k1;as_aux_lemma =>
   go_wp2_with fail
   refine HASK.out.mono ?_;intro e w4 h4;have H4:=ab (MsP.trans M3.out h4);obtain ⟨v4,_,_,rfl,_⟩:=h4;go_wp2_with fail
   go_ret
   rw [HE3.out,HR.out];exact H4.out
  ·have f1:(m.kind==1)=false:=by simpa using k1
   by_cases k2:m.kind=2
   ·have HR:Hid (yt s3 k3 m=eM s3 k3 m):=ab (by rw [HKIND.out,aw k1,ax k2]);have f2:(m.kind==2)=true:=by simpa using k2
    clear k1 k2;as_aux_lemma =>
    go_wp2_with fail
    refine HVOT.out.mono ?_;intro e w4 h4;have H4:=ab (MsP.trans M3.out h4);obtain ⟨v4,_,_,rfl,_⟩:=h4;go_wp2_with fail
    go_ret
    rw [HE3.out,HR.out];exact H4.out
   ·have f2:(m.kind==2)=false:=by simpa using k2
    by_cases k4:m.kind=3
    ·have HR:Hid (yt s3 k3 m=dK s3 k3 m):=ab (by rw [HKIND.out,aw k1,aw k2,ax k4]);have f3:(m.kind==3)=true:=by simpa using k4
     clear k1 k2 k4;as_aux_lemma =>
     go_wp2_with fail
     refine HLAY.out.mono ?_;intro e w4 h4;have H4:=ab (MsP.trans M3.out h4);obtain ⟨v4,_,_,rfl,_⟩:=h4;go_wp2_with fail
     go_ret
     rw [HE3.out,HR.out];exact H4.out
    ·have f3:(m.kind==3)=false:=by simpa using k4
     by_cases k5:m.kind=4
     ·have HR:Hid (yt s3 k3 m=((ct s3 m).1,(ct s3 m).2,k3)):=ab (by rw [HKIND.out,aw k1,aw k2,aw k4,ax k5]);have f4:(m.kind==4)=true:=by simpa using k5
      clear k1 k2 k4 k5;as_aux_lemma =>
      go_wp2_with fail
      refine HANS.out.mono ?_;intro e w4 h4;have H4:=ab (MsP.trans M3.out h4);obtain ⟨v4,_,_,rfl,_⟩:=h4;go_wp2_with fail
      go_ret
      rw [HE3.out,HR.out];exact H4.out
     ·have f4:(m.kind==4)=false:=by simpa using k5
      by_cases k6:m.kind=5
      ·have f5:(m.kind==5)=true:=by simpa using k6
       by_cases k7:m.N.length=3
       ·have HR:Hid (yt s3 k3 m=([],{ s3 with heard:=s3.heard.set fr ((s3.clock:Int),m.N.getD 1 0,m.N.getD 2 0)},k3)):=ab (by rw [HKIND.out,aw k1,aw k2,aw k4,aw k5,ax k6,ax k7,HFR.out,dj]);clear k1 k2 k4 k5 k6;have f6:((m.N.length:Int)==3)=true:=by simp;omega
        obtain ⟨D,L,R,vl,gv,gn,gm,gh,hnc,hX3⟩:=H3.out;have HNC:=ab hnc;have HX3:=ab hX3;have hgA:gh∈A3:=hnc.rA _ hnc.hR;have hMA3:=HMA3.out;obtain ⟨b9,off9,c9,hc9⟩:=vT HMS3.out.n (by omega);have e9:=hc9.v;cases e9;have hbgh:b≠gh:=λe=>by
         obtain ⟨ao',c',e1,_,_,_,h3⟩:=HMS3.out.n;cases e1;exact (h3 _ rfl).1 (e ▸ hgA)
        have hMgh:M≠gh:=λe=>hMA3 (e ▸ hgA);have hrgh:r≠gh:=b8 hnc.cell hnc.heard (by decide);have hfl:fr<s3.heard.length:=by rw [HW3.out.hl];exact HFN.out
        have hfn:(fr:Int)<(s3.n:Int):=by have:=HFN.out;omega
        have hl3:(1:Int)<(m.N.length:Int):=by omega
        have hl4:(2:Int)<(m.N.length:Int):=by omega
        have hS:∀w',Only [gh] W3.drew w'->w'.cell? ⟨r,17,none⟩=some (.slice (some ⟨gh,0,none⟩) s3.n s3.n)/\w'.cell? ⟨r,16,none⟩=some (.int .i64 (s3.clock:Int))/\w'.cell? ⟨M,0,none⟩=some (.int .i64 (fr:Int))/\w'.cell? ⟨M,3,none⟩=some (.slice (some ⟨b,off,none⟩) m.N.length c)/\w'.cell? ⟨b,off+1,none⟩=some (.int .i64 (m.N.getD 1 0))/\w'.cell? ⟨b,off+2,none⟩=some (.int .i64 (m.N.getD 2 0)):=λw' ho=>by
         have k1:W3.drew.cell? ⟨r,17,none⟩=some (.slice (some ⟨gh,0,none⟩) s3.n s3.n):=by rw [show W3.drew.cell? ⟨r,17,none⟩=W3.cell? ⟨r,17,none⟩ from rfl,af hnc.cell];rfl
         have k2:W3.drew.cell? ⟨r,16,none⟩=some (.int .i64 (s3.clock:Int)):=by rw [show W3.drew.cell? ⟨r,16,none⟩=W3.cell? ⟨r,16,none⟩ from rfl,af hnc.cell];rfl
         have k3:W3.drew.cell? ⟨M,0,none⟩=some (.int .i64 (fr:Int)):=by rw [<-HFR.out];exact hm0
         have k4:W3.drew.cell? ⟨b,off+1,none⟩=some (.int .i64 (m.N.getD 1 0)):=hc9.at_ 1 (by omega);have k5:W3.drew.cell? ⟨b,off+2,none⟩=some (.int .i64 (m.N.getD 2 0)):=hc9.at_ 2 (by omega);have k6:W3.drew.cell? ⟨M,3,none⟩=some (.slice (some ⟨b,off,none⟩) m.N.length c):=hm3;exact ⟨ho.cell k1 (by simpa using hrgh),ho.cell k2 (by simpa using hrgh),ho.cell k3 (by simpa using hMgh),ho.cell k6 (by simpa using hMgh),ho.cell k4 (by simpa using hbgh),ho.cell k5 (by simpa using hbgh)⟩
        have HS:=ab hS;have hh:W3.drew.heap[gh]? = some (.cells (fg s3.heard) 76 (0,0)):=hnc.heard;have hsz:(fg s3.heard).size=s3.heard.length*3:=rO _;generalize hx1g:m.N.getD 1 0=x1 at *;generalize hx2g:m.N.getD 2 0=x2 at *;have HFH:Hid (MsP w (((W3.drew.setCell ⟨gh,fr*3,none⟩ (.int .i64 (s3.clock:Int))).setCell ⟨gh,fr*3+1,none⟩ (.int .i64 x1)).setCell ⟨gh,fr*3+2,none⟩ (.int .i64 x2)) A X r d l (.returned (.slice none 0 0)) ([],{ s3 with heard:=s3.heard.set fr ((s3.clock:Int),x1,x2)},k3)):=ab (by
         have ho:Only [gh] W3.drew (((W3.drew.setCell ⟨gh,fr*3,none⟩ (.int .i64 (s3.clock:Int))).setCell ⟨gh,fr*3+1,none⟩ (.int .i64 x1)).setCell ⟨gh,fr*3+2,none⟩ (.int .i64 x2)):=(((Only.refl _ _).setCell (by simp) _).setCell (by simp) _).setCell (by simp) _;have h9:=(HNC.out.below (ap W3 1)).new_heard ho (s3.heard.set fr ((s3.clock:Int),x1,x2)) (by
          rw [aZ (aZ (aZ hh (fr*3) _) (fr*3+1) _) (fr*3+2) _,<-rP _ _ _ hfl])
         exact MsP.trans M3.out (MsP.none (NdP.trans (Mv.below (ap W3 1)) ((h9.nd HX3.out).ndp (Mv.only ho (λb hb=>by rw [aj.1 hb];exact (HX3.out gh).2 (.inr (.inr HNC.out.hR))))))))
        have HOF:Hid (Only [gh] W3.drew (((W3.drew.setCell ⟨gh,fr*3,none⟩ (.int .i64 (s3.clock:Int))).setCell ⟨gh,fr*3+1,none⟩ (.int .i64 x1)).setCell ⟨gh,fr*3+2,none⟩ (.int .i64 x2))):=ab ((((Only.refl _ _).setCell (by simp) _).setCell (by simp) _).setCell (by simp) _);obtain ⟨z0,hx0⟩:∃z,W3.drew.cell? ⟨gh,fr*3,none⟩=some z:=by rw [af hh];exact ⟨_,sH (by rw [hsz];omega)⟩
        have hh1:=aZ hh (fr*3) (.int .i64 (s3.clock:Int));obtain ⟨z1,hx1⟩:∃z,(W3.drew.setCell ⟨gh,fr*3,none⟩ (.int .i64 (s3.clock:Int))).cell? ⟨gh,fr*3+1,none⟩=some z:=by rw [af hh1];exact ⟨_,sH (by rw [Array.size_setIfInBounds,hsz];omega)⟩
        have hh2:=aZ hh1 (fr*3+1) (.int .i64 x1);obtain ⟨z2,hx2⟩:∃z,((W3.drew.setCell ⟨gh,fr*3,none⟩ (.int .i64 (s3.clock:Int))).setCell ⟨gh,fr*3+1,none⟩ (.int .i64 x1)).cell? ⟨gh,fr*3+2,none⟩=some z:=by rw [af hh2];exact ⟨_,sH (by rw [Array.size_setIfInBounds,Array.size_setIfInBounds,hsz];omega)⟩
        have HX0:=ab (And.intro hx0 (aO hh (fr*3)));have HX1:=ab (And.intro hx1 (aO hh1 (fr*3+1)));have HX2:=ab (And.intro hx2 (aO hh2 (fr*3+2)));clear hnc hX3 hgA hMA3 hc9 hbgh hMgh hrgh hS f1 f2 f3 f4 hm1 hm4 hh hh1 hh2 hx0 hx1 hx2 hx1g hx2g hsz;go_upto_region 16 with (fail)
        clear hm0 hm2 hm3;as_aux_lemma =>
        refine wp_region_held_drew (S:=λw'=>w'.cell? ⟨r,17,none⟩=some (.slice (some ⟨gh,0,none⟩) s3.n s3.n)/\w'.cell? ⟨r,16,none⟩=some (.int .i64 (s3.clock:Int))/\w'.cell? ⟨M,0,none⟩=some (.int .i64 (fr:Int))/\w'.cell? ⟨M,3,none⟩=some (.slice (some ⟨b,off,none⟩) m.N.length c)/\w'.cell? ⟨b,off+1,none⟩=some (.int .i64 x1)/\w'.cell? ⟨b,off+2,none⟩=some (.int .i64 x2)) (by kernel_rfl) (HS.out _ (Only.refl _ _)) (λam=>?_);refine az 0 ?_;refine az 1 ?_;refine az 2 ?_;refine az 3 ?_;refine az 4 ?_;refine az 5 ?_;refine az 6 ?_;refine az 7 ?_;refine az 8 ?_;refine az 9 ?_;refine az 10 ?_;refine az 11 ?_;refine az 12 ?_;refine az 13 ?_;refine az 14 ?_;refine az 15 ?_;refine az 16 ?_;refine az 17 ?_;refine az 18 ?_;refine az 19 ?_;generalize W3.drew=V3 at *;refine cf 20 λK hK=>?_;obtain ⟨y0,f0⟩:=HX0.out;obtain ⟨y1,f1⟩:=HX1.out;obtain ⟨y2,f2⟩:=HX2.out;go_simp
        clear y0 f0 y1 f1 y2 f2;refine hK.out _ _ (HS.out _ HOF.out) (λam=>?_);clear hK K;refine bu ?_;refine fc ?_;clear am;go_wp2_with fail
        go_ret
        rw [HE3.out,HR.out];exact HFH.out
       ·have HR:Hid (yt s3 k3 m=([],s3,k3)):=ab (by rw [HKIND.out,aw k1,aw k2,aw k4,aw k5,ax k6,aw k7]);have f6:((m.N.length:Int)==3)=false:=by simp;omega
        have HF:Hid (MsP w W3 A X r d l (.returned (.slice none 0 0)) ([],s3,k3)):=ab (MsP.trans M3.out (MsP.none (H3.out.ndp (Mv.refl _ _ _))));clear k1 k2 k4 k5 k6 k7;as_aux_lemma =>
        go_wp2_with fail
        go_ret
        rw [HE3.out,HR.out];exact HF.out
      ·have f5:(m.kind==5)=false:=by simpa using k6
       have HR:Hid (yt s3 k3 m=([],s3,k3)):=ab (by rw [HKIND.out,aw k1,aw k2,aw k4,aw k5,aw k6]);have HF:Hid (MsP w W3 A X r d l (.returned (.slice none 0 0)) ([],s3,k3)):=ab (MsP.trans M3.out (MsP.none (H3.out.ndp (Mv.refl _ _ _))));clear k1 k2 k4 k5 k6;as_aux_lemma =>
       go_wp2_with fail
       go_ret
       rw [HE3.out,HR.out];exact HF.out
end
section
variable {w w':World} {A A' X X':List Nat} {r d l:Nat} {s s':Rp} {k k':Dk}
theorem BC (h:Nd w A X r d l s k) (hw:Wf s k) (m:Msg) (v u:Value) (hm:IsMsg w A m v u) (hN1m:m.N.getD 1 0<=4611686018427387904) (hB:m.B.length<=1000000) (hlm:m.N.length<=1000000000) :
  Calls Try.prog 19 #[.pointer (some ⟨r,0,none⟩),eA m v u] w λe w'=>MsP w w' A X r d l e (fC s k m):=by
 cases hb:(ew s k||mh (aY s k) m) with
 | true =>
  have e:fC s k m=([],aY s k,k):=by rw [uO,ax (by exact hb)]
  rw [e];exact BB h m v u hm.z hb hw.n5 hlm
 | false =>
  rw [dZ] at hb;exact zY h hw m v u hm hb.1 hb.2 hN1m hB hlm
end
structure Nod where
 s:Rp
 k:Dk
 up:Bool
structure Mn where
 nodes:List Nod
 q:List Msg
 long:List (List UInt8)
 bad:Bool
 gn:Nat
def DB:Rp:=dz 0 1 0 []
def Dp:Nod:=⟨DB,⟨0,true,0,none⟩,false⟩
def Mn.at (S:Mn) (i:Nat):Nod:=S.nodes.getD i Dp
structure NodeAt (w:World) (A X:List Nat) (r d l:Nat) (nd:Nod):Prop where
 up:nd.up=true->Nd w A X r d l nd.s nd.k
 dn:nd.up=false->IsDk w X d nd.k
 xA:∀b∈X,b∈A
theorem Nd.keepS {w w':World} {A A' X S:List Nat} {r d l:Nat} {s:Rp} {k:Dk} (h:Nd w A X r d l s k) (ho:Only S w w') (hS:∀b∈S,b∈A) (hd:∀b∈X,b∉S) (he:Ext A A' w) (hs:∀b∈A,b∈A') (ha:∀b∈A',b<w'.heap.size):Nd w' A' X r d l s k:=by
 obtain ⟨D,L,R,vl,gv,gn,gm,gh,h,hX⟩:=h;have hD:∀b∈D,b∉S:=λb hb=>hd b ((hX b).2 (.inl hb));have hL:∀b∈L,b∉S:=λb hb=>hd b ((hX b).2 (.inr (.inl hb)));have hR:∀b∈R,b∉S:=λb hb=>hd b ((hX b).2 (.inr (.inr hb)));exact ⟨D,L,R,vl,gv,gn,gm,gh,⟨⟨h.wd.wl.keep ho hL hS he,h.wd.dk.keep ho hD,h.wd.dis,λb hb=>hs b (h.wd.dA b hb),λb hb=>hs b (h.wd.lA b hb),ha⟩,
  ho.keeps h.cell (hR _ h.rR),h.log.step ho hS he,ho.keeps h.votes (hR _ h.vR),ho.keeps h.next (hR _ h.nR),ho.keeps h.mat (hR _ h.mR),ho.keeps h.heard (hR _ h.hR),h.nm,h.rR,h.vR,h.nR,h.mR,h.hR,h.dRD,h.dRL,λb hb=>hs b (h.rA b hb)⟩,hX⟩
theorem NodeAt.keep {w w':World} {A A' X S:List Nat} {r d l:Nat} {nd:Nod} (h:NodeAt w A X r d l nd) (ho:Only S w w') (hS:∀b∈S,b∈A) (hd:∀b∈X,b∉S) (he:Ext A A' w) (hs:∀b∈A,b∈A') (ha:∀b∈A',b<w'.heap.size):NodeAt w' A' X r d l nd :=
 ⟨λhu=>(h.up hu).keepS ho hS hd he hs ha,λhu=>(h.dn hu).keep ho hd,λb hb=>hs b (h.xA b hb)⟩
def ia (p:Nat):Value:=.pointer (some ⟨p,0,none⟩)
def f9 (f:Nat->Nat) (n:Nat):List Value:=(List.range n).map λi=>ia (f i)
structure SyC (w:World) (A Y:List Nat) (c n:Nat) (S:Mn) (rs ds ls:Nat->Nat) (Xs:Nat->List Nat) (vr vd:Value) (gu:Nat) (qv gv lv:Value):Prop where
 cell:w.heap[c]? = some (.cells #[vr,vd,.slice (some ⟨gu,0,none⟩) n n,qv,gv,lv,.bool S.bad] 38 (0,0))
 rr:w.ownsRow 0 39 1 vr n (f9 rs n)
 dr:w.ownsRow 0 54 1 vd n (f9 ds n)
 up:w.heap[gu]? = some (.cells (cQ (S.nodes.map Nod.up)) 4 (0,0))
 node:∀i,i<n->NodeAt w A (Xs i) (rs i) (ds i) (ls i) (S.at i)
 q:IsQ w A Y qv S.q
 gave:∃vs,w.ownsRow 0 29 1 gv S.gn vs
 long:ImmL w A lv S.long
 nl:S.nodes.length=n
 n5:n<=5
 cY:c∈Y
 rY:∀b,vr.ownBlock=some b->b∈Y
 dY:∀b,vd.ownBlock=some b->b∈Y
 uY:gu∈Y
 gY:∀b,gv.ownBlock=some b->b∈Y
 yx:∀i,i<n->Dis Y (Xs i)
 xx:∀i j,i<n->j<n->i≠j->Dis (Xs i) (Xs j)
 yA:∀b∈Y,b∈A
 alt:∀b∈A,b<w.heap.size
structure Sy (w:World) (A Z:List Nat) (c n:Nat) (S:Mn):Prop where
 ex:∃Y rs ds ls Xs vr vd gu qv gv lv,SyC w A Y c n S rs ds ls Xs vr vd gu qv gv lv/\∀b,b∈Z↔b∈Y\/∃i,i<n/\b∈Xs i
structure SyP (w w':World) (A Z:List Nat) (c n:Nat) (S:Mn):Prop where
 ex:∃A' Z',Sy w' A' Z' c n S/\Mv A A' Z Z' w w'
section
variable {w w':World} {A A' Y Z Z':List Nat} {c n:Nat} {S:Mn} {rs ds ls:Nat->Nat} {Xs:Nat->List Nat} {vr vd:Value} {gu:Nat} {qv gv lv:Value}
theorem SyP.trans {w'':World} {S':Mn} (m:Mv A A' Z Z' w w') (h:SyP w' w'' A' Z' c n S'):SyP w w'' A Z c n S':=by
 obtain ⟨A2,Z2,h,m2⟩:=h;exact ⟨A2,Z2,h,m.trans m2⟩
theorem SyC.keep {T:List Nat} (h:SyC w A Y c n S rs ds ls Xs vr vd gu qv gv lv) (ho:Only T w w') (hT:∀b∈T,b∈A) (hY:∀b∈Y,b∉T) (hX:∀i,i<n->∀b∈Xs i,b∉T) (he:Ext A A' w) (hs:∀b∈A,b∈A') (ha:∀b∈A',b<w'.heap.size):SyC w' A' Y c n S rs ds ls Xs vr vd gu qv gv lv:=by
 obtain ⟨vs,g1⟩:=h.gave;exact ⟨ho.keeps h.cell (hY _ h.cY),bg h.rr ho (λb hb=>hY _ (h.rY b hb)),bg h.dr ho (λb hb=>hY _ (h.dY b hb)),ho.keeps h.up (hY _ h.uY),λi hi=>(h.node i hi).keep ho hT (hX i hi) he hs ha,
  h.q.keep ho hT (λb hb _ _=>hY b hb) he (λb hb=>hb),⟨vs,bg g1 ho (λb hb=>hY _ (h.gY b hb))⟩,h.long.step ho hT he,h.nl,h.n5,h.cY,h.rY,h.dY,h.uY,h.gY,h.yx,h.xx,λb hb=>hs b (h.yA b hb),ha⟩
theorem SyC.below (h:SyC w A Y c n S rs ds ls Xs vr vd gu qv gv lv) (hb:Below w.heap.size w w'):SyC w' A Y c n S rs ds ls Xs vr vd gu qv gv lv :=
 h.keep (Only.ofBelow hb []) (λb hb=>by cases hb) (λb _=>by simp) (λi _ b _=>by simp) (Ext.refl _ _) (λb hb=>hb) (λb hb2=>aH (h.alt b hb2) hb.size)
theorem Sy.below (h:Sy w A Z c n S) (hb:Below w.heap.size w w'):Sy w' A Z c n S:=by
 obtain ⟨Y,rs,ds,ls,Xs,vr,vd,gu,qv,gv,lv,h,hz⟩:=h;exact ⟨Y,rs,ds,ls,Xs,vr,vd,gu,qv,gv,lv,h.below hb,hz⟩
def gH {β:Type} (f:Nat->β) (i:Nat) (x:β):Nat->β:=λj=>if j=i then x else f j
theorem dC {β:Type} (f:Nat->β) (i:Nat) (x:β):gH f i x i=x:=ax rfl
theorem de {β:Type} (f:Nat->β) {i j:Nat} (x:β) (h:j≠i):gH f i x j=f j:=aw h
def Mn.set (S:Mn) (i:Nat) (nd:Nod):Mn:={ S with nodes:=S.nodes.set i nd }
theorem Mn.at_set (S:Mn) (i j:Nat) (nd:Nod) (hi:i<S.nodes.length):(S.set i nd).at j=if j=i then nd else S.at j:=by
 unfold Mn.set Mn.at;simp only [aK,kS];by_cases h:j=i
 ·subst h;rw [ax rfl,ax rfl,ax hi];rfl
 ·rw [aw h,aw (ud h)]
theorem vz {β:Type} (f:Nat->β) (i:Nat):gH f i (f i)=f:=by
 funext j;unfold gH;split
 ·rename_i h;rw [h]
 ·rfl
theorem SyC.call {X':List Nat} {i:Nat} {nd:Nod} (h:SyC w A Y c n S rs ds ls Xs vr vd gu qv gv lv) (hi:i<n) (hm:Mv A A' (Xs i) X' w w') (hn:NodeAt w' A' X' (rs i) (ds i) (ls i) nd) (hu:nd.up=(S.at i).up) (ha:∀b∈A',b<w'.heap.size) :
  SyC w' A' Y c n (S.set i nd) rs ds ls (gH Xs i X') vr vd gu qv gv lv:=by
 have hT:∀b∈Xs i,b∈A:=(h.node i hi).xA;have hY:∀b∈Y,b∉Xs i:=h.yx i hi;have ho:=hm.mv.only;obtain ⟨vs,g1⟩:=h.gave;have hnew:∀P:List Nat,(∀b∈P,b∈A)->Dis P (Xs i)->Dis P X':=λP hP hd b hb hx=>by
  rcases hm.mv.gr b hx with h1 | h1
  ·exact hd b hb h1
  ·have:=h.alt b (hP b hb);omega
 refine ⟨?_,bg h.rr ho (λb hb=>hY _ (h.rY b hb)),bg h.dr ho (λb hb=>hY _ (h.dY b hb)),?_,λj hj=>?_,
  h.q.keep ho hT (λb hb _ _=>hY b hb) hm.ext (λb hb=>hb),⟨vs,bg g1 ho (λb hb=>hY _ (h.gY b hb))⟩,h.long.step ho hT hm.ext,by simp [Mn.set,h.nl],h.n5,h.cY,h.rY,h.dY,h.uY,h.gY,λj hj=>?_,λj1 j2 h1 h2 hne=>?_,λb hb=>hm.sub b (h.yA b hb),ha⟩
 ·exact ho.keeps h.cell (hY _ h.cY)
 ·have e:(S.set i nd).nodes.map Nod.up=S.nodes.map Nod.up:=by
   unfold Mn.set;simp only [List.map_set];rw [hu];have hl:i<(S.nodes.map Nod.up).length:=by rw [aQ,h.nl];exact hi
   have e2:(S.at i).up=(S.nodes.map Nod.up)[i]:=by
    unfold Mn.at;have hl2:i<S.nodes.length:=by rw [h.nl];exact hi
    simp [aK,hl2]
   rw [e2,List.set_getElem_self]
  rw [e];exact ho.keeps h.up (hY _ h.uY)
 ·rw [Mn.at_set _ _ _ _ (by rw [h.nl];exact hi)];by_cases hji:j=i
  ·subst hji;rw [ax rfl,dC];exact hn
  ·rw [aw hji,de _ _ hji];exact (h.node j hj).keep ho hT (h.xx j i hj hi hji) hm.ext hm.sub ha
 ·by_cases hji:j=i
  ·subst hji;rw [dC];exact hnew Y h.yA (h.yx j hj)
  ·rw [de _ _ hji];exact h.yx j hj
 ·by_cases e1:j1=i
  ·subst e1;have e2:j2≠j1:=λe=>hne e.symm;rw [dC,de _ _ e2];exact (hnew (Xs j2) (h.node j2 h2).xA (h.xx j2 j1 h2 h1 e2)).symm
  ·by_cases e2:j2=i
   ·subst e2;rw [dC,de _ _ e1];exact hnew (Xs j1) (h.node j1 h1).xA (h.xx j1 j2 h1 h2 hne)
   ·rw [de _ _ e1,de _ _ e2];exact h.xx j1 j2 h1 h2 hne
theorem j6 {X':List Nat} {i:Nat} (hi:i<n) (hz:∀b,b∈Z↔b∈Y\/∃i,i<n/\b∈Xs i) (hm:Mv A A' (Xs i) X' w w'):∃Z',(∀b,b∈Z'↔b∈Y\/∃j,j<n/\b∈gH Xs i X' j)/\Mv A A' Z Z' w w':=by
 refine ⟨Z++X',λb=>?_,⟨⟨hm.mv.only.mono (λb hb=>(hz b).2 (.inr ⟨i,hi,hb⟩)),λb hb=>?_,λb hb=>aD _ hb⟩,hm.ext,hm.sub⟩⟩
 ·rw [av,hz b];constructor
  ·rintro ((h1 | ⟨j,hj,hb⟩) | h1)
   ·exact .inl h1
   ·by_cases e:j=i
    ·subst e;exact .inr ⟨j,hj,by rw [dC];exact hm.mv.sub b hb⟩
    ·exact .inr ⟨j,hj,by rw [de _ _ e];exact hb⟩
   ·exact .inr ⟨i,hi,by rw [dC];exact h1⟩
  ·rintro (h1 | ⟨j,hj,hb⟩)
   ·exact .inl (.inl h1)
   ·by_cases e:j=i
    ·subst e;rw [dC] at hb;exact .inr hb
    ·rw [de _ _ e] at hb;exact .inl (.inr ⟨j,hj,hb⟩)
 ·rcases av.1 hb with h1 | h1
  ·exact .inl h1
  ·rcases hm.mv.gr b h1 with h2 | h2
   ·exact .inl ((hz b).2 (.inr ⟨i,hi,h2⟩))
   ·exact .inr h2
end
section
variable {w w':World} {A A' Y Z Z':List Nat} {c n:Nat} {S:Mn} {rs ds ls:Nat->Nat} {Xs:Nat->List Nat} {vr vd:Value} {gu:Nat} {qv gv lv:Value}
theorem ImmI.less {v:Value} {l:List Int} (h:ImmI w A' v l) (hs:∀b∈A,b∈A'):ImmI w A v l:=by
 obtain ⟨ao,c,h1,h2,h3,h4,h5⟩:=h;exact ⟨ao,c,h1,h2,h3,h4,λp hp=>⟨λhm=>(h5 p hp).1 (hs _ hm),(h5 p hp).2⟩⟩
theorem ImmL.less {v:Value} {ls:List (List UInt8)} (h:ImmL w A' v ls) (hs:∀b∈A,b∈A'):ImmL w A v ls:=by
 rcases h with h | ⟨g,c,cur,h1,h2,h3,h4,h5,h6⟩
 ·exact .inl h
 ·refine .inr ⟨g,c,cur,h1,h2,h3,λhm=>h4 (hs _ hm),h5,λi hi=>?_⟩;obtain ⟨u,k1,k2⟩:=h6 i hi;exact ⟨u,k1,k2.mono hs⟩
theorem IsMsg.less {m:Msg} {v u:Value} (h:IsMsg w A' m v u) (hs:∀b∈A,b∈A'):IsMsg w A m v u:=⟨h.n.less hs,h.b.less hs⟩
def MsRow (w:World) (A:List Nat) (v:Value) (ms:List Msg):Prop :=
 (v = .slice none 0 0/\ms=[])\/∃g c cur,v = .slice (some ⟨g,0,none⟩) ms.length c/\ms.length<=c/\c<=9223372036854775807/\g∉A/\w.heap[g]? = some (.cells cur 51 (0,0))/\∀i,(h:i<ms.length)->QAt w A cur i ms[i]
theorem MsRow.step {v:Value} {ms:List Msg} {T:List Nat} (h:MsRow w A v ms) (ho:Only T w w') (hT:∀b∈T,b∈A) (he:Ext A A' w):MsRow w' A' v ms:=by
 rcases h with h | ⟨g,c,cur,h1,h2,h3,h4,h5,h6⟩
 ·exact .inl h
 ·refine .inr ⟨g,c,cur,h1,h2,h3,λhm=>?_,ho.keeps h5 (λhm=>h4 (hT _ hm)),λi hi=>(h6 i hi).step ho hT he⟩;rcases he g hm with h7 | h7
  ·exact h4 h7
  ·have:=aU h5;omega
theorem OwnMs.row {base:Nat} {v:Value} {ms:List Msg} (h:OwnMs w A base v ms) (hv:∀b,v.ownBlock=some b->b∉A):MsRow w A v ms:=by
 obtain ⟨ps,h1,h2,h3⟩:=h;have hl:ps.length=ms.length:=by rw [<-h1,aQ]
 rcases h2.2 with ⟨rfl,h0⟩ | ⟨g,cap,cur,rfl,hg,hh,hn,hm,hs,ht⟩
 ·exact .inl ⟨rfl,bC.1 h0⟩
 ·unfold maxLen at hm;refine .inr ⟨g,cap,cur,rfl,hn,by omega,hv g rfl,hh,λi hi=>?_⟩;have hp:ps.getD i B1∈ps:=by
   have e:ps.getD i B1=ps[i]'(by omega):=by simp [List.getD,show i<ps.length by omega]
   rw [e];exact dy _
  have hm2:(ps.getD i B1).m=ms[i]:=by
   have e:ps.getD i B1=ps[i]'(by omega):=by simp [List.getD,show i<ps.length by omega]
   rw [e];simp [<-h1]
  have hc:∀j,j<5->cur[i*5+j]? = (fH (ps.getD i B1))[j]? := λj hj=>by
   rw [<-AV ps i j (by omega) hj,<-ht,bP,ax (by omega),cA]
  refine ⟨(ps.getD i B1).v,(ps.getD i B1).u,?_,?_,?_,?_,?_,?_⟩
  ·rw [<-hm2];exact hc 0 (by omega)
  ·rw [<-hm2];exact hc 1 (by omega)
  ·rw [<-hm2];exact hc 2 (by omega)
  ·exact hc 3 (by omega)
  ·exact hc 4 (by omega)
  ·rw [<-hm2];exact (h3 _ hp).less (λb hb=>aD _ hb)
def gM (q:List Msg) (m:Msg):List Msg:=if q.length<2000 then q++[m] else q
def Mn.send (S:Mn) (ms:List Msg):Mn:={ S with q:=ms.foldl gM S.q }
theorem sE (q:List Msg) (m:Msg) (h:q.length<=2000):(gM q m).length<=2000:=by
 unfold gM;split
 ·simp;omega
 ·exact h
theorem nu (q:List Msg) (ms:List Msg) (h:q.length<=2000):(ms.foldl gM q).length<=2000:=by
 induction ms generalizing q with
 | nil=>exact h
 | cons a l ih=>exact ih _ (sE q a h)
theorem SyC.setq {q:List Msg} {v':Value} (h:SyC w A Y c n S rs ds ls Xs vr vd gu qv gv lv) (hz:∀b,b∈Z↔b∈Y\/∃i,i<n/\b∈Xs i) (hp:QP w w' A Y v' q) :
  SyP w (w'.setCell ⟨c,3,none⟩ v') A Z c n { S with q:=q }:=by
 obtain ⟨A',Y',hq,hm,ha,hyA,hyn,T,hoT,hT⟩:=hp;have hTA:∀b∈T,b∈A:=λb hb=>h.yA b (hT b hb).1;have hne:∀{b:Nat} {cs:Array Value} {t:TypeId},w.heap[b]? = some (.cells cs t (0,0))->t≠51->b∉T:=λ{b cs t} hb ht hm=>by
  obtain ⟨_,cur,hc⟩:=hT b hm;rw [hb] at hc;simp at hc;exact ht hc.2
 have hrow:∀{v:Value} {e:TypeId} {k m:Nat} {xs:List Value},w.ownsRow 0 e k v m xs->e≠51->∀b,v.ownBlock=some b->b∉T:=λ{v e k m xs} hr he b hb=>hne (bU hr hb) he;have hc1:=hoT.keeps h.cell (hne h.cell (by decide));have hon:Only [c] w' (w'.setCell ⟨c,3,none⟩ v'):=(Only.refl _ _).setCell (by simp) _;have hc2:(w'.setCell ⟨c,3,none⟩ v').heap[c]? = some (.cells #[vr,vd,.slice (some ⟨gu,0,none⟩) n n,v',gv,lv,.bool S.bad] 38 (0,0)):=by rw [aZ hc1];rfl
 have hcY':c∈Y':=hm.mv.sub c h.cY;have hrow2:∀{v:Value} {e:TypeId} {k m:Nat} {xs:List Value},w.ownsRow 0 e k v m xs->e≠51->e≠38->(w'.setCell ⟨c,3,none⟩ v').ownsRow 0 e k v m xs:=λ{v e k m xs} hr he he2=>by
  have h1:=bg hr hoT (hrow hr he);refine bg h1 hon (λb hb hm=>?_);rw [aj.1 hm] at hb;have:=bU h1 hb;rw [hc1] at this;simp at this;exact he2 this.symm
 have hupT:=hoT.keeps h.up (hne h.up (by decide));obtain ⟨vs,g1⟩:=h.gave;have hYX:∀i,i<n->Dis Y' (Xs i):=λi hi b hb hx=>by
  rcases hyn b hb with h1 | ⟨h1,_⟩
  ·exact h.yx i hi b h1 hx
  ·have:=h.alt b ((h.node i hi).xA b hx);omega
 have hcA':c∈A':=hm.sub c (h.yA c h.cY);have hcX:∀i,i<n->∀b∈Xs i,b∉[c]:=λi hi b hb hm=>by
  rw [aj.1 hm] at hb;exact h.yx i hi c h.cY hb
 have ha2:∀b∈A',b<(w'.setCell ⟨c,3,none⟩ v').heap.size:=λb hb=>by simpa using ha b hb
 have hmv:Mv A A' Y Y' w (w'.setCell ⟨c,3,none⟩ v'):=hm.trans (Mv.only hon (λb hb=>by rw [aj.1 hb];exact hcY'));have hcQ:∀b∈Y',∀cur,w'.heap[b]? = some (.cells cur 51 (0,0))->b∉[c]:=λb hb cur hcur hm=>by
  rw [aj.1 hm,hc1] at hcur;simp at hcur
 refine ⟨A',Y'++Z,⟨Y',rs,ds,ls,Xs,vr,vd,gu,v',gv,lv,⟨hc2,hrow2 h.rr (by decide) (by decide),hrow2 h.dr (by decide) (by decide),?_,λi hi=>?_,hq.keep hon (λb hb=>by rw [aj.1 hb];exact hcA') hcQ (Ext.refl _ _) (λb hb=>hb),⟨vs,hrow2 g1 (by decide) (by decide)⟩,?_,h.nl,h.n5,hcY',λb hb=>hm.mv.sub b (h.rY b hb),λb hb=>hm.mv.sub b (h.dY b hb),hm.mv.sub gu h.uY,λb hb=>hm.mv.sub b (h.gY b hb),hYX,h.xx,hyA,ha2⟩,λb=>?_⟩,?_⟩
 ·exact hon.keeps hupT (λhm=>by
   rw [aj.1 hm,hc1] at hupT;simp at hupT)
 ·have h1:=(h.node i hi).keep hoT hTA (λb hb hm=>h.yx i hi b (hT b hm).1 hb) hm.ext hm.sub ha;exact h1.keep hon (λb hb=>by rw [aj.1 hb];exact hcA') (hcX i hi) (Ext.refl _ _) (λb hb=>hb) ha2
 ·exact (h.long.step hoT hTA hm.ext).step hon (λb hb=>by rw [aj.1 hb];exact hcA') (Ext.refl _ _)
 ·rw [av,hz b];constructor
  ·rintro (h1 | h1 | h1)
   ·exact .inl h1
   ·exact .inl (hm.mv.sub b h1)
   ·exact .inr h1
  ·rintro (h1 | h1)
   ·exact .inl h1
   ·exact .inr (.inr h1)
 ·refine ⟨⟨hmv.mv.only.mono (λb hb=>(hz b).2 (.inl hb)),λb hb=>?_,λb hb=>aG _ hb⟩,hmv.ext,hmv.sub⟩;rcases av.1 hb with h1 | h1
  ·rcases hmv.mv.gr b h1 with h2 | h2
   ·exact .inl ((hz b).2 (.inl h2))
   ·exact .inr h2
  ·exact .inl h1
end
end Go.Proofs.Ytnicaicjgaoolaa
