/-
  What the proof of the law leans on: contracts of the program's functions, one behind another. No condition.
-/
import Derived.Test.YtnhefallmioefaaGreatV0
import Derived.Test.YtnhefallmioefaaGreatV8
import Derived.Test.YtnhefallmioefaaGreatV3
set_option linter.unusedVariables false
set_option linter.unusedSimpArgs false
namespace Go.Proofs.YtnhefallmioefaaGreat
open Go.RowKit Go.ChangeMaps Go.WideMaps Go.Maps
set_option maxRecDepth 20000
theorem xE {p:Prop} (h:p:=by
 refine cC 10 λK hK=>?_;refine dm rfl λQ' hQ=>?_;refine hZ rfl (.tmp 26) (.tmp 28) rfl HC5.out.log p HLP2.out.1 HLP2.out.2 (y:=x) HX5.out HU5.out HC5.out.wd.alt (by rfl) (by rfl) ?_;intro c7 cur7 he7;refine hQ _ _ ?_;clear hQ Q';have hB7:Below w5.heap.size w5 (w5.drew.alloc (.cells cur7 94)):=(ak w5 1).alloc (ah _) _;have HC7:=ab (HC5.out.below hB7);have HE7:=ab he7;have HB7:=ab (HB5.out.trans (hB7.mono HB5.out.size));have hk7:=HS4.out _ HB7.out;clear hB7 he7;refine hK.out _ _ hk7 (λam=>?_);clear hK K;refine bH ?_;generalize hw7:w5.drew.alloc (.cells cur7 94)=w7 at *;have hsz7:w5.heap.size<w7.heap.size:=by rw [<-hw7];simp
 clear hw7 hk7;refine aB 11 ?_;refine aB 12 ?_;refine cC 13 λK hK=>?_;have hy8:w7.cell? ⟨r,8,none⟩=some (.slice al s1.log.length cl):=by rw [af HC7.out.cell];rfl
 have hz8:=aM HC7.out.cell 8;go_simp
 clear hy8 hz8;have hk8:=HS5.out w7 _ HB7.out ((Only.refl [r] _).setCell (p:=⟨r,8,none⟩) (by simp) (.slice (some ⟨w5.heap.size,0,none⟩) (p+1) c7));refine hK.out _ _ hk8 (λam=>?_);clear hK K;refine bH ?_;clear hk8;refine fI ?_;go_wp2_with fail
 go_ret
 rw [HE.out];exact ⟨rfl,NdP.trans HM0.out (NdP.trans HM4.out (oZ HX4.out HB7.out HC7.out HE7.out (eC hsz5) hsz7))⟩):p:=h
section
variable {w w':World} {A A' X X':List Nat} {r d l:Nat} {s s':Rp} {k k':Dk}
theorem qM (l:List UInt8):xn (fp l)=fy (l.length:Int)++l:=by unfold xn;rfl
theorem gL (p:Nat) (x:Ent):(db p x).length=32+x.bs.length:=by unfold db;rw [ay,ay,jH,eZ];simp;omega
def sg (x:Ent) (u:Value):Value:=.agg #[.int .i64 x.term,u]
theorem oZ {w4 w7:World} {A4 X4 D L R:List Nat} {s1:Rp} {k1:Dk} {vl:Value} {gv gn gm gh g c p:Nat} {x:Ent} (hX:∀b,b∈X4↔b∈D\/b∈L\/b∈R) (hb:Below w4.heap.size w4 w7) (h:NdC w7 A4 D L R r d l s1 k1 vl gv gn gm gh)
  (he:IsE w7 A4 (.slice (some ⟨g,0,none⟩) (p+1) c) (s1.log.take p++[x])) (hg:w4.heap.size<=g) (hg7:g<w7.heap.size) :
  NdP w4 (w7.setCell ⟨r,8,none⟩ (.slice (some ⟨g,0,none⟩) (p+1) c)) A4 X4 r d l { s1 with log:=s1.log.take p++[x]} k1:=by
 have ho:Only [r] w7 (w7.setCell ⟨r,8,none⟩ (.slice (some ⟨g,0,none⟩) (p+1) c)):=(Only.refl _ _).setCell (by simp) _;have hS:∀b∈[r],b∈R:=λb hb=>by rw [aj.1 hb];exact h.rR
 have hn:NdC (w7.setCell ⟨r,8,none⟩ (.slice (some ⟨g,0,none⟩) (p+1) c)) A4 D L R r d l { s1 with log:=s1.log.take p++[x]} k1 (.slice (some ⟨g,0,none⟩) (p+1) c) gv gn gm gh :=
  ⟨h.wd_only ho hS,by rw [aR h.cell];rfl,he.step ho (λb hb=>h.rA b (hS b hb)) (Ext.refl _ _),ho.keeps h.votes (by simpa using bZ h.votes h.cell (by decide)),ho.keeps h.next (by simpa using bZ h.next h.cell (by decide)),ho.keeps h.mat (by simpa using bZ h.mat h.cell (by decide)),ho.keeps h.heard (by simpa using bZ h.heard h.cell (by decide)),h.nm,h.rR,h.vR,h.nR,h.mR,h.hR,h.dRD,h.dRL,h.rA⟩
 exact (hn.nd hX).ndp ((Mv.below hb).trans (Mv.only ho (λb hb=>(hX b).2 (.inr (.inr (hS b hb))))))
set_option maxHeartbeats 2000000 in
theorem o0 (h:Nd w A X r d l s k) (hw:Wf s k) (p:Nat) (x:Ent) (hp:p<=s.log.length) (hx:x.bs.length<=8000) (u:Value) (hu:Imm w A u x.bs) :
  Calls Tryz.prog 97 #[.pointer (some ⟨r,0,none⟩),.int .i64 (p:Int),sg x u] w λe w'=>e = .returned (.bool (b8 s k p x).1)/\NdP w w' A X r d l (b8 s k p x).2.1 (b8 s k p x).2.2:=by
 obtain ⟨ao,c,rfl,hu1,hu2,hu3⟩:=hu;have HU:Hid (Imm w A (.slice ao x.bs.length c) x.bs):=ab ⟨ao,c,rfl,hu1,hu2,hu3⟩;have HWA:=ab (show ∀b∈A,b<(w.alloc (.cells #[.int .i64 x.term,.slice ao x.bs.length c] 94)).heap.size from λb hb=>by have:=h.alt b hb;simp;omega);have hbw0:Below w.heap.size w (w.alloc (.cells #[.int .i64 x.term,.slice ao x.bs.length c] 94)):=(az _ _).alloc (ah _) _;have H0:=ab (h.below hbw0);have HM0:Hid (Mv A A X X w (w.alloc (.cells #[.int .i64 x.term,.slice ao x.bs.length c] 94))):=ab (Mv.below hbw0);have HU0:=ab (HU.out.below hbw0);have hbox:=ab (aK w (.cells #[.int .i64 x.term,.slice ao x.bs.length c] 94));have HP:Hid (∀W',Below (w.alloc (.cells #[.int .i64 x.term,.slice ao x.bs.length c] 94)).heap.size (w.alloc (.cells #[.int .i64 x.term,.slice ao x.bs.length c] 94)) W'->∀a3 c3,Imm W' A (.slice a3 (32+x.bs.length) c3) (db p x)->Calls Tryz.prog 93 #[.pointer (some ⟨r,0,none⟩),.slice a3 (32+x.bs.length) c3] W' λe w'=>e = .returned (.bool (!(bB s k (db p x)).1.done))/\NdP (w.alloc (.cells #[.int .i64 x.term,.slice ao x.bs.length c] 94)) w' A X r d l (bB s k (db p x)).1 (bB s k (db p x)).2):=ab (λW' hb a3 c3 hi =>
  (oL (H0.out.below hb) a3 _ c3 _ hi (by omega) (aD hw.big (by omega)) hw.room hw.tot hw.fl).mono (by rintro e w' ⟨h1,h2⟩;exact ⟨h1,h2.trans (Mv.below hb)⟩))
 have HNE:Hid (db p x=jg [2,(p:Int),x.term]++xn (fp x.bs)):=ab (by rw [qM];rfl);have HNL:=ab (gL p x);have HSZ:Hid ((fp x.bs).size<=8000):=ab hx;have HE:Hid (b8 s k p x=(let q:=bB s k (db p x)
  if q.1.done then (false,q.1,q.2) else (true,{ q.1 with log:=q.1.log.take p++[x]},q.2))):=ab rfl
 have HXA:=ab h.xA;have HLG:Hid ((bB s k (db p x)).1.log=s.log):=ab (by unfold bB;split<;>rfl);have HLP:Hid (p<=s.log.length/\s.log.length<=1000000):=ab ⟨hp,aD hw.logb (by omega)⟩;have hlt:w.heap.size<(w.alloc (.cells #[.int .i64 x.term,.slice ao x.bs.length c] 94)).heap.size:=by simp
 have HLT:Hid (∀b∈X,b≠w.heap.size):=ab (λb hb e=>by have:=h.alt b (h.xA b hb);omega);have HS1:Hid (∀w',Below (w.alloc (.cells #[.int .i64 x.term,.slice ao x.bs.length c] 94)).heap.size (w.alloc (.cells #[.int .i64 x.term,.slice ao x.bs.length c] 94)) w'->w'.cell? ⟨w.heap.size,0,none⟩=some (.int .i64 x.term)/\w'.cell? ⟨w.heap.size,1,none⟩=some (.slice ao x.bs.length c)/\(convert 31 9 (.slice ao x.bs.length c)).run Tryz.prog w' = .ok (.string (fp x.bs)) w'):=ab (λw' hb=>by
  have hb2:=bd hb hlt hbox.out;refine ⟨by rw [af hb2];rfl,by rw [af hb2];rfl,iM _ _ _ _ _ ?_⟩;obtain ⟨ao',c',e,h1,_⟩:=HU0.out.below hb;cases e;exact h1)
 have HS2:Hid (∀w3 w4,Below (w.alloc (.cells #[.int .i64 x.term,.slice ao x.bs.length c] 94)).heap.size (w.alloc (.cells #[.int .i64 x.term,.slice ao x.bs.length c] 94)) w3->NdP (w.alloc (.cells #[.int .i64 x.term,.slice ao x.bs.length c] 94)) w4 A X r d l (bB s k (db p x)).1 (bB s k (db p x)).2->w4.cell? ⟨w.heap.size,0,none⟩=some (.int .i64 x.term)/\w4.cell? ⟨w.heap.size,1,none⟩=some (.slice ao x.bs.length c)/\(convert 31 9 (.slice ao x.bs.length c)).run Tryz.prog w4 = .ok (.string (fp x.bs)) w4):=ab (λw3 w4 hb hn=>by
  obtain ⟨A4,X4,h4,m4⟩:=hn;have hb2:=m4.mv.only.keeps hbox.out (λhm=>HLT.out _ hm rfl);refine ⟨by rw [af hb2];rfl,by rw [af hb2];rfl,iM _ _ _ _ _ ?_⟩;obtain ⟨ao',c',e,h1,_⟩:=HU0.out.step m4.mv.only HXA.out m4.ext;cases e;exact h1)
 clear h hw hu1 hu2 hu3 hx hp hbw0 hlt;generalize bB s k (db p x)=q at *;obtain ⟨s1,k1⟩:=q;unfold sg;generalize x.bs.length=n at *;simp only at HE HP HS2;cases hd1:s1.done with
 | true =>
  rw [aA hd1] at HE;rw [hd1] at HP;go_enter Tryz.func97,Tryz.ntmps97
  go_upto_region 1 with (fail)
  generalize hW:w.alloc (.cells #[.int .i64 x.term,.slice ao n c] 94)=W at *;refine wp_region_held_drew (S:=λw'=>w'.cell? ⟨w.heap.size,0,none⟩=some (.int .i64 x.term)/\w'.cell? ⟨w.heap.size,1,none⟩=some (.slice ao n c)/\(convert 31 9 (.slice ao n c)).run Tryz.prog w' = .ok (.string (fp x.bs)) w') (by kernel_rfl) (HS1.out _ (ak W 1)) (λam=>?_);refine aB 0 ?_;refine aB 1 ?_;refine aB 2 ?_;refine aB 3 ?_;refine aB 6 ?_;refine aB 7 ?_;refine aB 8 ?_;have HB0:Hid (Below W.heap.size W W.drew):=ab (ak W 1);generalize W.drew=V at *;refine cC 4 λK hK=>?_;go_simp
  refine hK.out _ _ (HS1.out _ (HB0.out.alloc HB0.out.size _)) (λam=>?_);clear hK K;refine bH ?_;refine cC 5 λK hK=>?_;go_simp
  refine (jt none 0 0 [] (some ⟨V.heap.size,0,none⟩) 3 3 [2,(p:Int),x.term] _ (fV _) (jQ V [2,(p:Int),x.term] #[.int .i64 2,.int .i64 (p:Int),.int .i64 x.term] rfl 2 (0,0) V.heap.size rfl 3 rfl 3) (by omega) (by omega)).mono ?_;rintro e w2 ⟨v2,rfl,ho2,hb2⟩;have hbw:Below W.heap.size W w2:=(HB0.out.alloc HB0.out.size _).trans (hb2.mono (by have:=HB0.out.size;simp;omega));rw [cL] at ho2;obtain ⟨a2,c2,e2,hi2⟩:=ho2.isB;have hl24:(jg [2,(p:Int),x.term]).length=24:=by rw [jH];rfl
  rw [hl24] at e2 hi2;subst e2;have HI2:=ab hi2;have HB2:=ab hbw;clear ho2 hi2 hb2 hbw hl24;go_wp2_with fail
  refine hK.out _ _ (HS1.out _ (HB2.out)) (λam=>?_);clear hK K;refine bH ?_;refine cC 9 λK hK=>?_;go_simp
  refine (qL a2 24 c2 _ (fp x.bs) _ HI2.out (by omega) (by have:=HSZ.out;omega)).mono ?_;rintro e w3 ⟨v3,rfl,ho3,hb3⟩;have hbw:Below W.heap.size W w3:=HB2.out.trans (hb3.mono HB2.out.size);have himm:Imm w3 A v3 (db p x):=by
    rw [HNE.out];exact Imm.new (ho3.mono HB2.out.size) HWA.out
  obtain ⟨a3,c3,e3,_⟩:=id himm;rw [HNL.out] at e3;subst e3;have HI3:=ab himm;have HB3:=ab hbw;clear ho3 hb3 hbw himm;go_wp2_with fail
  refine hK.out _ _ (HS1.out _ (HB3.out)) (λam=>?_);clear hK K;refine bH ?_;refine cC 10 λK hK=>?_;go_simp
  refine (HP.out _ HB3.out _ _ HI3.out).mono ?_;rintro e w4 ⟨rfl,hn4⟩;have HN4:=ab hn4;have HK4:=ab (HS2.out _ _ HB3.out hn4);clear hn4;go_wp2_with fail
  refine hK.out _ _ HK4.out (λam=>?_);clear hK K;refine bH ?_;refine aB 11 ?_;refine fI ?_;go_wp2_with fail
  go_ret
  rw [HE.out];exact ⟨rfl,HN4.out.trans HM0.out⟩
 | false =>
  rw [aw (by rw [hd1];decide)] at HE;rw [hd1] at HP;go_enter Tryz.func97,Tryz.ntmps97
  go_upto_region 1 with (fail)
  generalize hW:w.alloc (.cells #[.int .i64 x.term,.slice ao n c] 94)=W at *;refine wp_region_held_drew (S:=λw'=>w'.cell? ⟨w.heap.size,0,none⟩=some (.int .i64 x.term)/\w'.cell? ⟨w.heap.size,1,none⟩=some (.slice ao n c)/\(convert 31 9 (.slice ao n c)).run Tryz.prog w' = .ok (.string (fp x.bs)) w') (by kernel_rfl) (HS1.out _ (ak W 1)) (λam=>?_);refine aB 0 ?_;refine aB 1 ?_;refine aB 2 ?_;refine aB 3 ?_;refine aB 6 ?_;refine aB 7 ?_;refine aB 8 ?_;have HB0:Hid (Below W.heap.size W W.drew):=ab (ak W 1);generalize W.drew=V at *;refine cC 4 λK hK=>?_;go_simp
  refine hK.out _ _ (HS1.out _ (HB0.out.alloc HB0.out.size _)) (λam=>?_);clear hK K;refine bH ?_;refine cC 5 λK hK=>?_;go_simp
  refine (jt none 0 0 [] (some ⟨V.heap.size,0,none⟩) 3 3 [2,(p:Int),x.term] _ (fV _) (jQ V [2,(p:Int),x.term] #[.int .i64 2,.int .i64 (p:Int),.int .i64 x.term] rfl 2 (0,0) V.heap.size rfl 3 rfl 3) (by omega) (by omega)).mono ?_;rintro e w2 ⟨v2,rfl,ho2,hb2⟩;have hbw:Below W.heap.size W w2:=(HB0.out.alloc HB0.out.size _).trans (hb2.mono (by have:=HB0.out.size;simp;omega));rw [cL] at ho2;obtain ⟨a2,c2,e2,hi2⟩:=ho2.isB;have hl24:(jg [2,(p:Int),x.term]).length=24:=by rw [jH];rfl
  rw [hl24] at e2 hi2;subst e2;have HI2:=ab hi2;have HB2:=ab hbw;clear ho2 hi2 hb2 hbw hl24;go_wp2_with fail
  refine hK.out _ _ (HS1.out _ (HB2.out)) (λam=>?_);clear hK K;refine bH ?_;refine cC 9 λK hK=>?_;go_simp
  refine (qL a2 24 c2 _ (fp x.bs) _ HI2.out (by omega) (by have:=HSZ.out;omega)).mono ?_;rintro e w3 ⟨v3,rfl,ho3,hb3⟩;have hbw:Below W.heap.size W w3:=HB2.out.trans (hb3.mono HB2.out.size);have himm:Imm w3 A v3 (db p x):=by
    rw [HNE.out];exact Imm.new (ho3.mono HB2.out.size) HWA.out
  obtain ⟨a3,c3,e3,_⟩:=id himm;rw [HNL.out] at e3;subst e3;have HI3:=ab himm;have HB3:=ab hbw;clear ho3 hb3 hbw himm;go_wp2_with fail
  refine hK.out _ _ (HS1.out _ (HB3.out)) (λam=>?_);clear hK K;refine bH ?_;refine cC 10 λK hK=>?_;go_simp
  refine (HP.out _ HB3.out _ _ HI3.out).mono ?_;rintro e w4 ⟨rfl,hn4⟩;have HN4:=ab hn4;have HK4:=ab (HS2.out _ _ HB3.out hn4);clear hn4;go_wp2_with fail
  refine hK.out _ _ HK4.out (λam=>?_);clear hK K;refine bH ?_;refine aB 11 ?_;refine fI ?_;obtain ⟨A4,X4,h4,m4⟩:=HN4.out;have HM4:=ab m4;have HU4:=ab (HU0.out.step m4.mv.only HXA.out m4.ext);have HBX4:=ab (m4.mv.only.keeps hbox.out (λhm=>HLT.out _ hm rfl));obtain ⟨D,L,R,vl,gv,gn,gm,gh,h4,hX4⟩:=h4;have HX4:=ab hX4;have HC4:=ab h4;have HCD:Hid (NdC w4.drew A4 D L R r d l s1 k1 vl gv gn gm gh):=ab (h4.below (ak w4 1));have HHA:Hid (∀b∈R,b≠w.heap.size):=ab (λb hb e=>by
    rcases m4.mv.gr b ((hX4 b).2 (.inr (.inr hb))) with h1 | h1
    ·exact HLT.out b h1 e
    ·have:=aQ hbox.out;omega)
  have HS4:Hid (∀w',Below w4.heap.size w4 w'->w'.cell? ⟨w.heap.size,0,none⟩=some (.int .i64 x.term)/\w'.cell? ⟨w.heap.size,1,none⟩=some (.slice ao n c)):=ab (λw' hb=>by
    have hb2:=bd hb (aQ HBX4.out) HBX4.out;exact ⟨by rw [af hb2];rfl,by rw [af hb2];rfl⟩)
  have HS5:Hid (∀w7 w8,Below w4.heap.size w4 w7->Only [r] w7 w8->w8.cell? ⟨w.heap.size,0,none⟩=some (.int .i64 x.term)/\w8.cell? ⟨w.heap.size,1,none⟩=some (.slice ao n c)):=ab (λw7 w8 hb ho=>by
    have hb2:=ho.keeps (bd hb (aQ HBX4.out) HBX4.out) (by simpa using (HHA.out r HC4.out.rR).symm);exact ⟨by rw [af hb2];rfl,by rw [af hb2];rfl⟩)
  have HLP2:Hid (p<=s1.log.length/\s1.log.length<=1000000):=ab (by rw [HLG.out];exact HLP.out);obtain ⟨al,cl,evl,hcl,hcm,hcn,hcg⟩:=mI h4.log;subst evl;have hll:p<=cl:=aD HLP2.out.1 hcl;clear h4 m4 hX4 HN4;go_upto_region 3 with (fail)
  refine wp_region_held_drew (S:=λw'=>w'.cell? ⟨w.heap.size,0,none⟩=some (.int .i64 x.term)/\w'.cell? ⟨w.heap.size,1,none⟩=some (.slice ao n c)) (by kernel_rfl) (HS4.out _ (ak w4 1)) (λam=>?_);refine aB 0 ?_;refine aB 1 ?_;refine aB 2 ?_;refine aB 3 ?_;refine aB 5 ?_;refine aB 6 ?_;refine aB 8 ?_;have HB44:Hid (Below w4.heap.size w4 w4.drew):=ab (ak w4 1);generalize w4.drew=V4 at *;refine j5 4 9 (λK hK=>?_) λK hK=>?_
  ·have hy8:V4.cell? ⟨r,8,none⟩=some (.slice al s1.log.length cl):=by rw [af HCD.out.cell];rfl
   go_simp
   clear hy8;refine hK.out _ _ am (λam=>?_);clear hK K;refine bH ?_;refine aB 7 ?_;refine cC 9 λK hK=>?_;go_simp
   have hB1:Below w4.heap.size w4 (V4.alloc (.cells #[.int .i64 x.term,.slice ao n c] 94)):=HB44.out.alloc HB44.out.size _;have HC5:=ab (HC4.out.below hB1);have HU5:=ab (HU4.out.below hB1);have HX5:=ab (aK V4 (.cells #[.int .i64 x.term,.slice ao n c] 94));have HB5:=ab hB1;have hk5:=HS4.out _ hB1;clear hB1;refine hK.out _ _ hk5 (λam=>?_);clear hK K;refine bH ?_;generalize hw5:V4.alloc (.cells #[.int .i64 x.term,.slice ao n c] 94)=w5 at *;have hsz5:w4.heap.size<w5.heap.size:=by have:=HB44.out.size;rw [<-hw5];simp;omega
   clear hw5 hk5;exact xE
  ·go_simp
   have hB1:Below w4.heap.size w4 (V4.alloc (.cells #[.int .i64 x.term,.slice ao n c] 94)):=HB44.out.alloc HB44.out.size _;have HC5:=ab (HC4.out.below hB1);have HU5:=ab (HU4.out.below hB1);have HX5:=ab (aK V4 (.cells #[.int .i64 x.term,.slice ao n c] 94));have HB5:=ab hB1;have hk5:=HS4.out _ hB1;clear hB1;refine hK.out _ _ hk5 (λam=>?_);clear hK K;refine bH ?_;generalize hw5:V4.alloc (.cells #[.int .i64 x.term,.slice ao n c] 94)=w5 at *;have hsz5:w4.heap.size<w5.heap.size:=by have:=HB44.out.size;rw [<-hw5];simp;omega
   clear hw5 hk5;refine cC 4 λK hK=>?_;have hy8:w5.cell? ⟨r,8,none⟩=some (.slice al s1.log.length cl):=by rw [af HC5.out.cell];rfl
   go_simp
   clear hy8;refine hK.out _ _ am (λam=>?_);clear hK K;refine bH ?_;refine aB 7 ?_;exact xE
end
theorem xD {p:Prop} (h:p:=by
 refine cC 7 λK hK=>?_;go_simp
 refine (HP.out _ (ak _ _)).mono ?_;rintro e w2 ⟨rfl,hn2⟩;have HN2:=ab hn2;clear hn2;go_wp2_with fail
 refine hK.out _ _ trivial (λam=>?_);clear hK K;refine bH ?_;refine aB 8 ?_;refine bP 9 ?_;refine bP 10 ?_;refine aB 11 ?_;refine aB 12 ?_;refine fI ?_;go_wp2_with fail
 go_ret
 rw [HE.out];exact ⟨rfl,HN2.out⟩):p:=h
theorem xC {p:Prop} (h:p:=by
 refine cC 7 λK hK=>?_;go_simp
 refine (HP.out _ (ak _ _)).mono ?_;rintro e w2 ⟨rfl,hn2⟩;have HN2:=ab hn2;clear hn2;go_wp2_with fail
 refine hK.out _ _ trivial (λam=>?_);clear hK K;refine bH ?_;refine aB 8 ?_;refine aB 9 ?_;refine cC 10 λK hK=>?_;obtain ⟨A2,X2,h2,m2⟩:=HN2.out;go_simp
 refine (HS.out _ _ _ h2).mono ?_;rintro e w3 ⟨rfl,hn3⟩;have HN3:=ab (hn3.trans m2);clear hn3 h2 m2;go_wp2_with fail
 refine hK.out _ _ trivial (λam=>?_);clear hK K;refine bH ?_;refine aB 11 ?_;refine aB 12 ?_;refine fI ?_;go_wp2_with fail
 go_ret
 rw [HE.out];exact ⟨rfl,HN3.out⟩):p:=h
section
variable {w w':World} {A A' X X':List Nat} {r d l:Nat} {s s':Rp} {k k':Dk}
theorem Nd.loglen (h:Nd w A X r d l s k):∃ao c,w.cell? ⟨r,8,none⟩=some (.slice ao s.log.length c)/\s.log.length<=c/\c<=9223372036854775807:=by
 obtain ⟨D,L,R,vl,gv,gn,gm,gh,h,hX⟩:=h;obtain ⟨ao,c,e,h1,h2,_⟩:=mI h.log;exact ⟨ao,c,by rw [af h.cell,<-e];rfl,h1,h2⟩
set_option maxHeartbeats 2000000 in
theorem uy (h:Nd w A X r d l s k) (hw:Wf s k) (x:Ent) (hx:x.bs.length<=8000) (u:Value) (hu:Imm w A u x.bs) :
  Calls Tryz.prog 79 #[.pointer (some ⟨r,0,none⟩),sg x u] w λe w'=>e = .returned (.bool (fg s k x).1)/\NdP w w' A X r d l (fg s k x).2.1 (fg s k x).2.2:=by
 obtain ⟨al,cl,hc8,hl1,hl2⟩:=h.loglen;have hbw0:Below w.heap.size w (w.alloc (.cells #[.int .i64 x.term,u] 94)):=(az _ _).alloc (ah _) _;have HP:Hid (∀W',Below (w.alloc (.cells #[.int .i64 x.term,u] 94)).heap.size (w.alloc (.cells #[.int .i64 x.term,u] 94)) W'->Calls Tryz.prog 97 #[.pointer (some ⟨r,0,none⟩),.int .i64 (s.log.length:Int),sg x u] W' λe w'=>e = .returned (.bool (b8 s k s.log.length x).1)/\NdP w w' A X r d l (b8 s k s.log.length x).2.1 (b8 s k s.log.length x).2.2):=ab (λW' hb =>
  (o0 ((h.below hbw0).below hb) hw s.log.length x (ah _) hx u ((hu.below hbw0).below hb)).mono (by rintro e w' ⟨h1,h2⟩;exact ⟨h1,h2.trans ((Mv.below hbw0).trans (Mv.below hb))⟩))
 have HE:Hid (fg s k x=(let p:=b8 s k s.log.length x
  if p.1 then (let q:=bT p.2.1 p.2.2;(!q.1.done,q.1,q.2)) else p)):=ab rfl
 have hu1:u.oneCell'=true:=by
  obtain ⟨ao,c,rfl,_⟩:=hu;rfl
 have hlt:r<w.heap.size:=h.alt r (h.xA r h.rX);have hcr:(w.alloc (.cells #[.int .i64 x.term,u] 94)).cell? ⟨r,8,none⟩=some (.slice al s.log.length cl):=by
  rw [World.cell?_of_block (hbw0.block r hlt)];exact hc8
 have hbx:=aK w (.cells #[.int .i64 x.term,u] 94);have hb0:(w.alloc (.cells #[.int .i64 x.term,u] 94)).cell? ⟨w.heap.size,0,none⟩=some (.int .i64 x.term):=by rw [af hbx];rfl
 have hb1:(w.alloc (.cells #[.int .i64 x.term,u] 94)).cell? ⟨w.heap.size,1,none⟩=some u:=by rw [af hbx];rfl
 clear h hw hu hbw0 hc8 hbx hx;generalize b8 s k s.log.length x=q at *;obtain ⟨ok,s1,k1⟩:=q;unfold sg at *;generalize s.log.length=n at *;simp only at HE HP;cases ok with
 | false =>
  rw [aw (by simp)] at HE;go_enter Tryz.func79,Tryz.ntmps79
  go_upto_region 1 with (fail)
  generalize w.alloc (.cells #[.int .i64 x.term,u] 94)=W at *;refine wp_region_held_drew (S:=λ_=>True) (by kernel_rfl) trivial (λam=>?_);refine aB 0 ?_;refine aB 1 ?_;refine aB 2 ?_;refine aB 3 ?_;refine j5 4 6 (λK hK=>?_) λK hK=>?_
  ·go_simp
   refine hK.out _ _ trivial (λam=>?_);clear hK K;refine bH ?_;refine aB 5 ?_;refine cC 6 λK hK=>?_;go_simp
   refine hK.out _ _ trivial (λam=>?_);clear hK K;refine bH ?_;exact xD
  ·go_simp
   refine hK.out _ _ trivial (λam=>?_);clear hK K;refine bH ?_;refine cC 4 λK hK=>?_;go_simp
   refine hK.out _ _ trivial (λam=>?_);clear hK K;refine bH ?_;refine aB 5 ?_;exact xD
 | true =>
  rw [aA rfl] at HE;have HS:=ab (λ(W:World) (A1 X1:List Nat) (h:Nd W A1 X1 r d l s1 k1)=>mT h);generalize bT s1 k1=q at *;obtain ⟨s2,k2⟩:=q;simp only at HE HS;go_enter Tryz.func79,Tryz.ntmps79
  go_upto_region 1 with (fail)
  generalize w.alloc (.cells #[.int .i64 x.term,u] 94)=W at *;refine wp_region_held_drew (S:=λ_=>True) (by kernel_rfl) trivial (λam=>?_);refine aB 0 ?_;refine aB 1 ?_;refine aB 2 ?_;refine aB 3 ?_;refine j5 4 6 (λK hK=>?_) λK hK=>?_
  ·go_simp
   refine hK.out _ _ trivial (λam=>?_);clear hK K;refine bH ?_;refine aB 5 ?_;refine cC 6 λK hK=>?_;go_simp
   refine hK.out _ _ trivial (λam=>?_);clear hK K;refine bH ?_;exact xC
  ·go_simp
   refine hK.out _ _ trivial (λam=>?_);clear hK K;refine bH ?_;refine cC 4 λK hK=>?_;go_simp
   refine hK.out _ _ trivial (λam=>?_);clear hK K;refine bH ?_;refine aB 5 ?_;exact xC
end
section
variable {w w':World} {A A' X X':List Nat} {r d l:Nat} {s s':Rp} {k k':Dk}
structure LogC (w:World) (A:List Nat) (r:Nat) (es:List Ent) (g c:Nat) (i:Nat) (u:Value):Prop where
 c8:w.cell? ⟨r,8,none⟩=some (.slice (some ⟨g,0,none⟩) es.length c)
 le:es.length<=c
 cm:c<=9223372036854775807
 t:w.cell? ⟨g,i*2,none⟩=some (.int .i64 ((es.map Ent.term).getD i 0))
 b:w.cell? ⟨g,i*2+1,none⟩=some u
 im:Imm w A u ((es.map Ent.bs).getD i [])
theorem Nd.logC (h:Nd w A X r d l s k) (i:Nat) (hi:i<s.log.length):∃g c u,LogC w A r s.log g c i u:=by
 obtain ⟨D,L,R,vl,gv,gn,gm,gh,h,hX⟩:=h;rcases h.log with ⟨_,h0⟩ | ⟨g,c,cur,rfl,h1,h2,h3,h4,h5⟩
 ·rw [h0] at hi;cases hi
 ·obtain ⟨u,k1,k2,k3⟩:=h5 i hi;refine ⟨g,c,u,?_,h1,h2,?_,?_,?_⟩
  ·rw [af h.cell];rfl
  ·rw [af h4,Nat.mul_comm,k1];simp [List.getD,hi]
  ·rw [af h4,Nat.mul_comm,k2]
  ·have e:(s.log.map Ent.bs).getD i []=s.log[i].bs:=by simp [List.getD,hi]
   rw [e];exact k3
theorem eY (h:Nd w A X r d l s k) (n:Nat) (hn:n<=s.log.length) (hb:s.log.length<=1000000):Calls Tryz.prog 68 #[.pointer (some ⟨r,0,none⟩),.int .i64 (n:Int)] w λe w'=>e = .returned (.int .i64 (bJ s.log n))/\w=w':=by
 cases n with
 | zero =>
  clear h;go_enter Tryz.func68,Tryz.ntmps68
  go_wp2_with fail
  go_ret
  exact ⟨rfl,rfl⟩
 | succ i =>
  obtain ⟨g,c,u,hc⟩:=h.logC i hn;have h8:=hc.c8;have ht:=hc.t;have hL:Hid (bJ s.log (i+1)=(s.log.map Ent.term).getD i 0):=ab (by unfold bJ;rw [aw (by omega)];rfl);rw [hL.out];generalize (s.log.map Ent.term).getD i 0=t at *;generalize s.log.length=n at *;have q0:((i:Int)+1==0)=false:=by simp;omega
  have q1:IntKind.i64.wrap ((i:Int)+1 - 1)=(i:Int):=by rw [show (i:Int)+1 - 1=(i:Int) by omega];exact IntWalk.i64_in _ (by omega)
  have q2:(i:Int)<(n:Int):=by omega
  have q3:0<=(i:Int):=by omega
  clear h hc hL;go_enter Tryz.func68,Tryz.ntmps68
  go_wp2_with fail
  go_ret
  exact ⟨rfl,rfl⟩
theorem ro (h:Nd w A X r d l s k) (hn:s.n<=5) (m:Nat) (hm:m<=1000000):Calls Tryz.prog 99 #[.pointer (some ⟨r,0,none⟩),.int .i64 (m:Int)] w λe w'=>e = .returned (.bool (jj s m))/\w=w':=by
 obtain ⟨D,L,R,vl,gv,gn,gm,gh,h,hX⟩:=h;have hc:w.cell? ⟨r,1,none⟩=some (.int .i64 (s.n:Int)):=by rw [af h.cell];rfl
 have q1:IntKind.i64.wrap (2*(m:Int))=2*(m:Int):=IntWalk.i64_in _ (by omega);have q2:Hid (decide ((s.n:Int)<2*(m:Int))=jj s m):=ab (by unfold jj;congr 1;exact propext ⟨λh=>by omega,λh=>by omega⟩);clear h hX;go_enter Tryz.func99,Tryz.ntmps99
 go_wp2_with fail
 go_ret
 exact ⟨by rw [<-q2.out];rfl,rfl⟩
theorem se (h:Nd w A X r d l s k) (f t:Int) (hf:0<=f) (hb:s.log.length<=1000000):Calls Tryz.prog 96 #[.pointer (some ⟨r,0,none⟩),.int .i64 f,.int .i64 t] w λe w'=>e = .returned (.bool (ey s f t))/\w=w':=by
 obtain ⟨al,cl,hc8,hl1,hl2⟩:=h.loglen;have H:=ab h;clear h;by_cases hle:f<=(s.log.length:Int)
 ·obtain ⟨n,rfl⟩:∃n:Nat,f=(n:Int):=⟨f.toNat,by omega⟩
  have hL:=ab (eY H.out n (by omega) hb);have hF:Hid (ey s (n:Int) t=(bJ s.log n==t)):=ab (by unfold ey;rw [aJ hle,ed];rfl);rw [hF.out];generalize bJ s.log n=lt at *;go_enter Tryz.func96,Tryz.ntmps96
  go_wp2_with fail
  refine hL.out.mono ?_;rintro e w1 ⟨rfl,rfl⟩;go_wp2_with fail
  go_ret
  exact ⟨rfl,rfl⟩
 ·have hF:Hid (ey s f t=false):=ab (by unfold ey;rw [aW hle];rfl);go_enter Tryz.func96,Tryz.ntmps96
  go_wp2_with fail
  go_ret
  exact ⟨by rw [hF.out];rfl,rfl⟩
end
def agr (s:Rp) (a:Nat):Rp:={ s with agreed:=a,many:=s.many+(recs ((s.log.take a).drop s.agreed)).length }
theorem Am (s:Rp):agr s s.agreed=s:=by
 unfold agr;rw [AA (by rw [aI];omega)];rfl
theorem xj (s:Rp) (n:Nat) (h:s.agreed<n):bM s n=agr s n:=by unfold bM agr;rw [aA h]
theorem pz (s:Rp) (n:Nat) (h:¬s.agreed<n):bM s n=s:=by unfold bM;rw [aw h]
theorem Al (s:Rp) (a:Nat) (h:s.agreed<=a) (hl:a<s.log.length):agr s (a+1)={ agr s a with agreed:=a+1,many:=(agr s a).many+(if ((s.log.map Ent.bs).getD a []).length=0 then 0 else 1)}:=by
 have e:(s.log.take (a+1)).drop s.agreed=(s.log.take a).drop s.agreed++[s.log[a]]:=by
  rw [<-bf hl,List.drop_append_of_le_length (by rw [aI];omega)]
 have e2:(s.log.map Ent.bs).getD a []=s.log[a].bs:=by simp [List.getD,hl]
 unfold agr;rw [e,e2];unfold recs;rw [cT,bS,ay];cases hb:s.log[a].bs with
 | nil=>simp [hb]
 | cons x y=>simp [hb];omega
def zb (w:World) (r n:Nat):Nat:=match w.cell? ⟨r,9,none⟩ with | some v=>((n:Int) - intOf v).toNat | none=>0
section
variable {w w':World} {A A' X X':List Nat} {r d l:Nat} {s s':Rp} {k k':Dk}
theorem Nd.only_scal (h:Nd w A X r d l s k) (ho:Only [r] w w') (hc:∀vl gv gn gm gh,w.heap[r]? = some (.cells (et d l s vl gv gn gm gh) 78 (0,0))->w'.heap[r]? = some (.cells (et d l s' vl gv gn gm gh) 78 (0,0)))
  (h1:s'.wl=s.wl) (h2:s'.log=s.log) (h3:s'.votes=s.votes) (h4:s'.next=s.next) (h5:s'.mat=s.mat) (h6:s'.heard=s.heard):Nd w' A X r d l s' k:=by
 obtain ⟨D,L,R,vl,gv,gn,gm,gh,h,hX⟩:=h;exact (h.only_r ho (hc _ _ _ _ _ h.cell) h1 h2 h3 h4 h5 h6).nd hX
set_option maxHeartbeats 1000000 in
theorem py (h:Nd w A X r d l s k) (n:Nat) (hn:n<=s.log.length) (hb:s.log.length<=1000000) (hm:s.many<=s.agreed):Calls Tryz.prog 98 #[.pointer (some ⟨r,0,none⟩),.int .i64 (n:Int)] w λe w'=>Nd w' A X r d l (bM s n) k/\Only [r] w w'/\e = .returned (.tuple #[]):=by
 by_cases hlt:s.agreed<n
 ·have HE:=ab (xj s n hlt);have H0:=ab h;have HN:=ab hn;have HB:=ab hb;have HM:Hid (∀a,(agr s a).many<=s.agreed+(a - s.agreed)):=ab (λa=>by
   show s.many+_<=_;have h1:(recs ((s.log.take a).drop s.agreed)).length<=a - s.agreed:=by
    unfold recs;rw [aP];refine aD (di _ _) ?_;rw [bz,aI];omega
   omega)
  clear h hn hb hm;go_enter Tryz.func98,Tryz.ntmps98
  go_wp2_with fail
  go_loopw [] (λwr=>∃a,s.agreed<=a/\a<=n/\Nd wr A X r d l (agr s a) k/\Only [r] w wr) (λwr=>zb wr r n)
  case atStart=>exact ⟨s.agreed,ah _,by omega,by rw [Am];exact H0.out,Only.refl _ _⟩
  case round =>
   obtain ⟨a,ha1,ha2,hnd,ho⟩:=hrel;have hma:=HM.out a;have hnn:=HN.out;have hbb:=HB.out;obtain ⟨vl,gv,gn,gm,gh,hcell⟩:=hnd.cells;have hc9:wr.cell? ⟨r,9,none⟩=some (.int .i64 (a:Int)):=by rw [af hcell];rfl
   have hc10:wr.cell? ⟨r,10,none⟩=some (.int .i64 ((agr s a).many:Int)):=by rw [af hcell];rfl
   have hz9:=aM hcell 9;have hz10:=aM hcell 10;have HND:=ab hnd;have HO:=ab ho;clear hnd ho hcell;by_cases hlt2:a<n
   ·obtain ⟨g,c,u,hc⟩:=HND.out.logC a (show a<s.log.length by omega);have h8:=hc.c8;have hu:=hc.b;obtain ⟨au,cu,e,_⟩:=hc.im;subst e;have HST:=ab (Al s a ha1 (by omega));have e3:(agr s a).log=s.log:=rfl;rw [e3] at h8 hu;have HMN:∃mn,mn=(agr s a).many:=⟨_,rfl⟩
    obtain ⟨mn,hmn⟩:=HMN;rw [<-hmn] at hma hc10 HST;have HMN:=ab hmn;clear hmn;generalize hsl:s.log.length=sl at *;have q1:(a:Int)<(sl:Int):=by omega
    have q2:0<=(a:Int):=by omega
    have q3:(a:Int)<(n:Int):=by omega
    have q4:IntKind.i64.wrap ((a:Int)+1)=(a:Int)+1:=IntWalk.i64_in _ (by omega);have q5:IntKind.i64.wrap ((mn:Int)+1)=(mn:Int)+1:=IntWalk.i64_in _ (by omega);by_cases hz:((s.log.map Ent.bs).getD a []).length=0
    ·rw [aA hz] at HST;generalize ((s.log.map Ent.bs).getD a []).length=bl at *;subst hz;go_wp2_with fail
     go_quiet (fail)
     go_wp2_with fail
     have oo:Only [r] wr ((wr.drewN nq).setCell ⟨r,9,none⟩ (.int .i64 ((a:Int)+1))):=((Only.refl _ _).drewN nq).setCell (by simp) _;refine ⟨⟨a+1,by omega,by omega,?_,HO.out.trans oo⟩,?_⟩
     ·rw [HST.out];refine Nd.only_scal HND.out oo ?_ rfl rfl rfl rfl rfl rfl;intro vl gv gn gm gh hc;rw [yr hc];simp [et,HMN.out]
     ·obtain ⟨vl,gv,gn,gm,gh,hcell⟩:=HND.out.cells;unfold zb;rw [hc9,af (yr hcell nq 9 _)];simp [et,intOf];omega
    ·rw [aw hz] at HST;generalize ((s.log.map Ent.bs).getD a []).length=bl at *;have g1:decide (0<bl)=true:=aJ (by omega);clear hz;go_wp2_with fail
     go_quiet (fail)
     go_wp2_with fail
     have oo:Only [r] wr (((wr.drewN nq).setCell ⟨r,10,none⟩ (.int .i64 ((mn:Int)+1))).setCell ⟨r,9,none⟩ (.int .i64 ((a:Int)+1))):=(((Only.refl _ _).drewN nq).setCell (by simp) _).setCell (by simp) _;refine ⟨⟨a+1,by omega,by omega,?_,HO.out.trans oo⟩,?_⟩
     ·rw [HST.out];refine Nd.only_scal HND.out oo ?_ rfl rfl rfl rfl rfl rfl;intro vl gv gn gm gh hc;rw [aR (yr hc nq 10 _)];simp [et]
     ·obtain ⟨vl,gv,gn,gm,gh,hcell⟩:=HND.out.cells;unfold zb;rw [hc9,af (aR (yr hcell nq 10 _) 9 _)];simp [et,intOf];omega
   ·have ha:a=n:=by omega
    subst ha;go_wp2_with fail
    go_end0
    rw [HE.out];exact ⟨HND.out,HO.out,rfl⟩
 ·have HE:=ab (pz s n hlt);have H0:=ab h;obtain ⟨vl,gv,gn,gm,gh,hcell⟩:=h.cells;have hc9:w.cell? ⟨r,9,none⟩=some (.int .i64 (s.agreed:Int)):=by rw [af hcell];rfl
  clear h hcell;go_enter Tryz.func98,Tryz.ntmps98
  go_wp2_with fail
  go_loopw [] (λwr=>wr=w) (λwr=>0)
  case atStart=>rfl
  case round =>
   subst hrel;go_wp2_with fail
   go_end0
   rw [HE.out];exact ⟨H0.out,Only.refl _ _,rfl⟩
end
structure LogR (w:World) (A:List Nat) (r:Nat) (es:List Ent) (ao:Option Addr) (c:Nat):Prop where
 c8:w.cell? ⟨r,8,none⟩=some (.slice ao es.length c)
 le:es.length<=c
 cm:c<=9223372036854775807
 nil:ao=none->c=0
 form:∀p,ao=some p->∃g,p=⟨g,0,none⟩
 at_:∀i,i<es.length->∀g,ao=some ⟨g,0,none⟩->∃u,w.cell? ⟨g,i*2,none⟩=some (.int .i64 ((es.map Ent.term).getD i 0))/\w.cell? ⟨g,i*2+1,none⟩=some u/\Imm w A u ((es.map Ent.bs).getD i [])
section
variable {w w':World} {A A' X X':List Nat} {r d l:Nat} {s s':Rp} {k k':Dk}
theorem Nd.logR (h:Nd w A X r d l s k):∃ao c,LogR w A r s.log ao c:=by
 obtain ⟨D,L,R,vl,gv,gn,gm,gh,h,hX⟩:=h;obtain ⟨ao,c,e,h1,h2,h3,h4⟩:=mI h.log;refine ⟨ao,c,by rw [af h.cell,<-e];rfl,h1,h2,h3,h4,λi hi g hg=>?_⟩;rcases h.log with ⟨_,h0⟩ | ⟨g',c',cur,e',_,_,_,h4,h5⟩
 ·rw [h0] at hi;cases hi
 ·rw [e] at e';subst hg;cases e';obtain ⟨u,k1,k2,k3⟩:=h5 i hi;refine ⟨u,?_,?_,?_⟩
  ·rw [af h4,Nat.mul_comm,k1];simp [List.getD,hi]
  ·rw [af h4,Nat.mul_comm,k2]
  ·have e:(s.log.map Ent.bs).getD i []=s.log[i].bs:=by simp [List.getD,hi]
   rw [e];exact k3
def j6 (s:Rp) (j:Nat):Nat:=(((s.log.drop s.agreed).take j).filter λx=>x.term==s.term && !x.bs.isEmpty).length
theorem tw (s:Rp) (j:Nat) (h:s.agreed+j<s.log.length):j6 s (j+1)=j6 s j+(if ((s.log.map Ent.term).getD (s.agreed+j) 0==s.term)=true/\((s.log.map Ent.bs).getD (s.agreed+j) []).length≠0 then 1 else 0):=by
 have hl:j<(s.log.drop s.agreed).length:=by rw [bz];omega
 have e1:(s.log.map Ent.term).getD (s.agreed+j) 0=(s.log.drop s.agreed)[j].term:=by simp [List.getD,h]
 have e2:(s.log.map Ent.bs).getD (s.agreed+j) []=(s.log.drop s.agreed)[j].bs:=by simp [List.getD,h]
 rw [e1,e2];unfold j6;rw [<-bf hl,cT,ay];generalize (s.log.drop s.agreed)[j]=x;obtain ⟨t,bs⟩:=x;cases bs<;>by_cases ht:(t==s.term)=true<;>simp_all
theorem vU (s:Rp):j6 s (s.log.length - s.agreed)=ia s:=by
 unfold j6 ia;rw [aZ (by rw [bz];exact ah _)]
theorem yK (s:Rp) (j:Nat):j6 s j<=s.log.length:=by
 unfold j6;refine aD (di _ _) ?_;rw [aI,bz];omega
set_option maxHeartbeats 1000000 in
theorem yI (h:Nd w A X r d l s k) (ha:s.agreed<=s.log.length) (hb:s.log.length<=1000000):Calls Tryz.prog 78 #[.pointer (some ⟨r,0,none⟩)] w λe w'=>e = .returned (.int .i64 (ia s:Int))/\Below w.heap.size w w':=by
 obtain ⟨ao,c,hlr⟩:=h.logR;have hc8:=hlr.c8;have hle:=hlr.le;have hcm:=hlr.cm;obtain ⟨vl,gv,gn,gm,gh,hcell⟩:=h.cells;have hc9:w.cell? ⟨r,9,none⟩=some (.int .i64 (s.agreed:Int)):=by rw [af hcell];rfl
 have hc6:w.cell? ⟨r,6,none⟩=some (.int .i64 s.term):=by rw [af hcell];rfl
 have HL:=ab hlr;have HALL:=ab (vU s);have HSTEP:=ab (tw s);have HCLE:=ab (yK s);have H0:Hid (j6 s 0=0):=ab (by simp [j6]);clear h hlr hcell;generalize j6 s=cnt at *;generalize ia s=om at *;generalize hsl:s.log.length=sl at *;generalize s.agreed=ag at *;generalize s.term=st at *;have q1:(ag:Int)<=(sl:Int):=by omega
 have q2:0<=(ag:Int):=by omega
 have q3:ag<=c:=by omega
 by_cases hce:c=ag
 ·have hsa:sl=ag:=by omega
  subst hce hsa;have HR:Hid (cnt 0=om):=ab (by have:=HALL.out;rwa [pA] at this);go_enter Tryz.func78,Tryz.ntmps78
  go_upto_region 2 with (fail)
  go_quiet (fail)
  go_wp2_with fail
  go_loopw [16,3] (λi n wr=>i = .int .i64 0/\n = .int .i64 0/\Below w.heap.size w wr) (λ_ _ _=>0)
  case atStart=>exact ⟨rfl,rfl,ak _ _⟩
  case round =>
   obtain ⟨rfl,rfl,hbl⟩:=hrel;go_wp2_with fail
   go_ret
   exact ⟨by rw [<-HR.out,H0.out];rfl,hbl⟩
 ·obtain ⟨p,rfl⟩:∃p,ao=some p:=by
   cases ao with
   | none=>have:=HL.out.nil rfl;omega
   | some p=>exact ⟨p,rfl⟩
  obtain ⟨g,rfl⟩:=HL.out.form p rfl;go_enter Tryz.func78,Tryz.ntmps78
  go_upto_region 2 with (fail)
  go_quiet (fail)
  go_wp2_with fail
  go_loopw [16,3] (λi n wr=>∃j:Nat,j<=sl - ag/\i = .int .i64 (j:Int)/\n = .int .i64 (cnt j:Int)/\Below w.heap.size w wr) (λi _ _=>sl - ag - (intOf i).toNat)
  case atStart=>exact ⟨0,aH _,rfl,by rw [H0.out];rfl,ak _ _⟩
  case round =>
   obtain ⟨j,hj,rfl,rfl,hbl⟩:=hrel;have HBL:=ab hbl;clear hbl;by_cases hlt:j<sl - ag
   ·obtain ⟨u,hu1,hu2,him⟩:=HL.out.at_ (ag+j) (by omega) g rfl;have hst:=HSTEP.out j (by omega);obtain ⟨au,cu,e,_⟩:=him;subst e;have hu1:=cell_later HBL.out hu1;have hu2:=cell_later HBL.out hu2;have hk6:=cell_later HBL.out hc6;have hcj:=HCLE.out j;generalize (s.log.map Ent.term).getD (ag+j) 0=t at *;generalize ((s.log.map Ent.bs).getD (ag+j) []).length=bl at *;have q5:(j:Int)<((sl - ag:Nat):Int):=by omega
    have q6:IntKind.i64.wrap ((j:Int)+1)=(j:Int)+1:=IntWalk.i64_in _ (by omega);have q8:IntKind.i64.wrap ((cnt j:Int)+1)=(cnt j:Int)+1:=IntWalk.i64_in _ (by omega);have q9:(ag+j)*2=ag*2+j*2:=by omega
    rw [q9] at hu1 hu2;have HST:=ab hst;clear hst hcj;generalize cnt j=cj at *;have HB2:∀q,Below w.heap.size w ((wr.alloc (.cells #[.int .i64 t,.slice au bl cu] 94)).drewN q):=λq=>(HBL.out.alloc HBL.out.size _).trans ((ak _ q).mono (HBL.out.alloc HBL.out.size _).size);have HB2:=ab HB2;have hy0:(wr.alloc (.cells #[.int .i64 t,.slice au bl cu] 94)).cell? ⟨wr.heap.size,0,none⟩=some (.int .i64 t):=by rw [af (aK _ _)];rfl
    have hy1:(wr.alloc (.cells #[.int .i64 t,.slice au bl cu] 94)).cell? ⟨wr.heap.size,1,none⟩=some (.slice au bl cu):=by rw [af (aK _ _)];rfl
    have hy6:(wr.alloc (.cells #[.int .i64 t,.slice au bl cu] 94)).cell? ⟨r,6,none⟩=some (.int .i64 st):=cell_later ((az _ _).alloc (ah _) _) hk6;by_cases ht:t=st
    ·have g1:(t==st)=true:=by simpa using ht
     clear ht;by_cases hz:bl=0
     ·subst hz;rw [aw (by simp)] at HST;go_wp2_with fail
      generalize wr.alloc (.cells #[.int .i64 t,.slice au 0 cu] 94)=W2 at *;go_quiet (fail)
      go_wp2_with fail
      refine ⟨⟨j+1,by omega,rfl,by rw [HST.out];rfl,HB2.out _⟩,?_⟩;simp [intOf];omega
     ·rw [aA ⟨g1,hz⟩] at HST;have g2:decide (0<bl)=true:=aJ (by omega);go_wp2_with fail
      generalize wr.alloc (.cells #[.int .i64 t,.slice au bl cu] 94)=W2 at *;go_quiet (fail)
      go_wp2_with fail
      refine ⟨⟨j+1,by omega,rfl,by rw [HST.out];rfl,HB2.out _⟩,?_⟩;simp [intOf];omega
    ·have g1:(t==st)=false:=by simpa using ht
     clear ht;rw [aw (by rw [g1];simp)] at HST;go_wp2_with fail
     generalize wr.alloc (.cells #[.int .i64 t,.slice au bl cu] 94)=W2 at *;go_quiet (fail)
     go_wp2_with fail
     refine ⟨⟨j+1,by omega,rfl,by rw [HST.out];rfl,HB2.out _⟩,?_⟩;simp [intOf];omega
   ·have hj2:j=sl - ag:=by omega
    have q7:¬((j:Int)<(sl:Int) - (ag:Int)):=by omega
    have HR:Hid (cnt j=om):=ab (by rw [hj2];exact HALL.out);clear hlt hj2 q1 q2 q3;go_wp2_with fail
    go_ret
    exact ⟨by rw [<-HR.out];rfl,HBL.out⟩
end
end Go.Proofs.YtnhefallmioefaaGreat
