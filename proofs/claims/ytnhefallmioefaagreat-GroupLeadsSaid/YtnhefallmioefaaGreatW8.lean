/- What the law leans on. No condition. -/
import Derived.Test.YtnhefallmioefaaGreatW0
import Derived.Test.YtnhefallmioefaaGreatW1
import Derived.Test.YtnhefallmioefaaGreatW7
import Derived.Test.YtnhefallmioefaaGreatW6
import Derived.Test.YtnhefallmioefaaGreatW2
set_option maxHeartbeats 8000000
set_option linter.unusedVariables false
set_option linter.unusedSimpArgs false
namespace Go.Proofs.YtnhefallmioefaaGreat
open Go.RowKit Go.ChangeMaps Go.WideMaps Go.Maps
set_option maxRecDepth 20000
theorem K9:(Tryz.prog.info? 56).map (λi=>(i.zero,i.size,i.bytes))=some (some (.pointer none),1,8):=dW
theorem pX {w:World} {ops:Array Oper} {rest:List Oper} {o:Oper} {a:Act} {Q:Exit->Act->World->Prop} (hgd:o.guard=none) (s x:Operand) (t e:TypeId)
  (ho:o.op = .call { callee:=.builtin .append,args:=#[s,x],argTypes:=#[t,t]}) (ht:Tryz.prog.underlying t=some (.slice e)) (hi:(Tryz.prog.info? e).map (λi=>(i.zero,i.size,i.bytes))=some (some (.pointer none),1,8))
  (v:Value) (i:Nat) (xs:List Value) (hs:a.eval s=v) (hown:w.ownsRow 0 e 1 v i xs) (H p:Nat) (hx:a.eval x = .slice (some ⟨H,0,none⟩) 1 1) (hH:w.heap[H]? = some (.cells #[fq p] e (0,0))) (hb:i<=1000)
  (h:∀v' w',w'.ownsRow 0 e 1 v' (i+1) (xs++[fq p])->Only v.ownBlock.toList w w'->(∀k,v'.ownBlock=some k->v.ownBlock=some k\/w.heap.size<=k)->wpList Tryz.prog ops Q rest (a.put o.dst v') w'):wpList Tryz.prog ops Q (o::rest) a w:=by
 obtain ⟨i0,Q4,hz0,hz1,hz2⟩:=info_parts hi;refine fE hgd s x t ho e i0 (.pointer none) 1 8 ht Q4 hz0 hz1 hz2 rfl dZ v _ _ hs hown (some ⟨H,0,none⟩) 1 1 hx (λe=>by cases e) [fq p] jy (LP hH) ?_ kE az ?_
 ·intro u hu;rw [aj.1 hu];rfl
 ·intro v' w' g1 g2 g3;exact h v' w' g1 g2 g3
structure Ui (w:World) (A Y:List Nat) (g n i:Nat) (os rs ds ls:Nat->Nat) (Xs:Nat->List Nat) (vl:Value) (nb mb:Nat):Prop where
 cell:w.heap[g]? = some (.cells #[vl,fq nb,.slice none 0 0] 47 (0,0))
 lr:w.ownsRow 0 56 1 vl i (tW os i)
 one:∀j,j<i->w.heap[os j]? = some (.cells #[fq (ds j),fq (rs j),.bool true] 58 (0,0))
 RL:w.heap[nb]? = some (.cells #[.int .i64 (n:Int),.int .i64 2000,.slice none 0 0,.map (some mb)] 66 (0,0))
 cut:IsCut w mb []
 node:∀j,j<i->QY w A (Xs j) (rs j) (ds j) (ls j) (DL n j)
 gY:g∈Y
 oY:∀j,j<i->os j∈Y
 lY:∀b,vl.ownBlock=some b->b∈Y
 nY:nb∈Y
 mY:mb∈Y
 oo:∀j1 j2,j1<i->j2<i->os j1=os j2->j1=j2
 yx:∀j,j<i->SR Y (Xs j)
 xx:∀j1 j2,j1<i->j2<i->j1≠j2->SR (Xs j1) (Xs j2)
 yA:∀b∈Y,b∈A
 alt:∀b∈A,b<w.heap.size
theorem AK (f:Nat->Nat) (i x:Nat):tW (lX f i x) (i+1)=tW f i++[fq x]:=by
 grind [tW,dp,kP,dE,eJ.1,dK]
section
variable {w w' wx:World} {A A' Y Z Z' X:List Nat} {g n i:Nat} {S:Mn} {os rs ds ls:Nat->Nat} {Xs:Nat->List Nat} {vl VF:Value} {nb mb:Nat}
theorem Ui.keep {T:List Nat} (h:Ui w A Y g n i os rs ds ls Xs vl nb mb) (ho:Only T w w') (hT:∀b∈T,b∈A) (hY:∀b∈Y,b∉T) (hX:∀j,j<i->∀b∈Xs j,b∉T) (he:Ext A A' w) (hs:∀b∈A,b∈A') (ha:∀b∈A',b<w'.heap.size):Ui w' A' Y g n i os rs ds ls Xs vl nb mb :=
 ⟨ho.keeps h.cell (hY _ h.gY),bR h.lr ho (λb hb=>hY _ (h.lY b hb)),λj hj=>ho.keeps (h.one j hj) (hY _ (h.oY j hj)),ho.keeps h.RL (hY _ h.nY),h.cut.only ho (hY _ h.mY),λj hj=>(h.node j hj).keep ho hT (hX j hj) he hs ha,
  h.gY,h.oY,h.lY,h.nY,h.mY,h.oo,h.yx,h.xx,λb hb=>hs b (h.yA b hb),ha⟩
theorem Ui.done (h:Ui w A Y g n n os rs ds ls Xs vl nb mb) (hn:n<=5):PZ w A Y g n (Mn.begun n) [] os rs ds ls Xs vl nb mb (.slice none 0 0) (.slice none 0 0) :=
 ⟨h.cell,h.lr,λj hj=>by rw [ic n j hj];exact h.one j hj,h.RL,h.cut,λj hj=>by rw [ic n j hj];exact h.node j hj,.inl ⟨rfl,rfl⟩,(λp n c e=>by cases e),.inl ⟨rfl,rfl⟩,by simp [Mn.begun],hn,h.gY,h.oY,h.lY,h.nY,h.mY,h.oo,h.yx,h.xx,h.yA,h.alt⟩
theorem Ui.step {r d l o:Nat} (h:Ui w A Y g n i os rs ds ls Xs vl nb mb) (hn:Nd w A X r d l (dX i n 1 []) LJ) (hdy:SR Y X) (hdx:∀j,j<i->SR (Xs j) X) (ho:Only vl.ownBlock.toList w wx) (PL:wx.heap[o]? = some (.cells #[fq d,fq r,.bool true] 58 (0,0))) (hoo:w.heap.size<=o)
  (hr:wx.ownsRow 0 56 1 VF (i+1) (tW os i++[fq o])) (hnr:∀b,VF.ownBlock=some b->vl.ownBlock=some b\/w.heap.size<=b) :
  ∃A' Y',Ui (wx.setCell ⟨g,0,none⟩ VF) A' Y' g n (i+1) (lX os i o) (lX rs i r) (lX ds i d) (lX ls i l) (lX Xs i X) VF nb mb/\Ext A A' w/\(∀b∈A,b∈A')/\(∃T,Only T w (wx.setCell ⟨g,0,none⟩ VF)/\∀b∈T,b∈Y)/\∀b∈Y',b∈Y\/w.heap.size<=b:=by
 have hlY:∀b∈vl.ownBlock.toList,b∈Y:=λb hb=>h.lY b Ek;have hgl:g∉vl.ownBlock.toList:=λhm=>by
  have:=d9 h.lr (show vl.ownBlock=some g by simpa using hm);rw [h.cell] at this;simp at this
 have hne:∀{b:Nat} {cs:Array Value} {t:TypeId} {fr:Nat×Nat},w.heap[b]? = some (.cells cs t fr)->t≠56->b∉vl.ownBlock.toList:=λ{b cs t fr} hb h1 hm=>by
  obtain ⟨_,cur,hc⟩:=fG h.lr (show vl.ownBlock=some b by simpa using hm);rw [hc] at hb;simp at hb;exact h1 hb.2.1.symm
 have hmg:mb∉vl.ownBlock.toList:=λhm=>by
  obtain ⟨arr,c,h3,_⟩:=h.cut.map;obtain ⟨_,cur,hc⟩:=fG h.lr (show vl.ownBlock=some mb by simpa using hm);rw [hc] at h3;cases h3
 have hcx:=ho.keeps h.cell hgl;have P8:Only [g] wx (wx.setCell ⟨g,0,none⟩ VF):=(Only.refl _ _).setCell bL _;have hTY:∀b∈g::vl.ownBlock.toList,b∈Y:=λb hb=>by
  grind [h.gY]
 have WY:=λb hb=>h.yA b (hTY b hb);have PS:Only (g::vl.ownBlock.toList) w (wx.setCell ⟨g,0,none⟩ VF):=(ho.mono (λb hb=>aM _ hb)).setCell bL _;have hng:∀{b:Nat} {cs:Array Value} {t:TypeId} {fr:Nat×Nat},wx.heap[b]? = some (.cells cs t fr)->t≠47->b∉[g]:=λ{b cs t fr} hb h1 hm=>by
  grind
 have hlt:o<wx.heap.size:=bg PL;have hnewY:∀b∈o::VF.ownBlock.toList,b∈Y\/w.heap.size<=b:=λb hb=>by
  grind
 have QG:Ext A (A++(o::VF.ownBlock.toList)) w:=λb hb=>by
  grind
 have O1:∀b∈A,b∈A++(o::VF.ownBlock.toList):=λb hb=>aI _ hb;have halt:∀b∈A++(o::VF.ownBlock.toList),b<(wx.setCell ⟨g,0,none⟩ VF).heap.size:=λb hb=>by
  rcases aA.1 hb with hb | hb
  ·grind [h.alt,PS.size]
  ·have:b<wx.heap.size:=by
    rcases cA.1 hb with rfl | hb
    ·exact hlt
    ·exact (World.ownsRow.lt hr b Ek).2
   simpa using this
 have hyn:∀b∈Y++(o::VF.ownBlock.toList),b∈Y\/w.heap.size<=b:=λb hb=>by
  grind
 have hdis:∀P:List Nat,(∀b∈P,b<w.heap.size)->SR Y P->SR (Y++(o::VF.ownBlock.toList)) P:=λP hP hd b hb hp=>by
  rcases hyn b hb with h1 | h1
  ·exact hd b h1 hp
  ·have:=hP b hp;omega
 have hXA:∀b∈X,b∈A:=hn.xA;refine ⟨_,Y++(o::VF.ownBlock.toList),⟨?_,?_,λj hj=>?_,?_,?_,λj hj=>?_,aI _ h.gY,λj hj=>?_,λb hb=>aR _ (aM _ uc),aI _ h.nY,aI _ h.mY,λj1 j2 h1 h2 he=>?_,λj hj=>?_,λj1 j2 h1 h2 hne=>?_,λb hb=>?_,halt⟩,QG,O1,⟨_,PS,hTY⟩,hyn⟩
 ·rw [be hcx];rfl
 ·rw [AK];refine bR hr P8 (λb hb=>?_);obtain ⟨_,cur,hc⟩:=fG hr hb;exact hng hc dZ
 ·grind [dK,dE,P8.keeps,h.one,ho.keeps]
 ·grind [ho.keeps,h.RL,P8.keeps]
 ·refine (h.cut.only ho hmg).only P8 (λhm=>?_);obtain ⟨arr,c,h3,_⟩:=(h.cut.only ho hmg).map;rw [aj.1 hm,hcx] at h3;cases h3
 ·by_cases e:j=i
  ·subst e;rw [dK,dK,dK,dK];exact ⟨λ_=>hn.keepS PS WY (λb hb hm=>hdy b (hTY b hm) hb) QG O1 halt,(λe=>by cases e),λb hb=>O1 b (hXA b hb)⟩
  ·rw [dE _ _ e,dE _ _ e,dE _ _ e,dE _ _ e];exact (h.node j az).keep PS WY (λb hb hm=>h.yx j az b (hTY b hm) hb) QG O1 halt
 ·grind [dK,aR,bd,dE,aI,h.oY]
 ·have hold:∀j,j<i->os j<w.heap.size:=λj hj=>h.alt _ (h.yA _ (h.oY j hj));by_cases e1:j1=i
  ·grind [dK,dE]
  ·grind [dK,dE,h.oo]
 ·by_cases e:j=i
  ·grind [dK,h.alt]
  ·rw [dE _ _ e];exact hdis (Xs j) (λb hb=>h.alt b ((h.node j az).xA b hb)) (h.yx j az)
 ·by_cases e1:j1=i
  ·subst e1;rw [dK,dE _ _ (λe=>hne e.symm)];exact (hdx j2 az).symm
  ·grind [dK,dE,h.xx]
 ·grind [h.yA]
end
section
variable {w w':World} {A:List Nat}
theorem Nt (x:Int) (hx:x<1\/5<x):Calls Tryz.prog 7 #[.int .i64 x] w λe w'=>e = .returned (.tuple #[.pointer none,.int .i64 1])/\w=w':=by
 by_cases h1:x<1
 ·exact Jr
 ·have h2:5<x:=by omega
  exact Jr
theorem wB (n:Nat) (PT:1<=n) (hn:n<=5) (hA:∀b∈A,b<w.heap.size):Calls Tryz.prog 7 #[.int .i64 (n:Int)] w λe w'=>∃g A' Z,e = .returned (.tuple #[.pointer (some ⟨g,0,none⟩),.int .i64 0])/\Gy w' A' Z g n (Mn.begun n) []/\Mv A A' [] Z w w':=by
 have HA:=af hA;clear hA;have g1:¬(n:Int)<1:=az;have g2:¬(5:Int)<(n:Int):=az;go_enter Tryz.func7,Tryz.ntmps7
 go_wp2_with fail
 have hb1:Below w.heap.size w (w.alloc (.cells #[.slice none 0 0,.pointer none,.slice none 0 0] 47)):=(aG _ _).alloc (ah _) _;have hg1:=aV w (.cells #[.slice none 0 0,.pointer none,.slice none 0 0] 47);have hs1:(w.alloc (.cells #[.slice none 0 0,.pointer none,.slice none 0 0] 47)).heap.size=w.heap.size+1:=bL;have Zn:=af (DM (n:Int) 2000 (w.alloc (.cells #[.slice none 0 0,.pointer none,.slice none 0 0] 47)) az az az az);have PK:=af hb1;have HG1:=af hg1;clear hb1 hg1;generalize w.alloc (.cells #[.slice none 0 0,.pointer none,.slice none 0 0] 47)=w1 at *;rw [hs1] at Zn;refine Zn.out.mono ?_;rintro e w2 ⟨rfl,Qk,hcut,hb2,hs2⟩;have hb2':Below w1.heap.size w1 w2:=by rw [hs1];exact hb2
 have O5:Hid (Below w.heap.size w w2):=af (PK.out.trans (hb2'.mono PK.out.size));have hg2:w2.heap[w.heap.size]? = some (.cells #[.slice none 0 0,.pointer none,.slice none 0 0] 47 (0,0)):=(Only.OL hb2' []).keeps HG1.out bL;have hc1:w2.cell? ⟨w.heap.size,1,none⟩=some (.pointer none):=by rw [ap hg2];rfl
 have hz1:=aU hg2 1;have HBEG:Hid (Ui (w2.setCell ⟨w.heap.size,1,none⟩ (fq (w.heap.size+1+1))) (A++[w.heap.size,w.heap.size+1,w.heap.size+1+1]) [w.heap.size,w.heap.size+1,w.heap.size+1+1] w.heap.size n 0 (λ_=>0) (λ_=>0) (λ_=>0) (λ_=>0) (λ_=>[]) (.slice none 0 0) (w.heap.size+1+1) (w.heap.size+1)):=af (by
  have P8:Only [w.heap.size] w2 (w2.setCell ⟨w.heap.size,1,none⟩ (fq (w.heap.size+1+1))):=(Only.refl _ _).setCell bL _;refine ⟨by rw [be hg2];rfl,World.ownsRow_nil _ _ _ _,λj hj=>by omega,P8.keeps Qk gD,hcut.only P8 bL,λj hj=>by omega,by simp,λj hj=>by omega,(λb hb=>by cases hb),by simp,by simp,λj1 j2 h=>by omega,λj hj=>by omega,λj1 j2 h1=>by omega,λb hb=>aR _ hb,λb hb=>?_⟩;rcases aA.1 hb with h1 | h1
  ·have:=HA.out b h1;simp;omega
  ·simp at h1 ⊢;omega)
 have Pk:Hid (Below w.heap.size w (w2.setCell ⟨w.heap.size,1,none⟩ (fq (w.heap.size+1+1)))):=af (O5.out.setCell (ah _) _);unfold fq at HBEG Pk;clear Qk hcut hb2 hb2' hg2 Zn;go_wp2_with fail
 generalize w2.setCell ⟨w.heap.size,1,none⟩ (.pointer (some ⟨w.heap.size+1+1,0,none⟩))=w3 at *;go_loopw [27] (λv wr=>∃(i:Nat) (A1 Y:List Nat) (os rs ds ls:Nat->Nat) (Xs:Nat->List Nat) (vl:Value),i<=n/\v = .int .i64 (i:Int)/\Ui wr A1 Y w.heap.size n i os rs ds ls Xs vl (w.heap.size+1+1) (w.heap.size+1)/\Below w.heap.size w wr/\Ext A A1 w/\(∀b∈A,b∈A1)/\(∀b∈Y,w.heap.size<=b)/\∀j,j<i->∀b∈Xs j,w.heap.size<=b) (λv _=>n - (intOf v).toNat)
 case atStart =>
  refine ⟨0,_,_,_,_,_,_,_,_,aH _,rfl,HBEG.out,Pk.out,λb hb=>?_,λb hb=>aI _ hb,λb hb=>by simp at hb;omega,λj hj=>by omega⟩;rcases aA.1 hb with h1 | h1
  ·exact .inl h1
  ·right;simp at h1;omega
 case round =>
  obtain ⟨i,A1,Y,os,rs,ds,ls,Xs,vl,O9,rfl,hbeg,hbl,QG,O1,hyge,hxge⟩:=hrel;have Yr:=af hbeg;have Q0:=af hbl;have HEX:=af (And.intro QG (And.intro O1 (And.intro hyge hxge)));clear hbeg hbl QG O1 hyge hxge hc1 hz1;have q6:IntKind.i64.wrap ((i:Int)+1)=(i:Int)+1:=IntWalk.i64_in _ az;by_cases hlt:i<n
  ·have R2:(i:Int)<(n:Int):=by omega
   go_wp2_with fail
   refine (Ko wr).mono ?_;rintro e w4 ⟨d,D,rfl,hdk,hb2,hDg⟩;have HDK:=af hdk;have ZB:=af hb2;have HDG:=af hDg;clear hdk hb2 hDg;have Yg:∀b∈A1++D,b<w4.heap.size:=λb hb=>by
    rcases aA.1 hb with h1 | h1
    ·exact aK (Yr.out.alt b h1) ZB.out.size
    ·exact HDK.out.lt b h1
   have HOP:=af (qF HDK.out rfl i n hn hlt [] ⟨.inl ⟨rfl,rfl⟩⟩ (λx hx=>by cases hx) dZ trivial bL Yg (λb hb=>aR _ hb));have HA2:=af Yg;clear Yg;go_wp2_with fail
   refine HOP.out.mono ?_;rintro e w5 ⟨r,l,A3,X3,rfl,PO,hmv⟩;have HND:Hid (Nd w5 A3 X3 r d l (dX i n 1 []) LJ):=af PO;have TU:=af hmv;clear PO hmv HOP;have hYD:∀b∈Y,b∉D:=λb hb hd=>by have:=Yr.out.alt b (Yr.out.yA b hb);have:=HDG.out b hd;omega
   have hXD:∀j,j<i->∀b∈Xs j,b∉D:=λj hj b hb hd=>by have:=Yr.out.alt b ((Yr.out.node j hj).xA b hb);have:=HDG.out b hd;omega
   have Vz:=Yr.out.keep (A':=A1++D) (T:=[]) (Only.OL ZB.out []) (λb hb=>by cases hb) (λb _=>by simp) (λj _ b _=>by simp) (λb hb=>by
    rcases aA.1 hb with h1 | h1
    ·exact .inl h1
    ·exact .inr (HDG.out b h1)) (λb hb=>aI _ hb) HA2.out
   have hB3:=Vz.keep (A':=A3) (T:=D) TU.out.mv.only (λb hb=>aR _ hb) hYD hXD TU.out.ext TU.out.sub HND.out.alt;have hX3:∀P:List Nat,(∀b∈P,b<wr.heap.size)->SR P X3:=λP hP b hb hx=>by
    have h0:=hP b hb;rcases TU.out.mv.gr b hx with h1 | h1
    ·have:=HDG.out b h1;omega
    ·have:=ZB.out.size;omega
   have HDY:Hid (SR Y X3):=af (hX3 Y (λb hb=>Yr.out.alt b (Yr.out.yA b hb)));have HDX:Hid (∀j,j<i->SR (Xs j) X3):=af (λj hj=>hX3 (Xs j) (λb hb=>Yr.out.alt b ((Yr.out.node j hj).xA b hb)));have Q6:=af hB3;obtain ⟨ar,kr,e9,_⟩:=ej hB3.lr;subst e9;have HGE:Hid (w.heap.size<=w5.heap.size/\Below w.heap.size w w4):=af ⟨aF (Q0.out.trans (ZB.out.mono Q0.out.size)).size TU.out.mv.only.size,Q0.out.trans (ZB.out.mono Q0.out.size)⟩;have hc0:w5.cell? ⟨w.heap.size,0,none⟩=some (.slice ar i kr):=by rw [ap hB3.cell];rfl
   clear hYD hXD Vz hX3 hB3;have Sm:=af (aV w5 (.cells #[.pointer (some ⟨d,0,none⟩),.pointer (some ⟨r,0,none⟩),.bool true] 58));have hbo:Below w5.heap.size w5 (w5.alloc (.cells #[.pointer (some ⟨d,0,none⟩),.pointer (some ⟨r,0,none⟩),.bool true] 58)):=(aG _ _).alloc (ah _) _;have HBO:=af hbo;clear hbo;have hi1000:i<=1000:=az;go_wp2_with (at_builtin;refine pX rfl (.tmp 45) (.tmp 50) 44 56 rfl ?_ K9 (.slice ar i kr) i (tW os i) ?_ ?_ (w5.heap.size+1) w5.heap.size ?_ ?_ hi1000 ?_)
   ·kernel_rfl
   ·rfl
   ·exact ji (ji Q6.out.lr HBO.out) ((aG _ _).alloc (ah _) _)
   ·rfl
   ·have h9:=aV (w5.alloc (.cells #[.pointer (some ⟨d,0,none⟩),.pointer (some ⟨r,0,none⟩),.bool true] 58)) (.cells #[.pointer (some ⟨w5.heap.size,0,none⟩)] 56);rw [show (w5.alloc (.cells #[.pointer (some ⟨d,0,none⟩),.pointer (some ⟨r,0,none⟩),.bool true] 58)).heap.size=w5.heap.size+1 by simp] at h9;exact h9
   intro v' w7 hr7 WN hf7;obtain ⟨a8,k8,e8,_⟩:=ej hr7;subst e8;generalize hV:w5.alloc (.cells #[.pointer (some ⟨d,0,none⟩),.pointer (some ⟨r,0,none⟩),.bool true] 58)=V at *;have hs5:V.heap.size=w5.heap.size+1:=by rw [<-hV];simp
   have hb67:Below w5.heap.size w5 (V.alloc (.cells #[.pointer (some ⟨w5.heap.size,0,none⟩)] 56)):=HBO.out.alloc az _;have hO7:Only (Value.slice ar i kr).ownBlock.toList w5 w7:=(Only.OL hb67 _).trans WN;have hone7:w7.heap[w5.heap.size]? = some (.cells #[fq d,fq r,.bool true] 58 (0,0)):=by
    refine WN.keeps (bD Sm.out _) (λhm=>?_);have:=(World.ownsRow.lt Q6.out.lr w5.heap.size ud).2;omega
   obtain ⟨A8,Y8,hB8,hext8,hsub8,⟨T8,Xy,hT8⟩,ZF⟩:=Q6.out.step HND.out HDY.out HDX.out hO7 hone7 (ah _) hr7 (λb hb=>(hf7 b hb).imp id (λh9=>by have h10:=hb67.size;omega));have hg7:=hO7.keeps Q6.out.cell (λhm=>by
    have:=d9 Q6.out.lr (show (Value.slice ar i kr).ownBlock=some w.heap.size by simpa using hm);rw [Q6.out.cell] at this;simp at this)
   have c7:w7.cell? ⟨w.heap.size,0,none⟩=some (.slice ar i kr):=by rw [ap hg7];rfl
   have z7:=aU hg7 0;have Tr:=af hB8;have Tp:Hid (Below w.heap.size w (w7.setCell ⟨w.heap.size,0,none⟩ (.slice a8 (i+1) k8))/\Ext A A8 w/\(∀b∈A,b∈A8)/\(∀b∈Y8,w.heap.size<=b)/\∀j,j<i+1->∀b∈lX Xs i X3 j,w.heap.size<=b):=af (by
    obtain ⟨e1,e2,e3,e4⟩:=HEX.out;have hDw:∀b∈D,w.heap.size<=b:=λb hb=>aF Q0.out.size (HDG.out b hb);have k5:Only D w4 w5:=TU.out.mv.only;have kB:Below w.heap.size w w5:=by
     have k0:=HGE.out.2;exact ⟨k5.os.trans k0.os,k5.tape.trans k0.tape,k5.output.trans k0.output,HGE.out.1,λb hb=>(k5.block b (aK hb k0.size) (λhm=>by have:=hDw b hm;omega)).trans (k0.block b hb)⟩
    refine ⟨⟨Xy.os.trans kB.os,Xy.tape.trans kB.tape,Xy.output.trans kB.output,aF kB.size Xy.size,λb hb=>(Xy.block b (aK hb kB.size) (λhm=>by have:=e3 b (hT8 b hm);omega)).trans (kB.block b hb)⟩,λb hb=>?_,λb hb=>hsub8 b (TU.out.sub b (aI _ (e2 b hb))),λb hb=>?_,λj hj b hb=>?_⟩
    ·rcases hext8 b hb with h1 | h1
     ·rcases TU.out.ext b h1 with h2 | h2
      ·rcases aA.1 h2 with h3 | h3
       ·exact e1 b h3
       ·exact .inr (hDw b h3)
      ·exact .inr (aF (HGE.out.2).size h2)
     ·exact .inr (aF HGE.out.1 h1)
    ·rcases ZF b hb with h1 | h1
     ·exact e3 b h1
     ·exact aF HGE.out.1 h1
    ·by_cases e:j=i
     ·subst e;rw [dK] at hb;rcases TU.out.mv.gr b hb with h1 | h1
      ·exact hDw b h1
      ·exact aF (HGE.out.2).size h1
     ·rw [dE _ _ e] at hb;exact e4 j az b hb)
   clear hB8 hext8 hsub8 Xy hT8 ZF hg7 hone7 hO7 hb67 hs5 hr7 WN hf7 hc0;go_wp2_with fail
   go_roundw
   case rel=>exact ⟨i+1,A8,Y8,_,_,_,_,_,_,by omega,by simp,Tr.out,Tp.out.1,Tp.out.2.1,Tp.out.2.2.1,Tp.out.2.2.2.1,Tp.out.2.2.2.2⟩
   case measure=>simp [intOf];omega
  ·obtain rfl:i=n:=by omega
   have HF:Hid (∃A' Z,Gy wr A' Z w.heap.size i (Mn.begun i) []/\Mv A A' [] Z w wr):=af (by
    obtain ⟨e1,e2,e3,e4⟩:=HEX.out;refine ⟨A1,Y++(List.range i).flatMap Xs,⟨Y,os,rs,ds,ls,Xs,vl,_,_,_,_,Yr.out.done hn,λb=>by simp [Ck]⟩,⟨⟨Only.OL Q0.out [],λb hb=>?_,λb hb=>by cases hb⟩,e1,e2⟩⟩;rcases aA.1 hb with h1 | h1
    ·exact .inr (e3 b h1)
    ·obtain ⟨j,hj,hx⟩:=Ck.1 h1;exact .inr (e4 j (eJ.1 hj) b hx))
   clear Yr Q0 HEX;go_wp2_with fail
   go_ret2
   obtain ⟨A',Z,h1,h2⟩:=HF.out;exact ⟨_,A',Z,rfl,h1,h2⟩
end
structure Wm (w:World) (ao:Option Addr) (c:Nat) (l:List (List UInt8)):Prop where
 cap:l.length<=c
 at_:∀j,j<l.length->∃b off,ao=some ⟨b,off,none⟩/\∃a m k,w.cell? ⟨b,off+j,none⟩=some (.slice a m k)/\Pg w a m k (l.getD j [])
section
variable {w w':World} {A:List Nat}
theorem PV.reads {v:Value} {l:List (List UInt8)} (h:PV w A v l):∃ao c,v = .slice ao l.length c/\Wm w ao c l:=by
 rcases h with ⟨rfl,rfl⟩ | ⟨g,c,cur,rfl,h1,h2,h3,h4,h5⟩
 ·exact ⟨none,0,rfl,ah _,λj hj=>by cases hj⟩
 ·refine ⟨_,c,rfl,h1,λj hj=>?_⟩;obtain ⟨u,k1,ao,cc,rfl,k3,_⟩:=h5 j hj;exact ⟨g,0,rfl,ao,_,cc,by rw [ap h4,cB];exact k1,k3⟩
end
end Go.Proofs.YtnhefallmioefaaGreat
