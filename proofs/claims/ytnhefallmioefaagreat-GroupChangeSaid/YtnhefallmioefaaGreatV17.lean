/-
  What the proof of the law leans on: contracts of the program's functions, one behind another. No condition.
-/
import Derived.Test.YtnhefallmioefaaGreatV0
import Derived.Deep.OwnRows
import Derived.Laws.IdiomStrings
import Derived.Test.YtnhefallmioefaaGreatV16
import Derived.Test.YtnhefallmioefaaGreatV3
set_option linter.unusedVariables false
set_option linter.unusedSimpArgs false
namespace Go.Proofs.YtnhefallmioefaaGreat
open Go.RowKit Go.ChangeMaps Go.WideMaps Go.Maps
set_option maxRecDepth 20000
theorem xM {p:Prop} (h:p:=by
 refine cC 16 λK hK=>?_;go_simp
 refine (HEN.out _ (ak _ 1)).mono ?_;rintro e w2 ⟨rfl,hn2⟩;have HN2:=ab hn2;have hk2:=HKP.out w2 hn2;clear hn2;go_wp2_with fail
 refine hK.out _ _ hk2 (λam=>?_);clear hK K;refine bH ?_;refine aB 17 ?_;refine aB 18 ?_;refine fI ?_;clear am;go_wp2_with fail
 go_ret
 rw [HE.out];exact MsP.none (NdP.trans HM0.out HN2.out)):p:=h
theorem xL {p:Prop} (h:p:=by
 refine cC 16 λK hK=>?_;go_simp
 refine (HEN.out _ (ak _ 1)).mono ?_;rintro e w2 ⟨rfl,hn2⟩;have HN2:=ab hn2;have hk2:=HKP.out w2 hn2;clear hn2;go_wp2_with fail
 refine hK.out _ _ hk2 (λam=>?_);clear hK K;refine bH ?_;refine aB 17 ?_;refine aB 18 ?_;refine fI ?_;clear am;go_wp2_with fail
 go_meet
 exact ⟨rfl,HN2.out,hk2⟩):p:=h
theorem C9:(Tryz.prog.info? 4).map (λi=>(i.zero,i.size,i.bytes))=some (some (.bool false),1,1):=by kernel_rfl
theorem nA (n:Nat) (hn:n<=5) (w:World):(Instr.makeSlice 73 (.int .i64 (n:Int)) (.int .i64 (n:Int))).run Tryz.prog w = .ok (.slice (some ⟨w.heap.size,0,none⟩) n n) (w.alloc (.cells (dq (List.replicate n false)) 4)):=by
 have h:=run_make_row' (P:=Tryz.prog) 73 4 (.bool false) 1 Tryz.underlying73 C9 rfl .i64 .i64 n (by omega) (by omega) w;rw [h];have e:madeCells #[Value.bool false] n=dq (List.replicate n false):=by
  apply Array.ext';rw [toList_madeCells_one];simp [dq]
 rw [e]
section
variable {w w':World} {A A' X X':List Nat} {r d l:Nat} {s s':Rp} {k k':Dk}
theorem Nd.new_votes (h:Nd w A X r d l s k) (bs:List Bool):NdP w ((w.alloc (.cells (dq bs) 4)).setCell ⟨r,12,none⟩ (pR w.heap.size s.n)) A X r d l { s with votes:=bs } k:=by
 have hrX:=h.rX;obtain ⟨D,L,R,vl,gv,gn,gm,gh,h,hX⟩:=h;have hb:Below w.heap.size w (w.alloc (.cells (dq bs) 4)):=(az _ _).alloc (ah _) _;have h1:=h.below hb;have hnew:=aK w (.cells (dq bs) 4);generalize w.alloc (.cells (dq bs) 4)=w1 at *;have ho:Only [r] w1 (w1.setCell ⟨r,12,none⟩ (pR w.heap.size s.n)):=(Only.refl _ _).setCell (by simp) _;have hS:∀b∈[r],b∈R:=λb hb=>by rw [aj.1 hb];exact h.rR
 have he:Ext A (A++[w.heap.size]) w:=λb hb=>by
  rcases ap.1 hb with hb | hb
  ·exact .inl hb
  ·exact .inr (by rw [aj.1 hb];exact ah _)
 have hrA:∀b∈[r],b∈A:=λb hb=>h.rA b (hS b hb);have oo:Only [r] w (w1.setCell ⟨r,12,none⟩ (pR w.heap.size s.n)):=(Only.ofBelow hb _).trans ho;have hlt:∀b∈A,b<w.heap.size:=h.wd.alt;refine ⟨A++[w.heap.size],w.heap.size::X,⟨D,L,w.heap.size::R,vl,w.heap.size,gn,gm,gh,⟨⟨h.wd.wl.keep oo (h.disL hS) hrA he,h.wd.dk.keep oo (h.disD hS),h.wd.dis,λb hb=>aG _ (h.wd.dA b hb),λb hb=>aG _ (h.wd.lA b hb),λb hb2=>?_⟩,by rw [aR h1.cell];rfl,h.log.step oo hrA he,ho.keeps hnew (by simpa using bZ hnew h1.cell (by decide)),ho.keeps h1.next (by simpa using bZ h1.next h1.cell (by decide)),ho.keeps h1.mat (by simpa using bZ h1.mat h1.cell (by decide)),ho.keeps h1.heard (by simpa using bZ h1.heard h1.cell (by decide)),h.nm,by simp [h.rR],by simp,by simp [h.nR],by simp [h.mR],by simp [h.hR],λb hb hd=>?_,λb hb hd=>?_,λb hb=>?_⟩,λb=>?_⟩,⟨⟨oo.mono (by simpa using hrX),λb hb=>?_,λb hb=>aU _ hb⟩,he,λb hb=>aG _ hb⟩⟩
 ·have hsz:=oo.size;rcases ap.1 hb2 with h3 | h3
  ·have:=hlt b h3;omega
  ·have:=aQ (ho.keeps hnew (by simpa using bZ hnew h1.cell (by decide)));rw [aj.1 h3];exact this
 ·rcases bg.1 hb with rfl | hb
  ·have:=h.wd.dk.lt _ hd;omega
  ·exact h.dRD b hb hd
 ·rcases bg.1 hb with rfl | hb
  ·have:=h.wd.wl.lt _ hd;omega
  ·exact h.dRL b hb hd
 ·rcases bg.1 hb with rfl | hb
  ·simp
  ·exact aG _ (h.rA b hb)
 ·simp only [bg,hX b];constructor
  ·rintro (h3 | h3 | h3 | h3)
   ·exact .inr (.inr (.inl h3))
   ·exact .inl h3
   ·exact .inr (.inl h3)
   ·exact .inr (.inr (.inr h3))
  ·rintro (h3 | h3 | h3 | h3)
   ·exact .inr (.inl h3)
   ·exact .inr (.inr (.inl h3))
   ·exact .inl h3
   ·exact .inr (.inr (.inr h3))
 ·rcases bg.1 hb with rfl | hb
  ·exact .inr (ah _)
  ·exact .inl hb
theorem tZ (term who:Int):(be s k term who).2.1.n=s.n/\(be s k term who).2.1.own=s.own/\(be s k term who).2.1.log=s.log/\(be s k term who).2.1.clock=s.clock/\(be s k term who).2.1.votes=s.votes:=by
 have h1:=ei (s:=s) (k:=k) (dw term who);unfold be;generalize bB s k (dw term who)=p at *;simp only;split
 ·rw [h1];exact ⟨rfl,rfl,rfl,rfl,rfl⟩
 ·have h2:=eO (s:=p.1) (k:=p.2);generalize bT p.1 p.2=q at *;split
  ·rw [h2,h1];exact ⟨rfl,rfl,rfl,rfl,rfl⟩
  ·simp only;rw [h2,h1];exact ⟨rfl,rfl,rfl,rfl,rfl⟩
theorem Nd.new_votes' (h:Nd w A X r d l s k) (bs:List Bool) (n:Nat) (hn:s.n=n) (W:World) (hW:W=(w.alloc (.cells (dq bs) 4)).setCell ⟨r,12,none⟩ (.slice (some ⟨w.heap.size,0,none⟩) n n)):NdP w W A X r d l { s with votes:=bs } k:=by
 subst hn hW;exact h.new_votes bs
set_option maxHeartbeats 4000000 in
theorem vA (h:Nd w A X r d l s k) (hw:Wf s k):Calls Tryz.prog 65 #[.pointer (some ⟨r,0,none⟩)] w λe w'=>MsP w w' A X r d l e (fR s k):=by
 have hbw:Below w.heap.size w (w.alloc (.cells #[.pointer (some ⟨r,0,none⟩)] 53)):=(az _ _).alloc (ah _) _;have hbx:=aK w (.cells #[.pointer (some ⟨r,0,none⟩)] 53);have h1:=h.below hbw;have hXlt:∀b∈X,b<w.heap.size:=λb hb=>h.alt b (h.xA b hb);have HM0:Hid (Mv A A X X w (w.alloc (.cells #[.pointer (some ⟨r,0,none⟩)] 53))):=ab (Mv.below hbw);have hP0:(w.alloc (.cells #[.pointer (some ⟨r,0,none⟩)] 53)).cell? ⟨w.heap.size,0,none⟩=some (.pointer (some ⟨r,0,none⟩)):=by rw [af hbx];rfl
 have HE:Hid (fR s k=(if 1099511627776<=s.term then ([],s,k) else
  let p:=be s k (s.term+1) (s.own:Int)
  if p.1 then
   let s1:Rp:={ p.2.1 with ticks:=0,votes:=(List.replicate s.n false).set s.own true }
   if ft s1 then fT s1 p.2.2 else (cR s1 (bp s1 1),s1,p.2.2)
  else ([],p.2))):=ab rfl
 obtain ⟨vl,gv,gn,gm,gh,hcell⟩:=h1.cells;have hc6:(w.alloc (.cells #[.pointer (some ⟨r,0,none⟩)] 53)).cell? ⟨r,6,none⟩=some (.int .i64 s.term):=by rw [af hcell];rfl
 have hc0:(w.alloc (.cells #[.pointer (some ⟨r,0,none⟩)] 53)).cell? ⟨r,0,none⟩=some (.int .i64 (s.own:Int)):=by rw [af hcell];rfl
 have HKP:Hid (∀w2 s2 k2,NdP (w.alloc (.cells #[.pointer (some ⟨r,0,none⟩)] 53)) w2 A X r d l s2 k2->w2.cell? ⟨w.heap.size,0,none⟩=some (.pointer (some ⟨r,0,none⟩))):=ab (λw2 s2 k2 hn=>by
  obtain ⟨A2,X2,h2,m2⟩:=hn;exact m2.mv.only.cell hP0 (λhm=>by have:=hXlt _ hm;simp at this))
 have HW:=ab hw;have HPN:Hid (∀b∈X,b≠w.heap.size):=ab (λb hb e=>by have:=hXlt b hb;omega);have hPW:w.heap.size<(w.alloc (.cells #[.pointer (some ⟨r,0,none⟩)] 53)).heap.size:=by simp
 have HN1:=ab h1;have ht0:=hw.term0;have hn5:=hw.n5;clear h hbx hbw hcell hXlt h1;go_enter Tryz.func65,Tryz.ntmps65
 go_upto_region 1 with (fail)
 generalize w.alloc (.cells #[.pointer (some ⟨r,0,none⟩)] 53)=W at *;generalize w.heap.size=P at *;by_cases htm:1099511627776<=s.term
 ·rw [aA htm] at HE;have HNW:Hid (NdP w W.drew A X r d l s k):=ab (NdP.trans HM0.out ((HN1.out.below (ak W 1)).ndp (Mv.below (ak W 1))));have g1:decide (1099511627776<=s.term)=true:=aJ htm;have hP1:W.drew.cell? ⟨P,0,none⟩=some (.pointer (some ⟨r,0,none⟩)):=hP0;refine wp_region_held_drew (S:=λw'=>w'.cell? ⟨P,0,none⟩=some (.pointer (some ⟨r,0,none⟩))) (by kernel_rfl) hP1 (λam=>?_);refine aB 0 ?_;refine aB 1 ?_;refine aB 2 ?_;refine cC 3 λK hK=>?_;go_simp
  refine hK.out _ _ am (λam=>?_);clear hK K;refine bH ?_;refine aB 4 ?_;refine aB 5 ?_;refine bP 6 ?_;refine bP 7 ?_;refine bP 8 ?_;refine bP 9 ?_;refine bP 10 ?_;refine bP 11 ?_;refine bP 12 ?_;refine bP 13 ?_;refine bP 14 ?_;refine bP 15 ?_;refine bP 16 ?_;refine bP 17 ?_;refine aB 18 ?_;refine fI ?_;clear am;go_wp2_with fail
  go_ret
  rw [HE.out];exact MsP.none HNW.out
 ·rw [aw htm] at HE;have g1:decide (1099511627776<=s.term)=false:=aW htm;have q1:IntKind.i64.wrap (s.term+1)=s.term+1:=IntWalk.i64_in _ (by omega);have hP1:W.drew.cell? ⟨P,0,none⟩=some (.pointer (some ⟨r,0,none⟩)):=hP0;have HEN:=ab (λW' (hb:Below W.heap.size W W')=>(lX (HN1.out.below hb) HW.out (s.term+1) (s.own:Int)).mono (R':=λe w'=>e = .returned (.bool (be s k (s.term+1) (s.own:Int)).1)/\NdP W w' A X r d l (be s k (s.term+1) (s.own:Int)).2.1 (be s k (s.term+1) (s.own:Int)).2.2) (by rintro e w' ⟨h1,h2⟩;exact ⟨h1,h2.trans (Mv.below hb)⟩));have HWE:=ab (iq HW.out (s.term+1) (s.own:Int) (by omega) (by omega) (by omega) (by have:=HW.out.own;omega));have HSE:=ab (tZ (s:=s) (k:=k) (s.term+1) (s.own:Int));have HWV:=ab (eE HWE.out (be s k (s.term+1) (s.own:Int)).2.1.lives 0 (be s k (s.term+1) (s.own:Int)).2.1.clock ((List.replicate s.n false).set s.own true) (aH _) (by rw [HSE.out.1];simp) (ah _));simp only at HE;generalize be s k (s.term+1) (s.own:Int)=p at *;obtain ⟨ok,s2,k2⟩:=p
  (try simp only at HE);(try simp only at HEN);(try simp only at HWE);(try simp only at HSE);(try simp only at HWV)
  have HKP:=ab (λw2=>HKP.out w2 s2 k2);cases ok with
  | false =>
   rw [aw (by simp)] at HE;refine wp_region_held_drew (S:=λw'=>w'.cell? ⟨P,0,none⟩=some (.pointer (some ⟨r,0,none⟩))) (by kernel_rfl) hP1 (λam=>?_);refine aB 0 ?_;refine aB 1 ?_;refine aB 2 ?_;refine cC 3 λK hK=>?_;go_simp
   refine hK.out _ _ am (λam=>?_);clear hK K;refine bH ?_;refine aB 4 ?_;refine aB 5 ?_;refine aB 6 ?_;refine aB 7 ?_;refine aB 8 ?_;refine aB 9 ?_;refine aB 12 ?_;refine aB 13 ?_;refine aB 14 ?_;refine j5 10 15 (λK hK=>?_) λK hK=>?_
   ·go_simp
    refine hK.out _ _ am (λam=>?_);clear hK K;refine bH ?_;refine aB 11 ?_;refine cC 15 λK hK=>?_;go_simp
    refine hK.out _ _ am (λam=>?_);clear hK K;refine bH ?_;exact xM
   ·go_simp
    refine hK.out _ _ am (λam=>?_);clear hK K;refine bH ?_;refine cC 10 λK hK=>?_;go_simp
    refine hK.out _ _ am (λam=>?_);clear hK K;refine bH ?_;refine aB 11 ?_;exact xM
  | true =>
   rw [aA rfl] at HE;go_cut [21] (λv wx=>v = .bool false/\NdP W wx A X r d l s2 k2/\wx.cell? ⟨P,0,none⟩=some (.pointer (some ⟨r,0,none⟩)))
   case first =>
     refine wp_region_held_drew (S:=λw'=>w'.cell? ⟨P,0,none⟩=some (.pointer (some ⟨r,0,none⟩))) (by kernel_rfl) hP1 (λam=>?_);refine aB 0 ?_;refine aB 1 ?_;refine aB 2 ?_;refine cC 3 λK hK=>?_;go_simp
     refine hK.out _ _ am (λam=>?_);clear hK K;refine bH ?_;refine aB 4 ?_;refine aB 5 ?_;refine aB 6 ?_;refine aB 7 ?_;refine aB 8 ?_;refine aB 9 ?_;refine aB 12 ?_;refine aB 13 ?_;refine aB 14 ?_;refine j5 10 15 (λK hK=>?_) λK hK=>?_
     ·go_simp
      refine hK.out _ _ am (λam=>?_);clear hK K;refine bH ?_;refine aB 11 ?_;refine cC 15 λK hK=>?_;go_simp
      refine hK.out _ _ am (λam=>?_);clear hK K;refine bH ?_;exact xL
     ·go_simp
      refine hK.out _ _ am (λam=>?_);clear hK K;refine bH ?_;refine cC 10 λK hK=>?_;go_simp
      refine hK.out _ _ am (λam=>?_);clear hK K;refine bH ?_;refine aB 11 ?_;exact xL
   case rest =>
   obtain ⟨rfl,hn3,hP3⟩:=hcut;rename World=>w3;obtain ⟨A3,X3,h3,m3⟩:=hn3;have H3:=ab h3;have M3:=ab (HM0.out.trans m3);obtain ⟨vl,gv,gn,gm,gh,hcell⟩:=h3.cells;have hc15:w3.cell? ⟨r,15,none⟩=some (.int .i64 (s2.ticks:Int)):=by rw [af hcell];rfl
   have hz15:=aM hcell 15;have hrlt:=aQ hcell;have HPX:Hid (∀b∈X3,b≠P):=ab (λb hb e=>by
     subst e;rcases m3.mv.gr b hb with h4 | h4
     · exact HPN.out b h4 rfl
     · omega)
   have HT:Hid (NdP w3 (w3.setCell ⟨r,15,none⟩ (.int .i64 0)) A3 X3 r d l { s2 with ticks:=0 } k2):=ab (by
     refine Nd.scal h3 ((Only.refl _ _).setCell (by simp) _) ?_ rfl rfl rfl rfl rfl rfl;intro vl gv gn gm gh hc;rw [aR hc];rfl)
   have hrP:r≠P:=HPX.out r h3.rX;have HP3:Hid (P<w3.heap.size):=ab (by have:=m3.mv.only.size;omega);clear h3 m3 hcell hc0 hc6 hP0 hP1 g1 q1 HEN HKP;go_upto_region 4 with (fail)
   have ho4:Only [r] w3 (w3.setCell ⟨r,15,none⟩ (.int .i64 0)):=(Only.refl _ _).setCell (by simp) _;have hP4:=ho4.cell hP3 (by simpa using hrP.symm);obtain ⟨A4,X4,h4,m4⟩:=HT.out;have M4:=ab (M3.out.trans m4);have HPX4:Hid (∀b∈X4,b≠P):=ab (λb hb e=>by
     rcases m4.mv.gr b hb with h5 | h5
     · exact HPX.out b h5 e
     · have:=ho4.size;have:=HP3.out;omega)
   have HP4s:Hid (P<(w3.setCell ⟨r,15,none⟩ (.int .i64 0)).heap.size):=ab (by have:=ho4.size;have:=HP3.out;omega);clear ho4 hc15 hz15 hP3 m4;generalize w3.setCell ⟨r,15,none⟩ (.int .i64 0)=W4 at *;have h4:=h4.below (ak W4 1);have M4:=ab (M4.out.trans (Mv.below (A:=A4) (X:=X4) (ak W4 1)));have hP4:W4.drew.cell? ⟨P,0,none⟩=some (.pointer (some ⟨r,0,none⟩)):=hP4;have HP4s:Hid (P<W4.drew.heap.size):=HP4s;have hsn:s2.n=s.n:=HSE.out.1;have hso:s2.own=s.own:=HSE.out.2.1;change Nd W4.drew A4 X4 r d l { s2 with ticks:=0 } k2 at h4;change Hid (Mv A A4 X X4 w W4.drew) at M4;have HM4:=ab (λW=>Nd.new_votes' h4 (List.replicate s.n false) s.n hsn W);obtain ⟨vl,gv,gn,gm,gh,hcell⟩:=h4.cells;have hc1:W4.drew.cell? ⟨r,1,none⟩=some (.int .i64 (s.n:Int)):=by rw [af hcell,<-hsn];rfl
   have hc12:W4.drew.cell? ⟨r,12,none⟩=some (pR gv s2.n):=by rw [af hcell];rfl
   have hz12:=aM hcell 12;have hmk:=nA s.n hn5;have hrl4:=aQ hcell;have HK4:Hid (∀v,(W4.drew.alloc (.cells (dq (List.replicate s.n false)) 4)).cell? ⟨P,0,none⟩=some (.pointer (some ⟨r,0,none⟩))/\(W4.drew.alloc (.cells (dq (List.replicate s.n false)) 4)).cell? ⟨r,1,none⟩=some (.int .i64 (s.n:Int))/\((W4.drew.alloc (.cells (dq (List.replicate s.n false)) 4)).setCell ⟨r,12,none⟩ v).cell? ⟨P,0,none⟩=some (.pointer (some ⟨r,0,none⟩))/\((W4.drew.alloc (.cells (dq (List.replicate s.n false)) 4)).setCell ⟨r,12,none⟩ v).cell? ⟨r,1,none⟩=some (.int .i64 (s.n:Int))):=ab (λv=>by
     have hb:Below W4.drew.heap.size W4.drew (W4.drew.alloc (.cells (dq (List.replicate s.n false)) 4)):=(az _ _).alloc (ah _) _;have e1:=cell_later hb hP4;have ho:Only [r] (W4.drew.alloc (.cells (dq (List.replicate s.n false)) 4)) ((W4.drew.alloc (.cells (dq (List.replicate s.n false)) 4)).setCell ⟨r,12,none⟩ v):=(Only.refl _ _).setCell (by simp) _;have hh:=bb hcell (.cells (dq (List.replicate s.n false)) 4);refine ⟨e1,cell_later hb hc1,ho.cell e1 (by simpa using hrP.symm),?_⟩;rw [af (aR hh 12 v),<-hsn];rfl)
   have hcz:(W4.drew.alloc (.cells (dq (List.replicate s.n false)) 4)).cell? ⟨r,12,none⟩=some (pR gv s2.n):=by rw [af (bb hcell (.cells (dq (List.replicate s.n false)) 4))];rfl
   have hzz:(W4.drew.alloc (.cells (dq (List.replicate s.n false)) 4)).frozen? ⟨r,12,none⟩=false:=aM (bb hcell (.cells (dq (List.replicate s.n false)) 4)) 12;clear h4 hcell hc12 hz12;refine wp_region_held_drew (S:=λw'=>w'.cell? ⟨P,0,none⟩=some (.pointer (some ⟨r,0,none⟩))/\w'.cell? ⟨r,1,none⟩=some (.int .i64 (s.n:Int))) (by kernel_rfl) ⟨hP4,hc1⟩ (λam=>?_);refine aB 0 ?_;refine aB 1 ?_;refine aB 2 ?_;refine aB 3 ?_;refine aB 4 ?_;generalize W4.drew=V4 at *;refine cC 5 λK hK=>?_;go_simp
   refine hK.out _ _ ⟨(HK4.out undef).1,(HK4.out undef).2.1⟩ (λam=>?_);clear hK K;refine bH ?_;generalize hv5:V4.alloc (.cells (dq (List.replicate s.n false)) 4)=V5 at *;have hnv:V5.heap.size=V4.heap.size+1:=by rw [<-hv5];simp
   refine aB 6 ?_;refine aB 7 ?_;refine cC 8 λK hK=>?_;go_simp
   refine hK.out _ _ ⟨(HK4.out _).2.2.1,(HK4.out _).2.2.2⟩ (λam=>?_);clear hK K;refine bH ?_;refine fI ?_;clear am;obtain ⟨A5,X5,h5,m5⟩:=HM4.out _ rfl;have hP5:=(HK4.out (.slice (some ⟨V4.heap.size,0,none⟩) s.n s.n)).2.2.1;have M5:=ab (M4.out.trans m5);have HPX5:Hid (∀b∈X5,b≠P):=ab (λb hb e=>by
     rcases m5.mv.gr b hb with h6 | h6
     · exact HPX4.out b h6 e
     · have:=HP4s.out;omega)
   go_upto_region 5 with (fail)
   clear hcz hzz HM4 HK4 hc1 hP4 hmk;generalize V5.setCell ⟨r,12,none⟩ (.slice (some ⟨V4.heap.size,0,none⟩) s.n s.n)=W5 at *;have h5:=h5.below (ak W5 1);have M5:=ab (M5.out.trans (Mv.below (A:=A5) (X:=X5) (ak W5 1)));have hP5:(W5.drewN 1).cell? ⟨P,0,none⟩=some (.pointer (some ⟨r,0,none⟩)):=hP5;change (W5.drew).cell? ⟨P,0,none⟩=some (.pointer (some ⟨r,0,none⟩)) at hP5;change Nd W5.drew A5 X5 r d l { s2 with ticks:=0,votes:=List.replicate s.n false } k2 at h5;change Hid (Mv A A5 X X5 w W5.drew) at M5;obtain ⟨D,L,R,vl,gv,gn,gm,gh,h6,hX6⟩:=h5;have hc12:W5.drew.cell? ⟨r,12,none⟩=some (.slice (some ⟨gv,0,none⟩) s.n s.n):=by rw [af h6.cell,<-hsn];rfl
   have hc0:W5.drew.cell? ⟨r,0,none⟩=some (.int .i64 (s.own:Int)):=by rw [af h6.cell,<-hso];rfl
   have hown:(s.own:Int)<(s.n:Int):=by have:=HW.out.own;omega
   have hcv:W5.drew.cell? ⟨gv,s.own,none⟩=some (.bool ((List.replicate s.n false).getD s.own false)):=by rw [af h6.votes];exact lZ _ _ (by simp;omega)
   have hzv:=aM h6.votes s.own;have hPgv:P≠gv:=λe=>HPX5.out gv ((hX6 gv).2 (.inr (.inr h6.vR))) e.symm;have hrgv:r≠gv:=bZ h6.cell h6.votes (by decide);have HK5:Hid (∀v,(W5.drew.setCell ⟨gv,s.own,none⟩ v).cell? ⟨P,0,none⟩=some (.pointer (some ⟨r,0,none⟩))/\(W5.drew.setCell ⟨gv,s.own,none⟩ v).cell? ⟨r,12,none⟩=some (.slice (some ⟨gv,0,none⟩) s.n s.n)/\(W5.drew.setCell ⟨gv,s.own,none⟩ v).cell? ⟨r,0,none⟩=some (.int .i64 (s.own:Int))):=ab (λv=>by
     have ho:Only [gv] W5.drew (W5.drew.setCell ⟨gv,s.own,none⟩ v):=(Only.refl _ _).setCell (by simp) _;exact ⟨ho.cell hP5 (by simpa using hPgv),ho.cell hc12 (by simpa using hrgv),ho.cell hc0 (by simpa using hrgv)⟩)
   have H7:Hid (NdP W5.drew (W5.drew.setCell ⟨gv,s.own,none⟩ (.bool true)) A5 X5 r d l { s2 with ticks:=0,votes:=(List.replicate s.n false).set s.own true } k2):=ab ((h6.set_votes s.own true).ndpR hX6 (S:=[gv]) ((Only.refl _ _).setCell (by simp) _) (λb hb=>by rw [aj.1 hb];exact h6.vR));clear h6 hX6 hPgv hrgv;refine wp_region_held_drew (S:=λw'=>w'.cell? ⟨P,0,none⟩=some (.pointer (some ⟨r,0,none⟩))/\w'.cell? ⟨r,12,none⟩=some (.slice (some ⟨gv,0,none⟩) s.n s.n)/\w'.cell? ⟨r,0,none⟩=some (.int .i64 (s.own:Int))) (by kernel_rfl) ⟨hP5,hc12,hc0⟩ (λam=>?_);refine aB 0 ?_;refine aB 1 ?_;refine aB 2 ?_;refine aB 3 ?_;refine aB 4 ?_;refine aB 5 ?_;refine aB 6 ?_;refine aB 7 ?_;refine aB 8 ?_;generalize W5.drew=V5b at *;refine cC 9 λK hK=>?_;go_simp
   refine hK.out _ _ (HK5.out _) (λam=>?_);clear hK K;refine bH ?_;refine fI ?_;clear am;have hP8:=(HK5.out (.bool true)).1;generalize V5b.setCell ⟨gv,s.own,none⟩ (.bool true)=W8 at *;obtain ⟨A7,X7,h7,m7⟩:=H7.out;have H7:=ab h7;have M7:=ab (M5.out.trans m7);clear h7 m7 hc12 hc0 hcv hzv hP5;have HWV:Hid (Wf { s2 with ticks:=0,votes:=(List.replicate s.n false).set s.own true } k2):=HWV;have hlog:s2.log.length<=1000000:=by have:=HWV.out.logb;have h9:s2.log.length<=87381:=this;omega
   have HCH:=ab (n8 H7.out HWV.out.n5 HWV.out.vl)
   (try simp only at HE)
   generalize hs7:({ s2 with ticks:=0,votes:=(List.replicate s.n false).set s.own true }:Rp)=s7 at *;have HLG:Hid (s7.log.length<=1000000):=ab (by rw [<-hs7];exact hlog);clear hs7;go_wp2_with fail
   refine HCH.out.mono ?_;rintro e w9 ⟨rfl,rfl⟩;cases hch:ft s7 with
   | true =>
     rw [hch,aA rfl] at HE;go_wp2_with fail
     refine (rE H7.out HWV.out).mono ?_;rintro e w9 hms;obtain ⟨v9,A9,X9,rfl,h9,ho9,m9⟩:=hms;have HF:=ab (MsP.trans M7.out ⟨v9,A9,X9,rfl,h9,ho9,m9⟩);clear h9 ho9 m9;go_wp2_with fail
     go_ret
     rw [HE.out];exact HF.out
   | false =>
     rw [hch,aw (by simp)] at HE;go_wp2_with fail
     refine (oB H7.out HWV.out.n5 HLG.out P hP8).mono ?_;rintro e w9 ⟨v9,rfl,ho9,hb9⟩;have HF:=ab (MsP.trans M7.out (gf H7.out ho9 hb9));clear ho9 hb9;go_wp2_with fail
     go_ret
     rw [HE.out];exact HF.out
end
section
variable {w w':World} {A A' X X':List Nat} {r d l:Nat} {s s':Rp} {k k':Dk}
theorem sU (h:dQ s k=true):dX s k=([],aV s k,k):=by
 unfold dX;simp only;rw [aA (by exact h)]
theorem qK (h:dQ s k=false) (hl:s.leads=true):dX s k=(cR { aV s k with clock:=s.clock+1 } (bQ { aV s k with clock:=s.clock+1 }),{ aV s k with clock:=s.clock+1 },k):=by
 unfold dX;simp only;rw [aw (by show ¬dQ s k=true;rw [h];decide),aA (by exact hl)];rfl
def yd (s:Rp) (k:Dk):Rp:={ aV s k with clock:=s.clock+1,ticks:=s.ticks+1 }
theorem vk (h:dQ s k=false) (hl:s.leads=false):dX s k=(if 8<=s.ticks+1/\jF (yd s k)=true then fR (yd s k) k else if 4<=s.ticks+1 then (cR (yd s k) (bp (yd s k) 5),yd s k,k) else ([],yd s k,k)):=by
 unfold dX;simp only;rw [aw (by show ¬dQ s k=true;rw [h];decide),aw (by show ¬s.leads=true;rw [hl];decide)];rfl
set_option maxHeartbeats 4000000 in
theorem yg (h:Nd w A X r d l s k) (hw:Wf s k) (hck:s.clock+1<=1000000):Calls Tryz.prog 38 #[.pointer (some ⟨r,0,none⟩)] w λe w'=>MsP w w' A X r d l e (dX s k):=by
 have hbw:Below w.heap.size w (w.alloc (.cells #[.pointer (some ⟨r,0,none⟩)] 53)):=(az _ _).alloc (ah _) _;have hbx:=aK w (.cells #[.pointer (some ⟨r,0,none⟩)] 53);have h1:=h.below hbw;have HM0:Hid (Mv A A X X w (w.alloc (.cells #[.pointer (some ⟨r,0,none⟩)] 53))):=ab (Mv.below hbw);have hP0:(w.alloc (.cells #[.pointer (some ⟨r,0,none⟩)] 53)).cell? ⟨w.heap.size,0,none⟩=some (.pointer (some ⟨r,0,none⟩)):=by rw [af hbx];rfl
 have hrP:r≠w.heap.size:=by have:=h.alt r (h.xA r h.rX);omega
 have HRX:=ab h.rX;have HD:=ab (iL h1);have HWD:=ab (gt hw);have HTD:=ab (sU (s:=s) (k:=k));have HTL:=ab (qK (s:=s) (k:=k));have HTN:=ab (vk (s:=s) (k:=k));have htk:=hw.tick;clear h hbw hbx h1 hw;go_enter Tryz.func38,Tryz.ntmps38
 go_wp2_with fail
 generalize w.alloc (.cells #[.pointer (some ⟨r,0,none⟩)] 53)=W at *;generalize w.heap.size=P at *;refine HD.out.mono ?_;rintro e w2 ⟨rfl,hn2,ho2⟩;have hP2:=ho2.cell hP0 (by simpa using hrP.symm);have H2:=ab hn2;have M2:=ab (HM0.out.trans (Mv.only (A:=A) ho2 (by simpa using HRX.out)));obtain ⟨vl,gv,gn,gm,gh,hcell⟩:=hn2.cells;have hc16:w2.cell? ⟨r,16,none⟩=some (.int .i64 (s.clock:Int)):=by rw [af hcell];rfl
 have hc15:w2.cell? ⟨r,15,none⟩=some (.int .i64 (s.ticks:Int)):=by rw [af hcell];rfl
 have hc11:w2.cell? ⟨r,11,none⟩=some (.bool s.leads):=by rw [af hcell];rfl
 have hz16:=aM hcell 16;have hz15:=aM hcell 15;have q1:IntKind.i64.wrap ((s.clock:Int)+1)=(s.clock:Int)+1:=IntWalk.i64_in _ (by omega);have q2:IntKind.i64.wrap ((s.ticks:Int)+1)=(s.ticks:Int)+1:=IntWalk.i64_in _ (by omega);clear hn2 ho2 hP0 HD hcell;cases hdn:dQ s k with
 | true =>
  have HE:=ab (HTD.out hdn);go_wp2_with fail
  go_ret
  rw [HE.out];exact MsP.none (H2.out.ndp M2.out)
 | false =>
  cases hld:s.leads with
  | true =>
   have HE:=ab (HTL.out hdn hld);rw [hld] at hc11;have HW3:=ab (eE HWD.out s.lives s.ticks (s.clock+1) s.votes (Nat.le_succ_of_le htk) HWD.out.vl (cf _));have H3:Hid (NdP w2 (w2.setCell ⟨r,16,none⟩ (.int .i64 ((s.clock:Int)+1))) A X r d l { aV s k with clock:=s.clock+1 } k):=ab (by
    refine Nd.scal H2.out ((Only.refl _ _).setCell (by simp) _) ?_ rfl rfl rfl rfl rfl rfl;intro vl gv gn gm gh hc;rw [aR hc];rfl)
   have HLD:Hid (({ aV s k with clock:=s.clock+1 }:Rp).leads=true):=ab hld;have HW3:Hid (Wf { aV s k with clock:=s.clock+1 } k):=HW3;go_wp2_with fail
   obtain ⟨A3,X3,h3,m3⟩:=H3.out;have M3:=ab (M2.out.trans m3);refine (gk h3 HW3.out.n5 HW3.out (λi _=>(HW3.out.lead HLD.out i).1)).mono ?_;rintro e w4 ⟨v4,rfl,ho4,hb4⟩;have HF:=ab (MsP.trans M3.out (gf h3 ho4 hb4));clear ho4 hb4 h3 m3;go_wp2_with fail
   go_ret
   rw [HE.out];exact HF.out
  | false =>
   have HE:=ab (HTN.out hdn hld);rw [hld] at hc11;have HW3:Hid (Wf (yd s k) k):=ab (eE HWD.out s.lives (s.ticks+1) (s.clock+1) s.votes (by omega) HWD.out.vl (cf _));have H3:Hid (NdP w2 ((w2.setCell ⟨r,16,none⟩ (.int .i64 ((s.clock:Int)+1))).setCell ⟨r,15,none⟩ (.int .i64 ((s.ticks:Int)+1))) A X r d l (yd s k) k):=ab (by
    refine Nd.scal H2.out (((Only.refl _ _).setCell (by simp) _).setCell (by simp) _) ?_ rfl rfl rfl rfl rfl rfl;intro vl gv gn gm gh hc;rw [aR (aR hc 16 _) 15 _];rfl)
   have hP3:((w2.setCell ⟨r,16,none⟩ (.int .i64 ((s.clock:Int)+1))).setCell ⟨r,15,none⟩ (.int .i64 ((s.ticks:Int)+1))).cell? ⟨P,0,none⟩=some (.pointer (some ⟨r,0,none⟩)):=(((Only.refl [r] _).setCell (p:=⟨r,16,none⟩) (by simp) _).setCell (p:=⟨r,15,none⟩) (by simp) _).cell hP2 (by simpa using hrP.symm);have HCK:Hid ((yd s k).clock<=1000000):=ab hck;have HLG:Hid ((yd s k).log.length<=1000000):=ab (by have:=HW3.out.logb;omega);by_cases h8:8<=s.ticks+1
   ·have g8:(8:Int)<=(s.ticks:Int)+1:=by omega
    have g4:(4:Int)<=(s.ticks:Int)+1:=by omega
    go_wp2_with fail
    obtain ⟨A3,X3,h3,m3⟩:=H3.out;have H3:=ab h3;have M3:=ab (M2.out.trans m3);refine (Ab h3 HW3.out HCK.out).mono ?_;rintro e w4 ⟨rfl,hb4⟩;have H4:=ab (H3.out.below hb4);have M4:=ab (M3.out.trans (Mv.below (A:=A3) (X:=X3) hb4));have hP4:=cell_later hb4 hP3;obtain ⟨vl,gv,gn,gm,gh,hcell⟩:=H4.out.cells;have hk15:w4.cell? ⟨r,15,none⟩=some (.int .i64 ((s.ticks:Int)+1)):=by rw [af hcell];rfl
    clear h3 m3 hb4 hcell hP3 hc15 hc16 hc11 hz15 hz16;cases hbs:jF (yd s k) with
    | true =>
     rw [aA ⟨h8,hbs⟩] at HE;go_wp2_with fail
     refine (vA H4.out HW3.out).mono ?_;rintro e w5 ⟨v5,A5,X5,rfl,h5,ho5,m5⟩;have HF:=ab (MsP.trans M4.out ⟨v5,A5,X5,rfl,h5,ho5,m5⟩);clear h5 ho5 m5;go_wp2_with fail
     go_ret
     rw [HE.out];exact HF.out
    | false =>
     rw [aw (by rw [hbs];simp),aA (by omega)] at HE;go_wp2_with fail
     refine (kR H4.out HW3.out.n5 HLG.out P hP4).mono ?_;rintro e w5 ⟨v5,rfl,ho5,hb5⟩;have HF:=ab (MsP.trans M4.out (gf H4.out ho5 hb5));clear ho5 hb5;go_wp2_with fail
     go_ret
     rw [HE.out];exact HF.out
   ·have g8:¬(8:Int)<=(s.ticks:Int)+1:=by omega
    rw [aw (λh=>h8 h.1)] at HE;by_cases h4:4<=s.ticks+1
    ·have g4:(4:Int)<=(s.ticks:Int)+1:=by omega
     rw [aA h4] at HE;obtain ⟨A3,X3,h3,m3⟩:=H3.out;have H3:=ab h3;have M3:=ab (M2.out.trans m3);clear h3 m3;go_wp2_with fail
     refine (kR H3.out HW3.out.n5 HLG.out P hP3).mono ?_;rintro e w5 ⟨v5,rfl,ho5,hb5⟩;have HF:=ab (MsP.trans M3.out (gf H3.out ho5 hb5));clear ho5 hb5;go_wp2_with fail
     go_ret
     rw [HE.out];exact HF.out
    ·have g4:¬(4:Int)<=(s.ticks:Int)+1:=by omega
     rw [aw h4] at HE;go_wp2_with fail
     go_ret
     rw [HE.out];exact MsP.none (NdP.trans M2.out H3.out)
end
section
variable {w w':World} {A A' X X':List Nat} {r d l:Nat} {s s':Rp} {k k':Dk}
def jb (s:Rp) (k:Dk):Bool×Rp:=if s.leads then (!dQ s k,aV s k) else (false,s)
theorem wy (h:Nd w A X r d l s k):Calls Tryz.prog 33 #[.pointer (some ⟨r,0,none⟩)] w λe w'=>e = .returned (.bool (jb s k).1)/\Nd w' A X r d l (jb s k).2 k/\Only [r] w w':=by
 obtain ⟨vl,gv,gn,gm,gh,hcell⟩:=h.cells;have hc11:w.cell? ⟨r,11,none⟩=some (.bool s.leads):=by rw [af hcell];rfl
 have HD:=ab (iL h);have H:=ab h;clear h hcell;cases hl:s.leads with
 | true =>
  have HE:Hid (jb s k=(!dQ s k,aV s k)):=ab (by unfold jb;rw [aA hl]);rw [hl] at hc11;go_enter Tryz.func33,Tryz.ntmps33
  go_wp2_with fail
  refine HD.out.mono ?_;rintro e w2 ⟨rfl,hn2,ho2⟩;have HN2:=ab hn2;have HO2:=ab ho2;clear hn2 ho2;go_wp2_with fail
  go_ret
  rw [HE.out];exact ⟨rfl,HN2.out,HO2.out⟩
 | false =>
  have HE:Hid (jb s k=(false,s)):=ab (by unfold jb;rw [aw (by rw [hl];decide)]);rw [hl] at hc11;go_enter Tryz.func33,Tryz.ntmps33
  go_wp2_with fail
  go_ret
  rw [HE.out];exact ⟨rfl,H.out,Only.refl _ _⟩
end
theorem z5 (w:World) (t:ByteArray):∃c w',(convert 9 31 (.string t)).run Tryz.prog w = .ok (.slice (some ⟨w.heap.size,0,none⟩) t.size c) w'/\Below w.heap.size w w'/\∀A,(∀b∈A,b<w.heap.size)->Imm w' A (.slice (some ⟨w.heap.size,0,none⟩) t.size c) t.data.toList:=by
 have hr:=run_bytes_of_string (P:=Tryz.prog) w 9 31 5 t (by kernel_rfl) (by kernel_rfl) (by kernel_rfl);refine ⟨_,_,hr,(ak w 1).alloc (ah _) _,λA hA=>?_⟩;have hl:t.data.toList.length=t.size:=oJ;have hhp:(w.drew.alloc (.cells (bytesRow t (grownCap w t.size 0 5)) 5 ((bytesRow t (grownCap w t.size 0 5)).size,(bytesRow t (grownCap w t.size 0 5)).size+1))).heap[w.heap.size]? = _:=aK w.drew _;refine ⟨some ⟨w.heap.size,0,none⟩,_,by rw [hl],?_,?_,λp hp=>?_⟩
 ·rw [hl];refine ⟨hl,(λe=>by cases e),?_⟩;refine .inr ⟨w.heap.size,0,rfl,λi hi=>?_⟩;rw [af hhp,cy,bytesRow_at t _ i hi];rw [aF,ew,sK hi];rfl
 ·rw [hl];exact grownCap_ge w t.size 0 5
 ·cases hp;exact ⟨λhm=>by have:=hA _ hm;simp at this,by simp⟩
theorem me (t who:Int):dw t who=fy 1++(fy t++(fy who++[])):=by unfold dw jg;rfl
theorem mg (p:Nat) (x:Ent):db p x=fy 2++(fy (p:Int)++(fy x.term++(xn (fp x.bs)++[]))):=by
 rw [qM];unfold db jg;simp [bD]
section
variable {w0 w w':World} {A A' X X':List Nat} {r d l:Nat} {s s':Rp} {k k':Dk} {T:Nat->Prop}
set_option maxHeartbeats 4000000 in
theorem vY (h:Nd w0 A X r d l s k) (hb:Below w0.heap.size w0 w) (a:Nat) (ha:w0.heap.size<=a) (t who:Int) (hr:IsR w a T (dw t who) false) (h1:s.term<=t) (h10:0<=t) (h2:t<=1099511627776) (h3 : -1<=who) (h4:who<s.n) (h5:s.n<=5) :
  Calls Tryz.prog 58 #[.pointer (some ⟨r,0,none⟩),.pointer (some ⟨a,0,none⟩)] w λe w'=>e = .returned (.bool true)/\NdP w0 w' A X r d l { s with term:=t,choice:=who } k:=by
 have H:=ab h;have HS:Hid (∀w1 w2,Below w0.heap.size w0 w1->Only [a] w1 w2->Below w0.heap.size w0 w2):=ab (λw1 w2 hb ho=>hb.trans (ho.below hb.size (by simpa using ha)));have HB:=ab hb;have HR:=ab hr;rw [me] at HR;clear h hb hr;go_enter Tryz.func58,Tryz.ntmps58
 go_wp2_with fail
 refine (gc a _ false w HR.out (by simp [eZ])).mono ?_;rintro e w1 ⟨rfl,hr1,ho1⟩;rw [ki 1 _ false (by omega) (by omega)] at hr1 ⊢;have HR1:=ab hr1;have HB1:=ab (HS.out _ _ HB.out ho1);clear hr1 ho1;go_wp2_with fail
 refine (gc a _ false w1 HR1.out (by simp [eZ])).mono ?_;rintro e w2 ⟨rfl,hr2,ho2⟩;rw [ki t _ false (by omega) (by omega)] at hr2 ⊢;have HR2:=ab hr2;have HB2:=ab (HS.out _ _ HB1.out ho2);clear hr2 ho2;go_wp2_with fail
 refine (gc a _ false w2 HR2.out (by simp [eZ])).mono ?_;rintro e w3 ⟨rfl,hr3,ho3⟩;rw [ki who _ false (by omega) (by omega)] at hr3 ⊢;have HR3:=ab hr3;have HB3:=ab (HS.out _ _ HB2.out ho3);clear hr3 ho3;go_wp2_with fail
 refine (uV a _ false w3 HR3.out).mono ?_;rintro e w4 ⟨rfl,rfl⟩;have H3:=ab (H.out.below HB3.out);have HBX:=HB3;obtain ⟨vl,gv,gn,gm,gh,hcell⟩:=H3.out.cells;have hc6:w3.cell? ⟨r,6,none⟩=some (.int .i64 s.term):=by rw [af hcell];rfl
 have hc7:w3.cell? ⟨r,7,none⟩=some (.int .i64 s.choice):=by rw [af hcell];rfl
 have hc1:w3.cell? ⟨r,1,none⟩=some (.int .i64 (s.n:Int)):=by rw [af hcell];rfl
 have hz6:=aM hcell 6;have hz7:=aM hcell 7;have g1:¬t<s.term:=by omega
 have g2:¬(1099511627776:Int)<t:=by omega
 have g3:¬who < -1:=by omega
 have g4:¬(s.n:Int)<=who:=by omega
 clear hcell HB HB1 HB2 HR HR1 HR2 HR3 h1 h10 h2 h3 h4 h5 HS;go_wp2_with fail
 go_ret
 refine ⟨rfl,NdP.trans (Mv.below HBX.out) (Nd.scal H3.out ?_ ?_ rfl rfl rfl rfl rfl rfl)⟩
 ·exact ((Only.refl _ _).setCell (by simp) _).setCell (by simp) _
 ·intro vl gv gn gm gh hc;rw [aR (aR hc 6 _) 7 _];simp [et]
set_option maxHeartbeats 4000000 in
theorem vZ (h:Nd w0 A X r d l s k) (hb:Below w0.heap.size w0 w) (a:Nat) (ha:w0.heap.size<=a) (p:Nat) (x:Ent) (hr:IsR w a T (db p x) false) (h1:p<=s.log.length) (h2:1<=x.term) (h3:x.term<=s.term) (h4:x.bs.length<=8000) (h5:s.log.length<=1000000) (h6:s.term<=1099511627776) :
  Calls Tryz.prog 58 #[.pointer (some ⟨r,0,none⟩),.pointer (some ⟨a,0,none⟩)] w λe w'=>e = .returned (.bool true)/\NdP w0 w' A X r d l { s with log:=s.log.take p++[x]} k:=by
 have H:=ab h;have HS:Hid (∀w1 w2,Below w0.heap.size w0 w1->Only [a] w1 w2->Below w0.heap.size w0 w2):=ab (λw1 w2 hb ho=>hb.trans (ho.below hb.size (by simpa using ha)));have HB:=ab hb;have HR:=ab hr;rw [mg] at HR;have hts:(fp x.bs).size=x.bs.length:=vw _;have htl:(fp x.bs).data.toList=x.bs:=by simp [fp]
 have HTL:=ab htl;have hlen:(fy 2++(fy (p:Int)++(fy x.term++(xn (fp x.bs)++[])))).length<=100000:=by rw [<-mg,gL];omega
 have hlen1:(fy (p:Int)++(fy x.term++(xn (fp x.bs)++[]))).length<=100000:=by rw [ay] at hlen;omega
 have hlen2:(fy x.term++(xn (fp x.bs)++[])).length<=100000:=by rw [ay] at hlen1;omega
 have hlen3:(xn (fp x.bs)++[]).length<=100000:=by rw [ay] at hlen2;omega
 have HXB:Hid (x.bs.length<=8000):=ab h4;have HPL:Hid (p<=s.log.length/\s.log.length<=1000000):=ab ⟨h1,h5⟩;clear h hb hr htl;generalize htb:fp x.bs=tb at *;have htb2:tb.size<=8000:=by omega
 clear htb hts;go_enter Tryz.func58,Tryz.ntmps58
 go_wp2_with fail
 refine (gc a _ false w HR.out (by omega)).mono ?_;rintro e w1 ⟨rfl,hr1,ho1⟩;rw [ki 2 _ false (by omega) (by omega)] at hr1 ⊢;have HR1:=ab hr1;have HB1:=ab (HS.out _ _ HB.out ho1);clear hr1 ho1;go_wp2_with fail
 refine (gc a _ false w1 HR1.out (by omega)).mono ?_;rintro e w2 ⟨rfl,hr2,ho2⟩;rw [ki (p:Int) _ false (by omega) (by omega)] at hr2 ⊢;have HR2:=ab hr2;have HB2:=ab (HS.out _ _ HB1.out ho2);clear hr2 ho2;go_wp2_with fail
 refine (gc a _ false w2 HR2.out (by omega)).mono ?_;rintro e w3 ⟨rfl,hr3,ho3⟩;rw [ki x.term _ false (by omega) (by omega)] at hr3 ⊢;have HR3:=ab hr3;have HB3:=ab (HS.out _ _ HB2.out ho3);clear hr3 ho3;go_wp2_with fail
 refine (ti a _ false 8000 w3 HR3.out (by omega)).mono ?_;rintro e w4 ⟨rfl,hr4,ho4⟩;rw [Cj tb [] false 8000 (by omega) (by omega)] at hr4 ⊢;have HR4:=ab hr4;have HB4:=ab (HS.out _ _ HB3.out ho4);clear hr4 ho4;go_wp2_with fail
 refine (uV a _ false w4 HR4.out).mono ?_;rintro e w5 ⟨rfl,rfl⟩;obtain ⟨D,L,R,vl,gv,gn,gm,gh,h4n,hX4⟩:=H.out.below HB4.out;have HX4:=ab hX4;have HC4:=ab h4n;have hc6:w4.cell? ⟨r,6,none⟩=some (.int .i64 s.term):=by rw [af h4n.cell];rfl
 obtain ⟨al,cl,evl,hcl,hcm,hcn,hcg⟩:=mI h4n.log;subst evl;have hc8:w4.cell? ⟨r,8,none⟩=some (.slice al s.log.length cl):=by rw [af h4n.cell];rfl
 have g1:¬(p:Int)<0:=by omega
 have g2:¬(s.log.length:Int)<(p:Int):=by omega
 have g3:¬x.term<1:=by omega
 have g4:¬s.term<x.term:=by omega
 have hpc:p<=cl:=aD h1 hcl;have HCN:=ab hcn;have HCG:=ab hcg;have HAL:=ab h4n.wd.alt;have HK8:Hid (∀w',Below w4.heap.size w4 w'->w'.cell? ⟨r,8,none⟩=some (.slice al s.log.length cl)):=ab (λw' hb=>cell_later hb hc8);clear HB HB1 HB2 HB3 HR HR1 HR2 HR3 HR4 hlen hlen1 hlen2 hlen3 h2 h3 h5 h6 HS h4n hX4 hcn hcg;obtain ⟨c5,W5,hcv,hb5,hi5⟩:=z5 w4 tb;have hk8:=HK8.out _ hb5;have HC5:=ab (HC4.out.below hb5);have HU5:=ab (hi5 A HAL.out);rw [HTL.out] at HU5;have HB5:=ab hb5;have HSZ:Hid (w4.heap.size<=W5.heap.size):=ab hb5.size;clear hb5 hi5;go_upto_region 12 with (fail)
 have HB6:Hid (Below W5.heap.size W5 (W5.alloc (.cells #[.int .i64 x.term,.slice (some ⟨w4.heap.size,0,none⟩) tb.size c5] 94))):=ab ((az _ _).alloc (ah _) _);have HX6:=ab (aK W5 (.cells #[.int .i64 x.term,.slice (some ⟨w4.heap.size,0,none⟩) tb.size c5] 94));have HC6:=ab (HC5.out.below HB6.out);have HU6:=ab (HU5.out.below HB6.out);go_wp2_with (at_builtin;refine hZ rfl (.tmp 96) (.tmp 101) rfl HC6.out.log p HPL.out.1 HPL.out.2 (y:=x) HX6.out HU6.out HC6.out.wd.alt (by rfl) (by rfl) ?_)
 intro c7 cur7 he7;have HE7:=ab he7;have hB7a:=(HB5.out.alloc HB5.out.size (.cells #[.int .i64 x.term,.slice (some ⟨w4.heap.size,0,none⟩) tb.size c5] 94))
 have hB7b:=hB7a.alloc hB7a.size (.cells cur7 94);have hC7a:NdC ((W5.alloc (.cells #[.int .i64 x.term,.slice (some ⟨w4.heap.size,0,none⟩) tb.size c5] 94)).alloc (.cells cur7 94)) A D L R r d l s k (.slice al s.log.length cl) gv gn gm gh:=HC6.out.below ((az _ _).alloc (ah _) _);have HC7:=ab (hC7a.below (ak _ 1));have HB7:=ab (hB7b.trans ((ak _ 1).mono hB7b.size));have hs1:w4.heap.size<=W5.heap.size+1:=by have:=HSZ.out;omega
 have hs2:W5.heap.size+1<(((W5.alloc (.cells #[.int .i64 x.term,.slice (some ⟨w4.heap.size,0,none⟩) tb.size c5] 94)).alloc (.cells cur7 94)).drewN 1).heap.size:=by simp
 have hy8:(((W5.alloc (.cells #[.int .i64 x.term,.slice (some ⟨w4.heap.size,0,none⟩) tb.size c5] 94)).alloc (.cells cur7 94)).drewN 1).cell? ⟨r,8,none⟩=some (.slice al s.log.length cl):=by rw [af HC7.out.cell];rfl
 have hz8:=aM HC7.out.cell 8;have HE7:Hid (IsE (((W5.alloc (.cells #[.int .i64 x.term,.slice (some ⟨w4.heap.size,0,none⟩) tb.size c5] 94)).alloc (.cells cur7 94)).drewN 1) A (.slice (some ⟨W5.heap.size+1,0,none⟩) (p+1) c7) (s.log.take p++[x])):=HE7;clear he7 hB7a hB7b hC7a hk8;change wpList _ _ _ _ _ (((W5.alloc (.cells #[.int .i64 x.term,.slice (some ⟨w4.heap.size,0,none⟩) tb.size c5] 94)).alloc (.cells cur7 94)).drewN 1);generalize ((W5.alloc (.cells #[.int .i64 x.term,.slice (some ⟨w4.heap.size,0,none⟩) tb.size c5] 94)).alloc (.cells cur7 94)).drewN 1=w7 at *;go_wp2_with fail
 go_ret
 exact ⟨rfl,NdP.trans (Mv.below HB4.out) (oZ HX4.out HB7.out HC7.out HE7.out hs1 hs2)⟩
end
end Go.Proofs.YtnhefallmioefaaGreat
