/-
  What the proof of the law leans on: contracts of the program's functions, one behind another. No condition.
-/
import Derived.Test.YtnicaicjgaoolaaU0
import Derived.Test.YtnicaicjgaoolaaU8
import Derived.Test.YtnicaicjgaoolaaU3
set_option linter.unusedVariables false
set_option linter.unusedSimpArgs false
namespace Go.Proofs.Ytnicaicjgaoolaa
open Go.RowKit Go.ChangeMaps Go.WideMaps Go.Maps
set_option maxRecDepth 20000
theorem oX (l:List Nat) (i x:Nat):(iL l).setIfInBounds i (.int .i64 (x:Int))=iL (l.set i x):=by
 unfold iL;rw [em,List.map_set]
theorem jo (l:List Bool) (i:Nat) (x:Bool):(cQ l).setIfInBounds i (.bool x)=cQ (l.set i x):=by
 unfold cQ;rw [em,List.map_set]
theorem gA (l:List Nat) (i:Nat) (h:i<l.length):(iL l)[i]? = some (.int .i64 (l.getD i 0:Int)):=by
 unfold iL;simp [h]
theorem gp (l:List Bool) (i:Nat) (h:i<l.length):(cQ l)[i]? = some (.bool (l.getD i false)):=by
 unfold cQ;simp [h]
section
variable {w w':World} {A A' X X' D L R:List Nat} {r d l:Nat} {s s':Rp} {k k':Dk} {vl:Value} {gv gn gm gh:Nat}
theorem NdC.set_mat (h:NdC w A D L R r d l s k vl gv gn gm gh) (i x:Nat):NdC (w.setCell ⟨gm,i,none⟩ (.int .i64 (x:Int))) A D L R r d l { s with mat:=s.mat.set i x } k vl gv gn gm gh:=by
 have ho:Only [gm] w (w.setCell ⟨gm,i,none⟩ (.int .i64 (x:Int))):=(Only.refl _ _).setCell (by simp) _;have hS:∀b∈[gm],b∈R:=λb hb=>by rw [aj.1 hb];exact h.mR
 exact ⟨h.wd_only ho hS,ho.keeps h.cell (by simpa using b8 h.cell h.mat (by decide)),h.log.step ho (λb hb=>h.rA b (hS b hb)) (Ext.refl _ _),ho.keeps h.votes (by simpa using b8 h.votes h.mat (by decide)),
  ho.keeps h.next (by simpa using h.nm),by rw [aZ h.mat,oX],ho.keeps h.heard (by simpa using b8 h.heard h.mat (by decide)),h.nm,h.rR,h.vR,h.nR,h.mR,h.hR,h.dRD,h.dRL,h.rA⟩
theorem NdC.set_next (h:NdC w A D L R r d l s k vl gv gn gm gh) (i x:Nat):NdC (w.setCell ⟨gn,i,none⟩ (.int .i64 (x:Int))) A D L R r d l { s with next:=s.next.set i x } k vl gv gn gm gh:=by
 have ho:Only [gn] w (w.setCell ⟨gn,i,none⟩ (.int .i64 (x:Int))):=(Only.refl _ _).setCell (by simp) _;have hS:∀b∈[gn],b∈R:=λb hb=>by rw [aj.1 hb];exact h.nR
 exact ⟨h.wd_only ho hS,ho.keeps h.cell (by simpa using b8 h.cell h.next (by decide)),h.log.step ho (λb hb=>h.rA b (hS b hb)) (Ext.refl _ _),ho.keeps h.votes (by simpa using b8 h.votes h.next (by decide)),
  by rw [aZ h.next,oX],ho.keeps h.mat (by simpa using h.nm.symm),ho.keeps h.heard (by simpa using b8 h.heard h.next (by decide)),h.nm,h.rR,h.vR,h.nR,h.mR,h.hR,h.dRD,h.dRL,h.rA⟩
theorem NdC.set_votes (h:NdC w A D L R r d l s k vl gv gn gm gh) (i:Nat) (x:Bool):NdC (w.setCell ⟨gv,i,none⟩ (.bool x)) A D L R r d l { s with votes:=s.votes.set i x } k vl gv gn gm gh:=by
 have ho:Only [gv] w (w.setCell ⟨gv,i,none⟩ (.bool x)):=(Only.refl _ _).setCell (by simp) _;have hS:∀b∈[gv],b∈R:=λb hb=>by rw [aj.1 hb];exact h.vR
 exact ⟨h.wd_only ho hS,ho.keeps h.cell (by simpa using b8 h.cell h.votes (by decide)),h.log.step ho (λb hb=>h.rA b (hS b hb)) (Ext.refl _ _),by rw [aZ h.votes,jo],
  ho.keeps h.next (by simpa using b8 h.next h.votes (by decide)),ho.keeps h.mat (by simpa using b8 h.mat h.votes (by decide)),ho.keeps h.heard (by simpa using b8 h.heard h.votes (by decide)),h.nm,h.rR,h.vR,h.nR,h.mR,h.hR,h.dRD,h.dRL,h.rA⟩
theorem NdC.ndpR (h':NdC w' A D L R r d l s' k' vl gv gn gm gh) (hX:∀b,b∈X↔b∈D\/b∈L\/b∈R) {S:List Nat} (ho:Only S w w') (hS:∀b∈S,b∈R):NdP w w' A X r d l s' k' :=
 (h'.nd hX).ndp (Mv.only ho (λb hb=>(hX b).2 (.inr (.inr (hS b hb)))))
def ir (s:Rp) (j:Nat):Nat:=((s.votes.take j).filter id).length
theorem qy (s:Rp) (j:Nat) (h:j<s.votes.length):ir s (j+1)=ir s j+(if s.votes.getD j false then 1 else 0):=by
 have e:s.votes.getD j false=s.votes[j]:=by simp [List.getD,h]
 unfold ir;rw [e,<-bF h,cC,ay];cases s.votes[j]<;>simp
set_option maxHeartbeats 1000000 in
theorem nW (h:Nd w A X r d l s k) (hn:s.n<=5) (hv:s.votes.length=s.n):Calls Try.prog 52 #[.pointer (some ⟨r,0,none⟩)] w λe w'=>e = .returned (.bool (fG s))/\w=w':=by
 have H:=ab h;obtain ⟨D,L,R,vl,gv,gn,gm,gh,h,hX⟩:=h;have hc12:w.cell? ⟨r,12,none⟩=some (.slice (some ⟨gv,0,none⟩) s.n s.n):=by rw [af h.cell];rfl
 have HV:Hid (∀i,i<s.n->w.cell? ⟨gv,i,none⟩=some (.bool (s.votes.getD i false))):=ab (λi hi=>by rw [af h.votes];exact gp _ _ (by omega));have HST:=ab (λj (hj:j<s.n)=>qy s j (by omega));have HCL:Hid (∀j,ir s j<=s.n):=ab (λj=>by
  unfold ir;refine aF (cR _ _) ?_;rw [aE];omega)
 have H0:Hid (ir s 0=0):=ab (by simp [ir]);have HR:Hid (js s (ir s s.n)=fG s):=ab (by unfold fG ir;rw [bA (by omega)]);have HM:=ab (λm (hm:m<=s.n)=>ri H.out hn m (by omega));clear h hX hv;generalize fG s=ch at *;generalize ir s=cnt at *;generalize js s=mo at *;generalize hsn:s.n=n at *;go_enter Try.func52,Try.ntmps52
 go_wp2_with fail
 go_loopw [11,3] (λi m wr=>∃j:Nat,j<=n/\i = .int .i64 (j:Int)/\m = .int .i64 (cnt j:Int)/\wr=w) (λi _ _=>n - (intOf i).toNat)
 case atStart=>exact ⟨0,aA _,rfl,by rw [H0.out];rfl,rfl⟩
 case round =>
  obtain ⟨j,hj,rfl,rfl,rfl⟩:=hrel;by_cases hlt:j<n
  ·have hv:=HV.out j hlt;have hst:=HST.out j hlt;have hcl:=HCL.out j;have q6:IntKind.i64.wrap ((j:Int)+1)=(j:Int)+1:=IntWalk.i64_in _ (by omega);have q8:IntKind.i64.wrap ((cnt j:Int)+1)=(cnt j:Int)+1:=IntWalk.i64_in _ (by omega);have q5:(j:Int)<(n:Int):=by omega
   have HJ:=ab hst;clear hst hcl;generalize cnt j=cj at *;cases hb:s.votes.getD j false with
   | false =>
    rw [hb] at hv HJ;go_wp2_with fail
    go_roundw
    case rel=>exact ⟨j+1,by omega,rfl,by rw [HJ.out];rfl,trivial⟩
    case measure=>simp [intOf];omega
   | true =>
    rw [hb] at hv HJ;go_wp2_with fail
    go_roundw
    case rel=>exact ⟨j+1,by omega,rfl,by rw [HJ.out];rfl,trivial⟩
    case measure=>simp [intOf];omega
  ·obtain rfl:j=n:=by omega
   go_wp2_with fail
   refine (HM.out _ (HCL.out _)).mono ?_;rintro e w1 ⟨rfl,rfl⟩;go_wp2_with fail
   go_ret
   exact ⟨by rw [<-HR.out];rfl,rfl⟩
end
def wD (s:Rp) (k j:Nat):Nat:=ey (s.mat.take j) k
theorem z5 (s:Rp) (k j:Nat) (h:j<s.mat.length):wD s k (j+1)=wD s k j+(if k<=s.mat.getD j 0 then 1 else 0):=by
 have e:s.mat.getD j 0=s.mat[j]:=by simp [List.getD,h]
 unfold wD ey;rw [e,<-bF h,cC,ay];by_cases hk:k<=s.mat[j]<;>simp [hk]
theorem np (s:Rp) (k:Nat) (h:¬(s.agreed<k/\bT s.log k=s.term)):settleF s k=none:=by
 cases k with
 | zero=>rfl
 | succ k=>unfold settleF;rw [aw h]
theorem qH (s:Rp) (k:Nat) (h:s.agreed<k/\bT s.log k=s.term):settleF s k=if js s (ey s.mat k) then some k else settleF s (k - 1):=by
 cases k with
 | zero=>have:=h.1;omega
 | succ k=>rw [settleF,ax h];rfl
section
variable {w w':World} {A A' X X':List Nat} {r d l:Nat} {s s':Rp} {k k':Dk}
set_option maxHeartbeats 4000000 in
theorem kx (h:Nd w A X r d l s k) (hw:Wf s k):Calls Try.prog 29 #[.pointer (some ⟨r,0,none⟩)] w λe w'=>e = .returned (.bool (bS s).1)/\NdP w w' A X r d l (bS s).2 k:=by
 obtain ⟨al,cl,hc8,hl1,hl2⟩:=h.loglen;have HX:=ab h.rX;obtain ⟨D,L,R,vl,gv,gn,gm,gh,h,hX⟩:=h;have hc0:w.cell? ⟨r,0,none⟩=some (.int .i64 (s.own:Int)):=by rw [af h.cell];rfl
 have hc14:w.cell? ⟨r,14,none⟩=some (.slice (some ⟨gm,0,none⟩) s.n s.n):=by rw [af h.cell];rfl
 have hcm:w.cell? ⟨gm,s.own,none⟩=some (.int .i64 (s.mat.getD s.own 0:Int)):=by rw [af h.mat];exact gA _ _ (by rw [hw.ml];exact hw.own)
 have hzm:=aO h.mat s.own;have HM1:Hid (∀w1,w1=(w.setCell ⟨gm,s.own,none⟩ (.int .i64 (s.log.length:Int))).drew->NdP w w1 A X r d l { s with mat:=s.mat.set s.own s.log.length } k):=ab (λw1 e=>by
  subst e;exact ((h.set_mat s.own s.log.length).below (ap _ 1)).ndpR hX (S:=[gm]) (((Only.refl _ _).setCell (by simp) _).drewN 1) (λb hb=>by rw [aj.1 hb];exact h.mR))
 have HK1:Hid (∀w1,w1=(w.setCell ⟨gm,s.own,none⟩ (.int .i64 (s.log.length:Int))).drew->w1.cell? ⟨r,14,none⟩=some (.slice (some ⟨gm,0,none⟩) s.n s.n)/\w1.cell? ⟨r,0,none⟩=some (.int .i64 (s.own:Int))/\w1.cell? ⟨r,8,none⟩=some (.slice al s.log.length cl)):=ab (λw1 e=>by
  have ho:Only [gm] w w1:=by rw [e];exact ((Only.refl _ _).setCell (by simp) _).drewN 1
  have hne:r∉[gm]:=by simpa using b8 h.cell h.mat (by decide)
  exact ⟨ho.cell hc14 hne,ho.cell hc0 hne,ho.cell hc8 hne⟩)
 have HWF:Hid (Wf { s with mat:=s.mat.set s.own s.log.length } k/\True):=ab ⟨⟨hw.n1,hw.n5,hw.own,hw.vl,hw.nl,by simpa using hw.ml,hw.hl,hw.room,hw.tot,hw.fil,hw.logl,hw.agr,hw.man,λhl i=>⟨(hw.lead hl i).1,by
   show (s.mat.set s.own s.log.length).getD i 0<=s.log.length;have:=(hw.lead hl i).2;rw [aK,kS] at *;split
   ·split<;>simp
   ·exact this⟩,hw.term0,hw.termM,hw.cho,hw.choM,hw.recl,hw.tick,hw.hrd⟩,trivial⟩
 have HE:Hid (bS s=match settleF { s with mat:=s.mat.set s.own s.log.length } s.log.length with
  | some k=>(true,bZ { s with mat:=s.mat.set s.own s.log.length } k)
  | none=>(false,{ s with mat:=s.mat.set s.own s.log.length })):=ab rfl
 have hown:(s.own:Int)<(s.n:Int):=by have:=hw.own;omega
 have hn5:=hw.n5;clear h hX hw;generalize hs1:({ s with mat:=s.mat.set s.own s.log.length }:Rp)=s1 at *;generalize s.mat.getD s.own 0=om at *;have HN1:Hid (s1.n=s.n/\s1.log=s.log):=ab (by rw [<-hs1];exact ⟨rfl,rfl⟩);clear hs1;generalize hsl:s.log.length=sl at *;generalize hsn:s.n=n at *;generalize s.own=ow at *;go_enter Try.func29,Try.ntmps29
 go_upto_region 1 with (fail)
 refine wp_region_held_drew (S:=λw'=>w'.cell? ⟨r,14,none⟩=some (.slice (some ⟨gm,0,none⟩) n n)/\w'.cell? ⟨r,0,none⟩=some (.int .i64 (ow:Int))/\w'.cell? ⟨r,8,none⟩=some (.slice al sl cl)) (by kernel_rfl) ⟨hc14,hc0,hc8⟩ (λam=>?_);refine az 0 ?_;refine az 1 ?_;refine az 2 ?_;refine az 3 ?_;refine az 4 ?_;refine az 5 ?_;refine az 6 ?_;refine az 7 ?_;refine az 8 ?_;refine az 9 ?_;refine az 10 ?_;refine az 11 ?_;refine az 12 ?_;refine az 13 ?_;refine cf 14 λK hK=>?_;go_simp
 refine hK.out _ _ (HK1.out _ rfl) (λam=>?_);clear hK K;refine bu ?_;refine fc ?_;clear am;go_wp2_with fail
 have hn1:=HM1.out _ rfl;generalize (w.setCell ⟨gm,ow,none⟩ (.int .i64 (sl:Int))).drew=w1 at *;obtain ⟨A1,X1,h1,m1⟩:=hn1;have H1:=ab h1;have M1:=ab m1;obtain ⟨a2,c2,hlr⟩:=h1.logR;have HLR:=ab hlr;have hk8:=hlr.c8;have hle2:=hlr.le;have hcm2:=hlr.cm;have HW1:=ab HWF.out.1;obtain ⟨D1,L1,R1,vl1,gv1,gn1,gm1,gh1,h2,hX2⟩:=h1;have hk9:w1.cell? ⟨r,9,none⟩=some (.int .i64 (s1.agreed:Int)):=by rw [af h2.cell];rfl
 have hk6:w1.cell? ⟨r,6,none⟩=some (.int .i64 s1.term):=by rw [af h2.cell];rfl
 have hk14:w1.cell? ⟨r,14,none⟩=some (.slice (some ⟨gm1,0,none⟩) s1.n s1.n):=by rw [af h2.cell];rfl
 have hs1n:=HN1.out.1;have hs1l:s1.log.length=sl:=by rw [HN1.out.2];exact hsl
 have HV:Hid (∀i,i<n->w1.cell? ⟨gm1,i,none⟩=some (.int .i64 (s1.mat.getD i 0:Int))):=ab (λi hi=>by rw [af h2.mat];exact gA _ _ (by rw [HW1.out.ml,hs1n];exact hi));have hslb:sl<=1000000:=by have:=HW1.out.logb;omega
 have HST:=ab (λk j (hj:j<n)=>z5 s1 k j (by rw [HW1.out.ml,hs1n];exact hj));have HCL:Hid (∀k j,wD s1 k j<=n):=ab (λk j=>by
  unfold wD ey;refine aF (cR _ _) ?_;rw [aE,HW1.out.ml,hs1n];omega)
 have HC0:Hid (∀k,wD s1 k 0=0):=ab (λk=>by simp [wD,ey]);have HCN:Hid (∀k,wD s1 k n=ey s1.mat k):=ab (λk=>by unfold wD;rw [bA (by rw [HW1.out.ml,hs1n];exact ah _)]);have HMO:=ab (λq m (hm:m<=n)=>ri (H1.out.below (ap w1 q)) (by rw [hs1n];exact hn5) m (by omega));have HAG:=ab (λq m (hm:m<=sl)=>pr (H1.out.below (ap w1 q)) m (by omega) (by omega) (by have h3:=HW1.out.man;have h4:s1.many<=s1.agreed:=(by rw [h3];unfold recs;rw [aQ];exact aF (cR _ _) (by rw [aE];omega));exact h4));rw [hs1l] at hk8 hle2;rw [hs1n] at hk14;clear h2 hX2 hlr m1 hc0 hc8 hc14 hcm hzm hown;go_wp2_with fail
 go_loopw [3] (λkk wr=>∃j:Nat,j<=sl/\kk = .int .i64 (j:Int)/\settleF s1 sl=settleF s1 j/\∃q,wr=w1.drewN q) (λkk _=>(intOf kk).toNat)
 case atStart=>exact ⟨sl,ah _,rfl,rfl,0,rfl⟩
 case round =>
  obtain ⟨j,hj,rfl,hsf,q,rfl⟩:=hrel;have HSF:=ab hsf;clear hsf;by_cases hag:s1.agreed<j
  ·obtain ⟨i,rfl⟩:∃i,j=i+1:=⟨j - 1,by omega⟩
   obtain ⟨p,rfl⟩:∃p,a2=some p:=by
    cases a2 with
    | none=>have:=HLR.out.nil rfl;omega
    | some p=>exact ⟨p,rfl⟩
   obtain ⟨g,rfl⟩:=HLR.out.form p rfl;obtain ⟨u,hu1,_,_⟩:=HLR.out.at_ i (by omega) g rfl;have HLT:Hid (bT s1.log (i+1)=(s1.log.map Ent.term).getD i 0):=ab (by unfold bT;rw [aw (by omega)];rfl);have HY:=ab (λ(ht:(s1.log.map Ent.term).getD i 0=s1.term)=>qH s1 (i+1) ⟨hag,by rw [HLT.out];exact ht⟩);have HNO:=ab (λ(ht:¬(s1.log.map Ent.term).getD i 0=s1.term)=>np s1 (i+1) (λh=>ht (by rw [<-HLT.out];exact h.2)));clear HLT;generalize (s1.log.map Ent.term).getD i 0=t at *;have q1:IntKind.i64.wrap ((i:Int)+1 - 1)=(i:Int):=by rw [show (i:Int)+1 - 1=(i:Int) by omega];exact IntWalk.i64_in _ (by omega)
   have q2:(i:Int)<(sl:Int):=by omega
   have q3:0<=(i:Int):=by omega
   have g0:decide ((s1.agreed:Int)<(i:Int)+1)=true:=bV (by omega);by_cases ht:t=s1.term
   ·have g1:(t==s1.term)=true:=by simpa using ht
    have HY:=ab (HY.out ht);clear ht HNO;go_wp2_with fail
    go_quiet (fail)
    go_wp2_with fail
    go_loopw [55,4] (λx m wr=>∃b:Nat,b<=n/\x = .int .i64 (b:Int)/\m = .int .i64 (wD s1 (i+1) b:Int)/\wr=w1.drewN (q+nq)) (λx _ _=>n - (intOf x).toNat)
    case atStart=>exact ⟨0,aA _,rfl,by rw [HC0.out];rfl,rfl⟩
    case round =>
     obtain ⟨b,hb,rfl,rfl,rfl⟩:=hrel;by_cases hlt:b<n
     ·have hv:=HV.out b hlt;have HJ:=ab (HST.out (i+1) b hlt);have hcl:=HCL.out (i+1) b;have r1:IntKind.i64.wrap ((b:Int)+1)=(b:Int)+1:=IntWalk.i64_in _ (by omega);have r2:IntKind.i64.wrap ((wD s1 (i+1) b:Int)+1)=(wD s1 (i+1) b:Int)+1:=IntWalk.i64_in _ (by omega);have r3:(b:Int)<(n:Int):=by omega
      generalize wD s1 (i+1) b=cj at *;generalize s1.mat.getD b 0=mb at *;by_cases hge:i+1<=mb
      ·have r4:(i:Int)+1<=(mb:Int):=by omega
       rw [ax hge] at HJ;clear hge;go_wp2_with fail
       go_roundw
       case rel=>exact ⟨b+1,by omega,rfl,by rw [HJ.out];rfl,trivial⟩
       case measure=>simp [intOf];omega
      ·have r4:¬((i:Int)+1<=(mb:Int)):=by omega
       rw [aw hge] at HJ;clear hge;go_wp2_with fail
       go_roundw
       case rel=>exact ⟨b+1,by omega,rfl,by rw [HJ.out];rfl,trivial⟩
       case measure=>simp [intOf];omega
     ·obtain rfl:b=n:=by omega
      have hcl:=HCL.out (i+1) b;have hcn:=HCN.out (i+1);rw [hcn] at hcl ⊢;generalize ey s1.mat (i+1)=cg at *;go_wp2_with fail
      refine (HMO.out (q+nq) cg hcl).mono ?_;rintro e w5 ⟨rfl,rfl⟩;cases hmo:js s1 cg with
      | true =>
       rw [hmo,ax rfl] at HY;go_wp2_with fail
       refine (HAG.out (q+nq) (i+1) (by omega)).mono ?_;rintro e w6 ⟨hn6,ho6,rfl⟩;have H6:=ab hn6;have HO6:=ab ho6;clear hn6 ho6;go_wp2_with fail
       go_ret
       rw [HE.out,HSF.out,HY.out];exact ⟨rfl,NdP.trans (M1.out.trans (Mv.below (ap _ _))) (H6.out.here HO6.out H1.out.rX)⟩
      | false =>
       rw [hmo,aw (by simp),Nat.add_sub_cancel] at HY;have HZ:=ab (HSF.out.trans HY.out);go_wp2_with fail
       go_roundw
       case rel=>exact ⟨i,by omega,rfl,HZ.out,_,rfl⟩
       case measure=>simp [intOf]
   ·have g1:(t==s1.term)=false:=by simpa using ht
    have HNO:=ab (HNO.out ht);clear ht HY;go_wp2_with fail
    go_quiet (fail)
    go_wp2_with fail
    go_ret
    rw [HE.out,HSF.out,HNO.out];exact ⟨rfl,((H1.out.below (ap _ q)).below (ap _ nq)).ndp (M1.out.trans ((Mv.below (ap _ q)).trans (Mv.below (ap _ nq))))⟩
  ·have HNO:=ab (np s1 j (λh=>hag h.1));have g0:decide ((s1.agreed:Int)<(j:Int))=false:=bq (by omega);go_wp2_with fail
   go_quiet (fail)
   go_wp2_with fail
   go_ret
   rw [HE.out,HSF.out,HNO.out];exact ⟨rfl,((H1.out.below (ap _ q)).below (ap _ nq)).ndp (M1.out.trans ((Mv.below (ap _ q)).trans (Mv.below (ap _ nq))))⟩
end
theorem n8 (k:Dk) (b:List UInt8):eZ (appD k b)=eZ k++b:=by
 unfold eZ appD;cases k.file with
 | none=>simp [Ay]
 | some p=>rfl
theorem po (k:Dk) (b:List UInt8):(appD k b).room=k.room:=by
 unfold appD;cases k.file<;>rfl
structure Wg (s:Rp):Prop where
 n1:1<=s.n
 n5:s.n<=5
 own:s.own<s.n
 vl:s.votes.length=s.n
 nl:s.next.length=s.n
 ml:s.mat.length=s.n
 hl:s.heard.length=s.n
 agr:s.agreed<=s.log.length
 man:s.many=(recs (s.log.take s.agreed)).length
 lead:s.leads=true->∀i,s.next.getD i 0<=s.log.length/\s.mat.getD i 0<=s.log.length
 term0:0<=s.term
 termM:s.term<=1099511627776
 cho : -1<=s.choice
 choM:s.choice<s.n
 recl:∀x∈s.log,x.bs.length<=8000
 tick:s.ticks<=s.clock
 hrd:∀x∈s.heard,0<=x.1/\x.1<=(s.clock:Int)
structure Wk (r:List (List UInt8)) (len:Nat) (k:Dk):Prop where
 room:k.room<=1048576
 tot:(k.total:Int)<=k.room
 fil:eZ k=F.aL r
 logl:len<=r.length
theorem Wf.g {s:Rp} {k:Dk} (h:Wf s k):Wg s:=⟨h.n1,h.n5,h.own,h.vl,h.nl,h.ml,h.hl,h.agr,h.man,h.lead,h.term0,h.termM,h.cho,h.choM,h.recl,h.tick,h.hrd⟩
theorem Wf.k {s:Rp} {k:Dk} (h:Wf s k):Wk s.wl.recs s.log.length k:=⟨h.room,h.tot,h.fil,h.logl⟩
theorem Wg.wf {s:Rp} {k:Dk} (h:Wg s) (hk:Wk s.wl.recs s.log.length k):Wf s k:=⟨h.n1,h.n5,h.own,h.vl,h.nl,h.ml,h.hl,hk.room,hk.tot,hk.fil,hk.logl,h.agr,h.man,h.lead,h.term0,h.termM,h.cho,h.choM,h.recl,h.tick,h.hrd⟩
theorem Wk.mono {r:List (List UInt8)} {a b:Nat} {k:Dk} (h:Wk r a k) (hb:b<=a):Wk r b k:=⟨h.room,h.tot,h.fil,aF hb h.logl⟩
theorem Ce {s:Wl} {k:Dk} {len:Nat} (h:Wk s.recs len k) (b:List UInt8):Wk (ft s k b).2.1.recs len (ft s k b).2.2/\((ft s k b).1=0->(ft s k b).2.1.recs.length=s.recs.length+1):=by
 unfold ft;split
 ·exact ⟨h,λe=>by simp at e⟩
 ·split
  ·exact ⟨h,λe=>by simp at e⟩
  ·split
   ·exact ⟨h,λe=>by simp at e⟩
   ·rename_i h3;refine ⟨⟨by rw [po];exact h.room,?_,?_,?_⟩,λ_=>by simp⟩
    ·rw [eN,po,n8,ay,F.di];rw [eN] at h3;omega
    ·rw [n8,h.fil];simp [F.aL]
    ·have:=h.logl;simp;omega
theorem AM {s:Wl} {k:Dk} {len:Nat} (h:Wk s.recs len k):Wk (fO s k).2.1.recs len (fO s k).2.2:=by
 unfold fO;split
 ·exact h
 ·split
  ·exact h
  ·rename_i bl kk hf;refine ⟨h.room,?_,?_,h.logl⟩
   ·have:=h.tot;unfold Dk.total at this ⊢;rw [hf] at this;exact this
   ·have:=h.fil;unfold eZ at this ⊢;rw [hf] at this;exact this
section
variable {s:Rp} {k:Dk}
theorem Wg.done (h:Wg s) (w:Wl) (b:Bool):Wg { s with wl:=w,done:=b }:=⟨h.n1,h.n5,h.own,h.vl,h.nl,h.ml,h.hl,h.agr,h.man,h.lead,h.term0,h.termM,h.cho,h.choM,h.recl,h.tick,h.hrd⟩
theorem gx (h:Wf s k):Wf (aY s k) k:=(h.g.done s.wl (ew s k)).wf h.k
theorem qw (h:Wf s k) (b:List UInt8):Wf (bK s k b).1 (bK s k b).2/\((bK s k b).1.done=false->s.log.length+1<=(bK s k b).1.wl.recs.length):=by
 unfold bK;split
 ·rename_i hd;exact ⟨h,λe=>by rw [hd] at e;cases e⟩
 ·obtain ⟨h1,h2⟩:=Ce h.k b;refine ⟨(h.g.done _ _).wf h1,λe=>?_⟩;have e2:(ft s.wl k b).1=0:=by simpa using e
  show s.log.length+1<=(ft s.wl k b).2.1.recs.length;rw [h2 e2];have:=h.logl;omega
theorem mJ (h:Wf s k):Wf (cx s k).1 (cx s k).2:=by
 unfold cx;split
 ·exact h
 ·exact (h.g.done _ _).wf (AM h.k)
theorem ez (b:List UInt8):(bK s k b).1={ s with wl:=(bK s k b).1.wl,done:=(bK s k b).1.done }:=by
 unfold bK;split<;>rfl
theorem eX:(cx s k).1={ s with wl:=(cx s k).1.wl,done:=(cx s k).1.done }:=by
 unfold cx;split<;>rfl
theorem Wg.enter (h:Wg s) (b:Bool) (term who:Int) (h0:0<=term) (h1:term<=1099511627776) (h2 : -1<=who) (h3:who<s.n):Wg { s with leads:=s.leads&&b,term:=term,choice:=who } :=
 ⟨h.n1,h.n5,h.own,h.vl,h.nl,h.ml,h.hl,h.agr,h.man,λhl=>h.lead (by revert hl;cases s.leads<;>simp),h0,h1,h2,h3,h.recl,h.tick,h.hrd⟩
theorem iz (h:Wf s k) (term who:Int) (h0:0<=term) (h1:term<=1099511627776) (h2 : -1<=who) (h3:who<s.n):Wf (bx s k term who).2.1 (bx s k term who).2.2:=by
 have hw:=(qw h (dF term who)).1;have hn:(bK s k (dF term who)).1.n=s.n:=by rw [ez]
 unfold bx;generalize bK s k (dF term who)=p at *;simp only;split
 ·exact hw
 ·have hs:=mJ hw;have hn2:(cx p.1 p.2).1.n=p.1.n:=by rw [eX]
  generalize cx p.1 p.2=q at *;split
  ·exact hs
  ·exact (hs.g.enter _ term who h0 h1 h2 (by rw [hn2,hn];exact h3)).wf hs.k
theorem Wg.place (h:Wg s) (p:Nat) (x:Ent) (hp:p<=s.log.length) (ha:s.agreed<=p) (hl:s.leads=true->p=s.log.length) (hx:x.bs.length<=8000):Wg { s with log:=s.log.take p++[x]}:=by
 have hlen:(s.log.take p++[x]).length=p+1:=by simp [bB hp]
 refine ⟨h.n1,h.n5,h.own,h.vl,h.nl,h.ml,h.hl,?_,?_,λhl2 i=>?_,h.term0,h.termM,h.cho,h.choM,λy hy=>?_,h.tick,h.hrd⟩
 ·show s.agreed<=(s.log.take p++[x]).length;rw [hlen];omega
 ·show s.many=(recs ((s.log.take p++[x]).take s.agreed)).length;rw [cI (by simp [bB hp];omega),cL,bB ha];exact h.man
 ·have h1:=h.lead hl2 i;have h2:=hl hl2;show s.next.getD i 0<=(s.log.take p++[x]).length/\s.mat.getD i 0<=(s.log.take p++[x]).length;rw [hlen];omega
 ·rcases av.1 hy with hy | hy
  ·exact h.recl y (eS hy)
  ·rw [aj.1 hy];exact hx
theorem kU (h:Wf s k) (p:Nat) (x:Ent) (hp:p<=s.log.length) (ha:s.agreed<=p) (hl:s.leads=true->p=s.log.length) (hx:x.bs.length<=8000):Wf (cG s k p x).2.1 (cG s k p x).2.2:=by
 obtain ⟨hw,hw2⟩:=qw h (dp p x);have hs:=ez (s:=s) (k:=k) (dp p x);unfold cG;generalize bK s k (dp p x)=q at *;simp only;split
 ·exact hw
 ·rename_i hd;have hl1:q.1.log=s.log:=by rw [hs]
  have ha1:q.1.agreed=s.agreed:=by rw [hs]
  have hle:q.1.leads=s.leads:=by rw [hs]
  refine (hw.g.place p x (by rw [hl1];exact hp) (by rw [ha1];exact ha) (by rw [hle,hl1];exact hl) hx).wf ⟨hw.room,hw.tot,hw.fil,?_⟩;have:=hw2 (by simpa using hd);show (q.1.log.take p++[x]).length<=_;rw [hl1];simp [bB hp];omega
theorem mW (h:Wf s k) (x:Ent) (hx:x.bs.length<=8000):Wf (fy s k x).2.1 (fy s k x).2.2:=by
 have hp:=kU h s.log.length x (ah _) h.agr (λ_=>rfl) hx;unfold fy;generalize cG s k s.log.length x=p at *;simp only;split
 ·exact mJ hp
 ·exact hp
theorem qx (h:Wf s k) (n:Nat) (hn:n<=s.log.length):Wf (bZ s n) k:=by
 unfold bZ;split
 ·rename_i hlt;have hm:s.many+(recs ((s.log.take n).drop s.agreed)).length=(recs (s.log.take n)).length:=by
   rw [h.man];have e:s.log.take n=s.log.take s.agreed++(s.log.take n).drop s.agreed:=by
    conv=>lhs;rw [<-eD s.agreed (s.log.take n)]
    rw [cL,bB (by omega)]
   conv=>rhs;rw [e]
   unfold recs;rw [cC,bW,ay]
  exact ⟨h.n1,h.n5,h.own,h.vl,h.nl,h.ml,h.hl,h.room,h.tot,h.fil,h.logl,hn,hm,h.lead,h.term0,h.termM,h.cho,h.choM,h.recl,h.tick,h.hrd⟩
 ·exact h
theorem mC {l:List Nat} {i x b:Nat} (h:∀j,l.getD j 0<=b) (hx:x<=b) (j:Nat):(l.set i x).getD j 0<=b:=by
 have:=h j;rw [aK,kS] at *;split
 ·split
  ·simpa using hx
  ·simp
 ·exact this
theorem sV (h:Wf s k) (i x:Nat) (hx:s.leads=true->x<=s.log.length):Wf { s with mat:=s.mat.set i x } k :=
 ⟨h.n1,h.n5,h.own,h.vl,h.nl,by simpa using h.ml,h.hl,h.room,h.tot,h.fil,h.logl,h.agr,h.man,λhl j=>⟨(h.lead hl j).1,mC (λj=>(h.lead hl j).2) (hx hl) j⟩,h.term0,h.termM,h.cho,h.choM,h.recl,h.tick,h.hrd⟩
theorem mK (h:Wf s k) (i x:Nat) (hx:s.leads=true->x<=s.log.length):Wf { s with next:=s.next.set i x } k :=
 ⟨h.n1,h.n5,h.own,h.vl,by simpa using h.nl,h.ml,h.hl,h.room,h.tot,h.fil,h.logl,h.agr,h.man,λhl j=>⟨mC (λj=>(h.lead hl j).1) (hx hl) j,(h.lead hl j).2⟩,h.term0,h.termM,h.cho,h.choM,h.recl,h.tick,h.hrd⟩
theorem th (s:Rp) (n m:Nat) (h:settleF s n=some m):m<=n:=by
 induction n with
 | zero=>cases h
 | succ n ih =>
  unfold settleF at h;split at h
  ·split at h
   ·cases h;exact ah _
   ·exact Nat.le_succ_of_le (ih h)
  ·cases h
theorem fJ (h:Wf s k):Wf (bS s).2 k:=by
 have h1:=sV h s.own s.log.length (λ_=>ah _);unfold bS;simp only;split
 ·rename_i m hm;exact qx h1 m (th _ _ _ hm)
 ·exact h1
def Same (s s':Rp):Prop:=∃w d l,s'={ s with wl:=w,done:=d,log:=l }
theorem Same.refl (s:Rp):Same s s:=⟨_,_,_,rfl⟩
theorem Same.trans {a b c:Rp} (h:Same a b) (g:Same b c):Same a c:=by
 obtain ⟨w,d,l,rfl⟩:=h;obtain ⟨w2,d2,l2,rfl⟩:=g;exact ⟨_,_,_,rfl⟩
theorem jc (b:List UInt8):Same s (bK s k b).1:=⟨_,_,_,ez b⟩
theorem iH:Same s (cx s k).1:=⟨_,_,_,eX⟩
theorem jd (p:Nat) (x:Ent):Same s (cG s k p x).2.1:=by
 have h:=jc (s:=s) (k:=k) (dp p x);unfold cG;generalize bK s k (dp p x)=q at *;simp only;split
 ·exact h
 ·exact h.trans ⟨_,_,_,rfl⟩
theorem kY (x:Ent):Same s (fy s k x).2.1:=by
 have h:=jd (s:=s) (k:=k) s.log.length x;unfold fy;generalize cG s k s.log.length x=q at *;simp only;split
 ·exact h.trans iH
 ·exact h
theorem sA (n:Nat):(bZ s n).leads=s.leads:=by unfold bZ;split<;>rfl
theorem ja:(bS s).2.leads=s.leads:=by
 unfold bS;simp only;split
 ·rw [sA]
 ·rfl
theorem BS (n:Nat):(bZ s n).n=s.n:=by unfold bZ;split<;>rfl
theorem yE:(bS s).2.n=s.n:=by
 unfold bS;simp only;split
 ·rw [BS]
 ·rfl
theorem eL (h:Wf s k) (lives:Int) (ticks clock:Nat) (votes:List Bool) (ht:ticks<=clock) (hv:votes.length=s.n) (hc:s.clock<=clock):Wf { s with lives:=lives,ticks:=ticks,clock:=clock,votes:=votes } k :=
 ⟨h.n1,h.n5,h.own,hv,h.nl,h.ml,h.hl,h.room,h.tot,h.fil,h.logl,h.agr,h.man,h.lead,h.term0,h.termM,h.cho,h.choM,h.recl,ht,λx hx=>⟨(h.hrd x hx).1,by have:=(h.hrd x hx).2;show x.1<=(clock:Int);omega⟩⟩
theorem mX (h:Wf s k):Wf { s with leads:=true,next:=List.replicate s.n s.log.length,mat:=List.replicate s.n 0 } k :=
 ⟨h.n1,h.n5,h.own,h.vl,by simp,by simp,h.hl,h.room,h.tot,h.fil,h.logl,h.agr,h.man,λ_ j=>⟨by
  show (List.replicate s.n s.log.length).getD j 0<=s.log.length;rw [aK,List.getElem?_replicate];split<;>simp,by
  show (List.replicate s.n 0).getD j 0<=s.log.length;rw [aK,List.getElem?_replicate];split<;>simp⟩,h.term0,h.termM,h.cho,h.choM,h.recl,h.tick,h.hrd⟩
theorem AO (h:Wf s k):Wf (fR s k).2.1 (fR s k).2.2:=by
 have h1:=mW (mX h) ⟨s.term,[]⟩ (by simp);unfold fR;simp only;split
 ·exact fJ h1
 ·exact h1
end
end Go.Proofs.Ytnicaicjgaoolaa
