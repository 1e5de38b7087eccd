/-
  What the proof of the law leans on: contracts of the program's functions, one behind another. No condition.
-/
import Derived.Test.YtnhefallmioefaaGreatV0
import Derived.Test.YtnhefallmioefaaGreatV9
import Derived.Test.YtnhefallmioefaaGreatV3
set_option linter.unusedVariables false
set_option linter.unusedSimpArgs false
namespace Go.Proofs.YtnhefallmioefaaGreat
open Go.RowKit Go.ChangeMaps Go.WideMaps Go.Maps
set_option maxRecDepth 20000
theorem pb (l:List Nat) (i x:Nat):(iB l).setIfInBounds i (.int .i64 (x:Int))=iB (l.set i x):=by
 unfold iB;rw [d9,List.map_set]
theorem uc (l:List Bool) (i:Nat) (x:Bool):(dq l).setIfInBounds i (.bool x)=dq (l.set i x):=by
 unfold dq;rw [d9,List.map_set]
theorem gA (l:List Nat) (i:Nat) (h:i<l.length):(iB l)[i]? = some (.int .i64 (l.getD i 0:Int)):=by
 unfold iB;simp [h]
theorem lZ (l:List Bool) (i:Nat) (h:i<l.length):(dq l)[i]? = some (.bool (l.getD i false)):=by
 unfold dq;simp [h]
section
variable {w w':World} {A A' X X' D L R:List Nat} {r d l:Nat} {s s':Rp} {k k':Dk} {vl:Value} {gv gn gm gh:Nat}
theorem NdC.set_mat (h:NdC w A D L R r d l s k vl gv gn gm gh) (i x:Nat):NdC (w.setCell ⟨gm,i,none⟩ (.int .i64 (x:Int))) A D L R r d l { s with mat:=s.mat.set i x } k vl gv gn gm gh:=by
 have ho:Only [gm] w (w.setCell ⟨gm,i,none⟩ (.int .i64 (x:Int))):=(Only.refl _ _).setCell (by simp) _;have hS:∀b∈[gm],b∈R:=λb hb=>by rw [aj.1 hb];exact h.mR
 exact ⟨h.wd_only ho hS,ho.keeps h.cell (by simpa using bZ h.cell h.mat (by decide)),h.log.step ho (λb hb=>h.rA b (hS b hb)) (Ext.refl _ _),ho.keeps h.votes (by simpa using bZ h.votes h.mat (by decide)),
  ho.keeps h.next (by simpa using h.nm),by rw [aR h.mat,pb],ho.keeps h.heard (by simpa using bZ h.heard h.mat (by decide)),h.nm,h.rR,h.vR,h.nR,h.mR,h.hR,h.dRD,h.dRL,h.rA⟩
theorem NdC.set_next (h:NdC w A D L R r d l s k vl gv gn gm gh) (i x:Nat):NdC (w.setCell ⟨gn,i,none⟩ (.int .i64 (x:Int))) A D L R r d l { s with next:=s.next.set i x } k vl gv gn gm gh:=by
 have ho:Only [gn] w (w.setCell ⟨gn,i,none⟩ (.int .i64 (x:Int))):=(Only.refl _ _).setCell (by simp) _;have hS:∀b∈[gn],b∈R:=λb hb=>by rw [aj.1 hb];exact h.nR
 exact ⟨h.wd_only ho hS,ho.keeps h.cell (by simpa using bZ h.cell h.next (by decide)),h.log.step ho (λb hb=>h.rA b (hS b hb)) (Ext.refl _ _),ho.keeps h.votes (by simpa using bZ h.votes h.next (by decide)),
  by rw [aR h.next,pb],ho.keeps h.mat (by simpa using h.nm.symm),ho.keeps h.heard (by simpa using bZ h.heard h.next (by decide)),h.nm,h.rR,h.vR,h.nR,h.mR,h.hR,h.dRD,h.dRL,h.rA⟩
theorem NdC.set_votes (h:NdC w A D L R r d l s k vl gv gn gm gh) (i:Nat) (x:Bool):NdC (w.setCell ⟨gv,i,none⟩ (.bool x)) A D L R r d l { s with votes:=s.votes.set i x } k vl gv gn gm gh:=by
 have ho:Only [gv] w (w.setCell ⟨gv,i,none⟩ (.bool x)):=(Only.refl _ _).setCell (by simp) _;have hS:∀b∈[gv],b∈R:=λb hb=>by rw [aj.1 hb];exact h.vR
 exact ⟨h.wd_only ho hS,ho.keeps h.cell (by simpa using bZ h.cell h.votes (by decide)),h.log.step ho (λb hb=>h.rA b (hS b hb)) (Ext.refl _ _),by rw [aR h.votes,uc],
  ho.keeps h.next (by simpa using bZ h.next h.votes (by decide)),ho.keeps h.mat (by simpa using bZ h.mat h.votes (by decide)),ho.keeps h.heard (by simpa using bZ h.heard h.votes (by decide)),h.nm,h.rR,h.vR,h.nR,h.mR,h.hR,h.dRD,h.dRL,h.rA⟩
theorem NdC.ndpR (h':NdC w' A D L R r d l s' k' vl gv gn gm gh) (hX:∀b,b∈X↔b∈D\/b∈L\/b∈R) {S:List Nat} (ho:Only S w w') (hS:∀b∈S,b∈R):NdP w w' A X r d l s' k' :=
 (h'.nd hX).ndp (Mv.only ho (λb hb=>(hX b).2 (.inr (.inr (hS b hb)))))
def ik (s:Rp) (j:Nat):Nat:=((s.votes.take j).filter id).length
theorem qH (s:Rp) (j:Nat) (h:j<s.votes.length):ik s (j+1)=ik s j+(if s.votes.getD j false then 1 else 0):=by
 have e:s.votes.getD j false=s.votes[j]:=by simp [List.getD,h]
 unfold ik;rw [e,<-bf h,cT,ay];cases s.votes[j]<;>simp
set_option maxHeartbeats 1000000 in
theorem n8 (h:Nd w A X r d l s k) (hn:s.n<=5) (hv:s.votes.length=s.n):Calls Tryz.prog 90 #[.pointer (some ⟨r,0,none⟩)] w λe w'=>e = .returned (.bool (ft s))/\w=w':=by
 have H:=ab h;obtain ⟨D,L,R,vl,gv,gn,gm,gh,h,hX⟩:=h;have hc12:w.cell? ⟨r,12,none⟩=some (.slice (some ⟨gv,0,none⟩) s.n s.n):=by rw [af h.cell];rfl
 have HV:Hid (∀i,i<s.n->w.cell? ⟨gv,i,none⟩=some (.bool (s.votes.getD i false))):=ab (λi hi=>by rw [af h.votes];exact lZ _ _ (by omega));have HST:=ab (λj (hj:j<s.n)=>qH s j (by omega));have HCL:Hid (∀j,ik s j<=s.n):=ab (λj=>by
  unfold ik;refine aD (di _ _) ?_;rw [aI];omega)
 have H0:Hid (ik s 0=0):=ab (by simp [ik]);have HR:Hid (jj s (ik s s.n)=ft s):=ab (by unfold ft ik;rw [aZ (by omega)]);have HM:=ab (λm (hm:m<=s.n)=>ro H.out hn m (by omega));clear h hX hv;generalize ft s=ch at *;generalize ik s=cnt at *;generalize jj s=mo at *;generalize hsn:s.n=n at *;go_enter Tryz.func90,Tryz.ntmps90
 go_wp2_with fail
 go_loopw [11,3] (λi m wr=>∃j:Nat,j<=n/\i = .int .i64 (j:Int)/\m = .int .i64 (cnt j:Int)/\wr=w) (λi _ _=>n - (intOf i).toNat)
 case atStart=>exact ⟨0,aH _,rfl,by rw [H0.out];rfl,rfl⟩
 case round =>
  obtain ⟨j,hj,rfl,rfl,rfl⟩:=hrel;by_cases hlt:j<n
  ·have hv:=HV.out j hlt;have hst:=HST.out j hlt;have hcl:=HCL.out j;have q6:IntKind.i64.wrap ((j:Int)+1)=(j:Int)+1:=IntWalk.i64_in _ (by omega);have q8:IntKind.i64.wrap ((cnt j:Int)+1)=(cnt j:Int)+1:=IntWalk.i64_in _ (by omega);have q5:(j:Int)<(n:Int):=by omega
   have HJ:=ab hst;clear hst hcl;generalize cnt j=cj at *;cases hb:s.votes.getD j false with
   | false =>
    rw [hb] at hv HJ;go_wp2_with fail
    go_roundw
    case rel=>exact ⟨j+1,by omega,rfl,by rw [HJ.out];rfl,trivial⟩
    case measure=>simp [intOf];omega
   | true =>
    rw [hb] at hv HJ;go_wp2_with fail
    go_roundw
    case rel=>exact ⟨j+1,by omega,rfl,by rw [HJ.out];rfl,trivial⟩
    case measure=>simp [intOf];omega
  ·obtain rfl:j=n:=by omega
   go_wp2_with fail
   refine (HM.out _ (HCL.out _)).mono ?_;rintro e w1 ⟨rfl,rfl⟩;go_wp2_with fail
   go_ret
   exact ⟨by rw [<-HR.out];rfl,rfl⟩
end
def wK (s:Rp) (k j:Nat):Nat:=eI (s.mat.take j) k
theorem zN (s:Rp) (k j:Nat) (h:j<s.mat.length):wK s k (j+1)=wK s k j+(if k<=s.mat.getD j 0 then 1 else 0):=by
 have e:s.mat.getD j 0=s.mat[j]:=by simp [List.getD,h]
 unfold wK eI;rw [e,<-bf h,cT,ay];by_cases hk:k<=s.mat[j]<;>simp [hk]
theorem mX (s:Rp) (k:Nat) (h:¬(s.agreed<k/\bJ s.log k=s.term)):settleF s k=none:=by
 cases k with
 | zero=>rfl
 | succ k=>unfold settleF;rw [aw h]
theorem qP (s:Rp) (k:Nat) (h:s.agreed<k/\bJ s.log k=s.term):settleF s k=if jj s (eI s.mat k) then some k else settleF s (k - 1):=by
 cases k with
 | zero=>have:=h.1;omega
 | succ k=>rw [settleF,aA h];rfl
section
variable {w w':World} {A A' X X':List Nat} {r d l:Nat} {s s':Rp} {k k':Dk}
set_option maxHeartbeats 4000000 in
theorem ke (h:Nd w A X r d l s k) (hw:Wf s k):Calls Tryz.prog 80 #[.pointer (some ⟨r,0,none⟩)] w λe w'=>e = .returned (.bool (bI s).1)/\NdP w w' A X r d l (bI s).2 k:=by
 obtain ⟨al,cl,hc8,hl1,hl2⟩:=h.loglen;have HX:=ab h.rX;obtain ⟨D,L,R,vl,gv,gn,gm,gh,h,hX⟩:=h;have hc0:w.cell? ⟨r,0,none⟩=some (.int .i64 (s.own:Int)):=by rw [af h.cell];rfl
 have hc14:w.cell? ⟨r,14,none⟩=some (.slice (some ⟨gm,0,none⟩) s.n s.n):=by rw [af h.cell];rfl
 have hcm:w.cell? ⟨gm,s.own,none⟩=some (.int .i64 (s.mat.getD s.own 0:Int)):=by rw [af h.mat];exact gA _ _ (by rw [hw.ml];exact hw.own)
 have hzm:=aM h.mat s.own;have HM1:Hid (∀w1,w1=(w.setCell ⟨gm,s.own,none⟩ (.int .i64 (s.log.length:Int))).drew->NdP w w1 A X r d l { s with mat:=s.mat.set s.own s.log.length } k):=ab (λw1 e=>by
  subst e;exact ((h.set_mat s.own s.log.length).below (ak _ 1)).ndpR hX (S:=[gm]) (((Only.refl _ _).setCell (by simp) _).drewN 1) (λb hb=>by rw [aj.1 hb];exact h.mR))
 have HK1:Hid (∀w1,w1=(w.setCell ⟨gm,s.own,none⟩ (.int .i64 (s.log.length:Int))).drew->w1.cell? ⟨r,14,none⟩=some (.slice (some ⟨gm,0,none⟩) s.n s.n)/\w1.cell? ⟨r,0,none⟩=some (.int .i64 (s.own:Int))/\w1.cell? ⟨r,8,none⟩=some (.slice al s.log.length cl)):=ab (λw1 e=>by
  have ho:Only [gm] w w1:=by rw [e];exact ((Only.refl _ _).setCell (by simp) _).drewN 1
  have hne:r∉[gm]:=by simpa using bZ h.cell h.mat (by decide)
  exact ⟨ho.cell hc14 hne,ho.cell hc0 hne,ho.cell hc8 hne⟩)
 have HWF:Hid (Wf { s with mat:=s.mat.set s.own s.log.length } k/\True):=ab ⟨⟨hw.n1,hw.n5,hw.own,hw.vl,hw.nl,by simpa using hw.ml,hw.hl,hw.room,hw.tot,hw.fil,hw.logl,hw.agr,hw.man,λhl i=>⟨(hw.lead hl i).1,by
   show (s.mat.set s.own s.log.length).getD i 0<=s.log.length;have:=(hw.lead hl i).2;rw [aF,hC] at *;split
   ·split<;>simp
   ·exact this⟩,hw.term0,hw.termM,hw.cho,hw.choM,hw.recl,hw.tick,hw.hrd⟩,trivial⟩
 have HE:Hid (bI s=match settleF { s with mat:=s.mat.set s.own s.log.length } s.log.length with
  | some k=>(true,bM { s with mat:=s.mat.set s.own s.log.length } k)
  | none=>(false,{ s with mat:=s.mat.set s.own s.log.length })):=ab rfl
 have hown:(s.own:Int)<(s.n:Int):=by have:=hw.own;omega
 have hn5:=hw.n5;clear h hX hw;generalize hs1:({ s with mat:=s.mat.set s.own s.log.length }:Rp)=s1 at *;generalize s.mat.getD s.own 0=om at *;have HN1:Hid (s1.n=s.n/\s1.log=s.log):=ab (by rw [<-hs1];exact ⟨rfl,rfl⟩);clear hs1;generalize hsl:s.log.length=sl at *;generalize hsn:s.n=n at *;generalize s.own=ow at *;go_enter Tryz.func80,Tryz.ntmps80
 go_upto_region 1 with (fail)
 refine wp_region_held_drew (S:=λw'=>w'.cell? ⟨r,14,none⟩=some (.slice (some ⟨gm,0,none⟩) n n)/\w'.cell? ⟨r,0,none⟩=some (.int .i64 (ow:Int))/\w'.cell? ⟨r,8,none⟩=some (.slice al sl cl)) (by kernel_rfl) ⟨hc14,hc0,hc8⟩ (λam=>?_);refine aB 0 ?_;refine aB 1 ?_;refine aB 2 ?_;refine aB 3 ?_;refine aB 4 ?_;refine aB 5 ?_;refine aB 6 ?_;refine aB 7 ?_;refine aB 8 ?_;refine aB 9 ?_;refine aB 10 ?_;refine aB 11 ?_;refine aB 12 ?_;refine aB 13 ?_;refine cC 14 λK hK=>?_;go_simp
 refine hK.out _ _ (HK1.out _ rfl) (λam=>?_);clear hK K;refine bH ?_;refine fI ?_;clear am;go_wp2_with fail
 have hn1:=HM1.out _ rfl;generalize (w.setCell ⟨gm,ow,none⟩ (.int .i64 (sl:Int))).drew=w1 at *;obtain ⟨A1,X1,h1,m1⟩:=hn1;have H1:=ab h1;have M1:=ab m1;obtain ⟨a2,c2,hlr⟩:=h1.logR;have HLR:=ab hlr;have hk8:=hlr.c8;have hle2:=hlr.le;have hcm2:=hlr.cm;have HW1:=ab HWF.out.1;obtain ⟨D1,L1,R1,vl1,gv1,gn1,gm1,gh1,h2,hX2⟩:=h1;have hk9:w1.cell? ⟨r,9,none⟩=some (.int .i64 (s1.agreed:Int)):=by rw [af h2.cell];rfl
 have hk6:w1.cell? ⟨r,6,none⟩=some (.int .i64 s1.term):=by rw [af h2.cell];rfl
 have hk14:w1.cell? ⟨r,14,none⟩=some (.slice (some ⟨gm1,0,none⟩) s1.n s1.n):=by rw [af h2.cell];rfl
 have hs1n:=HN1.out.1;have hs1l:s1.log.length=sl:=by rw [HN1.out.2];exact hsl
 have HV:Hid (∀i,i<n->w1.cell? ⟨gm1,i,none⟩=some (.int .i64 (s1.mat.getD i 0:Int))):=ab (λi hi=>by rw [af h2.mat];exact gA _ _ (by rw [HW1.out.ml,hs1n];exact hi));have hslb:sl<=1000000:=by have:=HW1.out.logb;omega
 have HST:=ab (λk j (hj:j<n)=>zN s1 k j (by rw [HW1.out.ml,hs1n];exact hj));have HCL:Hid (∀k j,wK s1 k j<=n):=ab (λk j=>by
  unfold wK eI;refine aD (di _ _) ?_;rw [aI,HW1.out.ml,hs1n];omega)
 have HC0:Hid (∀k,wK s1 k 0=0):=ab (λk=>by simp [wK,eI]);have HCN:Hid (∀k,wK s1 k n=eI s1.mat k):=ab (λk=>by unfold wK;rw [aZ (by rw [HW1.out.ml,hs1n];exact ah _)]);have HMO:=ab (λq m (hm:m<=n)=>ro (H1.out.below (ak w1 q)) (by rw [hs1n];exact hn5) m (by omega));have HAG:=ab (λq m (hm:m<=sl)=>py (H1.out.below (ak w1 q)) m (by omega) (by omega) (by have h3:=HW1.out.man;have h4:s1.many<=s1.agreed:=(by rw [h3];unfold recs;rw [aP];exact aD (di _ _) (by rw [aI];omega));exact h4));rw [hs1l] at hk8 hle2;rw [hs1n] at hk14;clear h2 hX2 hlr m1 hc0 hc8 hc14 hcm hzm hown;go_wp2_with fail
 go_loopw [3] (λkk wr=>∃j:Nat,j<=sl/\kk = .int .i64 (j:Int)/\settleF s1 sl=settleF s1 j/\∃q,wr=w1.drewN q) (λkk _=>(intOf kk).toNat)
 case atStart=>exact ⟨sl,ah _,rfl,rfl,0,rfl⟩
 case round =>
  obtain ⟨j,hj,rfl,hsf,q,rfl⟩:=hrel;have HSF:=ab hsf;clear hsf;by_cases hag:s1.agreed<j
  ·obtain ⟨i,rfl⟩:∃i,j=i+1:=⟨j - 1,by omega⟩
   obtain ⟨p,rfl⟩:∃p,a2=some p:=by
    cases a2 with
    | none=>have:=HLR.out.nil rfl;omega
    | some p=>exact ⟨p,rfl⟩
   obtain ⟨g,rfl⟩:=HLR.out.form p rfl;obtain ⟨u,hu1,_,_⟩:=HLR.out.at_ i (by omega) g rfl;have HLT:Hid (bJ s1.log (i+1)=(s1.log.map Ent.term).getD i 0):=ab (by unfold bJ;rw [aw (by omega)];rfl);have HY:=ab (λ(ht:(s1.log.map Ent.term).getD i 0=s1.term)=>qP s1 (i+1) ⟨hag,by rw [HLT.out];exact ht⟩);have HNO:=ab (λ(ht:¬(s1.log.map Ent.term).getD i 0=s1.term)=>mX s1 (i+1) (λh=>ht (by rw [<-HLT.out];exact h.2)));clear HLT;generalize (s1.log.map Ent.term).getD i 0=t at *;have q1:IntKind.i64.wrap ((i:Int)+1 - 1)=(i:Int):=by rw [show (i:Int)+1 - 1=(i:Int) by omega];exact IntWalk.i64_in _ (by omega)
   have q2:(i:Int)<(sl:Int):=by omega
   have q3:0<=(i:Int):=by omega
   have g0:decide ((s1.agreed:Int)<(i:Int)+1)=true:=aJ (by omega);by_cases ht:t=s1.term
   ·have g1:(t==s1.term)=true:=by simpa using ht
    have HY:=ab (HY.out ht);clear ht HNO;go_wp2_with fail
    go_quiet (fail)
    go_wp2_with fail
    go_loopw [55,4] (λx m wr=>∃b:Nat,b<=n/\x = .int .i64 (b:Int)/\m = .int .i64 (wK s1 (i+1) b:Int)/\wr=w1.drewN (q+nq)) (λx _ _=>n - (intOf x).toNat)
    case atStart=>exact ⟨0,aH _,rfl,by rw [HC0.out];rfl,rfl⟩
    case round =>
     obtain ⟨b,hb,rfl,rfl,rfl⟩:=hrel;by_cases hlt:b<n
     ·have hv:=HV.out b hlt;have HJ:=ab (HST.out (i+1) b hlt);have hcl:=HCL.out (i+1) b;have r1:IntKind.i64.wrap ((b:Int)+1)=(b:Int)+1:=IntWalk.i64_in _ (by omega);have r2:IntKind.i64.wrap ((wK s1 (i+1) b:Int)+1)=(wK s1 (i+1) b:Int)+1:=IntWalk.i64_in _ (by omega);have r3:(b:Int)<(n:Int):=by omega
      generalize wK s1 (i+1) b=cj at *;generalize s1.mat.getD b 0=mb at *;by_cases hge:i+1<=mb
      ·have r4:(i:Int)+1<=(mb:Int):=by omega
       rw [aA hge] at HJ;clear hge;go_wp2_with fail
       go_roundw
       case rel=>exact ⟨b+1,by omega,rfl,by rw [HJ.out];rfl,trivial⟩
       case measure=>simp [intOf];omega
      ·have r4:¬((i:Int)+1<=(mb:Int)):=by omega
       rw [aw hge] at HJ;clear hge;go_wp2_with fail
       go_roundw
       case rel=>exact ⟨b+1,by omega,rfl,by rw [HJ.out];rfl,trivial⟩
       case measure=>simp [intOf];omega
     ·obtain rfl:b=n:=by omega
      have hcl:=HCL.out (i+1) b;have hcn:=HCN.out (i+1);rw [hcn] at hcl ⊢;generalize eI s1.mat (i+1)=cg at *;go_wp2_with fail
      refine (HMO.out (q+nq) cg hcl).mono ?_;rintro e w5 ⟨rfl,rfl⟩;cases hmo:jj s1 cg with
      | true =>
       rw [hmo,aA rfl] at HY;go_wp2_with fail
       refine (HAG.out (q+nq) (i+1) (by omega)).mono ?_;rintro e w6 ⟨hn6,ho6,rfl⟩;have H6:=ab hn6;have HO6:=ab ho6;clear hn6 ho6;go_wp2_with fail
       go_ret
       rw [HE.out,HSF.out,HY.out];exact ⟨rfl,NdP.trans (M1.out.trans (Mv.below (ak _ _))) (H6.out.here HO6.out H1.out.rX)⟩
      | false =>
       rw [hmo,aw (by simp),Nat.add_sub_cancel] at HY;have HZ:=ab (HSF.out.trans HY.out);go_wp2_with fail
       go_roundw
       case rel=>exact ⟨i,by omega,rfl,HZ.out,_,rfl⟩
       case measure=>simp [intOf]
   ·have g1:(t==s1.term)=false:=by simpa using ht
    have HNO:=ab (HNO.out ht);clear ht HY;go_wp2_with fail
    go_quiet (fail)
    go_wp2_with fail
    go_ret
    rw [HE.out,HSF.out,HNO.out];exact ⟨rfl,((H1.out.below (ak _ q)).below (ak _ nq)).ndp (M1.out.trans ((Mv.below (ak _ q)).trans (Mv.below (ak _ nq))))⟩
  ·have HNO:=ab (mX s1 j (λh=>hag h.1));have g0:decide ((s1.agreed:Int)<(j:Int))=false:=aW (by omega);go_wp2_with fail
   go_quiet (fail)
   go_wp2_with fail
   go_ret
   rw [HE.out,HSF.out,HNO.out];exact ⟨rfl,((H1.out.below (ak _ q)).below (ak _ nq)).ndp (M1.out.trans ((Mv.below (ak _ q)).trans (Mv.below (ak _ nq))))⟩
end
theorem eH {w:World} {base:Nat} {e:TypeId} {k:Nat} {v:Value} {n:Nat} {xs:List Value} (h:w.ownsRow base e k v n xs) {j:Nat} (hj:v.ownBlock=some j):base<=j/\∃cur,w.heap[j]? = some (.cells cur e (0,0)):=by
 rcases h.2 with ⟨rfl,_⟩ | ⟨g,cap,cur,rfl,hb,hh,_⟩
 ·simp [Value.ownBlock] at hj
 ·simp [Value.ownBlock] at hj;subst hj;exact ⟨hb,cur,hh⟩
theorem dP {w:World} {base base':Nat} {e:TypeId} {k:Nat} {v:Value} {n:Nat} {xs:List Value} (h:w.ownsRow base e k v n xs) (hb:base'<=base):w.ownsRow base' e k v n xs:=by
 refine ⟨h.1,?_⟩;rcases h.2 with h2 | ⟨g,cap,cur,rfl,hg,r⟩
 ·exact .inl h2
 ·exact .inr ⟨g,cap,cur,rfl,aD hb hg,r⟩
def OwnL (w:World) (base:Nat) (v:Value) (ls:List (List UInt8)):Prop :=
 ∃vs:List Value,vs.length=ls.length/\w.ownsRow base 31 1 v ls.length vs/\(∀u∈vs,u.oneCell'=true)/\∀i,i<ls.length->OwnB w base 5 (vs.getD i undef) (ls.getD i [])
theorem OwnL.nil (w:World) (base:Nat):OwnL w base (.slice none 0 0) []:=⟨[],rfl,World.ownsRow_nil _ _ _ _,(λu hu=>by cases hu),(λi hi=>by simp at hi)⟩
theorem ej {w w':World} {base:Nat} {e:TypeId} {k n:Nat} {v:Value} {xs:List Value} (h:w.ownsRow base e k v n xs) {S:List Nat} (ho:Only S w w') (hs:∀j∈S,∀cur,w.heap[j]? ≠ some (.cells cur e (0,0))):w'.ownsRow base e k v n xs :=
 bu h ho λb hb hm=>by
  obtain ⟨_,cur,hc⟩:=eH h hb;exact hs b hm cur hc
theorem gb {w w':World} {base:Nat} {e:TypeId} {k n:Nat} {v:Value} {xs:List Value} (h:w.ownsRow base e k v n xs) (hb:Below w.heap.size w w'):w'.ownsRow base e k v n xs :=
 bu h (Only.ofBelow hb []) (λb _=>by simp)
theorem kh {w w':World} {base b2:Nat} {e e2:TypeId} {size n s2 n2:Nat} {v v2:Value} {xs x2:List Value} (h:w.ownsRow base e size v n xs) (h2:w.ownsRow b2 e2 s2 v2 n2 x2) (hne:e≠e2) (hg:w.grownBy w' v2.ownBlock):w'.ownsRow base e size v n xs:=by
 refine ⟨h.1,?_⟩;rcases h.2 with h3 | ⟨g,cap,cur,rfl,hg1,hh,r⟩
 ·exact .inl h3
 ·refine .inr ⟨g,cap,cur,rfl,hg1,?_,r⟩;rw [hg.block g (aQ hh) (λhe=>?_)]
  ·exact hh
  ·obtain ⟨_,cur2,hh2⟩:=eH h2 he.symm;rw [hh] at hh2;cases hh2;exact hne rfl
theorem OwnL.only {w w':World} {base:Nat} {v:Value} {ls:List (List UInt8)} (h:OwnL w base v ls) {S:List Nat} (ho:Only S w w') (hs:∀j∈S,∀cur,w.heap[j]? ≠ some (.cells cur 31 (0,0))/\w.heap[j]? ≠ some (.cells cur 5 (0,0))):OwnL w' base v ls:=by
 obtain ⟨vs,h1,h2,h3,h4⟩:=h;exact ⟨vs,h1,ej h2 ho (λj hj cur=>(hs j hj cur).1),h3,λi hi=>ej (h4 i hi) ho (λj hj cur=>(hs j hj cur).2)⟩
theorem OwnL.below {w w':World} {base:Nat} {v:Value} {ls:List (List UInt8)} (h:OwnL w base v ls) (hb:Below w.heap.size w w'):OwnL w' base v ls :=
 h.only (Only.ofBelow hb []) (λj hj=>by cases hj)
theorem OwnL.mono {w:World} {base base':Nat} {v:Value} {ls:List (List UInt8)} (h:OwnL w base v ls) (hb:base'<=base):OwnL w base' v ls:=by
 obtain ⟨vs,h1,h2,h3,h4⟩:=h;exact ⟨vs,h1,dP h2 hb,h3,λi hi=>(h4 i hi).mono hb⟩
theorem OwnL.shape {w:World} {base:Nat} {v:Value} {ls:List (List UInt8)} (h:OwnL w base v ls):∃ao c,v = .slice ao ls.length c/\ls.length<=c/\c<=9223372036854775807:=by
 obtain ⟨vs,h1,⟨_,h2⟩,h3,h4⟩:=h;rcases h2 with ⟨rfl,h0⟩ | ⟨g,cap,cur,rfl,hb,hh,hn,hm,hs,ht⟩
 ·exact ⟨none,0,by rw [h0],by omega,by decide⟩
 ·unfold maxLen at hm;exact ⟨_,cap,rfl,hn,by omega⟩
theorem dc {w:World} {ops:Array Oper} {rest:List Oper} {o:Oper} {a:Act} {Q:Exit->Act->World->Prop} (hgd:o.guard=none) (s x:Operand)
  (ho:o.op = .call { callee:=.builtin .append,args:=#[s,x],argTypes:=#[29,29]})
  (base:Nat) (v:Value) (ls:List (List UInt8)) (hs:a.eval s=v) (hown:OwnL w base v ls)
  (H:Nat) (u:Value) (l:List UInt8) (hx:a.eval x = .slice (some ⟨H,0,none⟩) 1 1) (hcell:w.cell? ⟨H,0,none⟩=some u) (hel:OwnB w base 5 u l)
  (hbytes:ls.length+1<=1000000) (hbase:base<=w.heap.size)
  (h:∀ao c w',OwnL w' base (.slice ao (ls.length+1) c) (ls++[l])->Below base w w'->w.grownBy w' v.ownBlock->wpList Tryz.prog ops Q rest (a.put o.dst (.slice ao (ls.length+1) c)) w'):wpList Tryz.prog ops Q (o::rest) a w:=by
 obtain ⟨i0,hi0,hz0,hz1,hz2⟩:=info_parts F.zD;obtain ⟨vs,h1,h2,h3,h4⟩:=hown;have hone:u.oneCell'=true:=by
  obtain ⟨ao,c,rfl,_⟩:=hel.isB;rfl
 refine wpList_append_own w hgd s x 29 ho base 31 i0 (.slice none 0 0) 1 24 Tryz.underlying29 hi0 hz0 hz1 hz2 rfl (by decide) v _ _ hs h2 ⟨H,0,none⟩ 1 1 [u] hx rfl ?_ ?_ (by unfold maxLen;omega) (by omega) hbase ?_
 ·intro j y hj
  match j,hj with
  | 0,hj=>rw [Addr.add_lit];simp at hj;rw [hcell,<-hj]
 ·intro y hy;obtain rfl:=aj.1 hy;exact hone
 ·intro v' w' g1 g2 _;have hb:Below base w w':=(az base w).grown g2 hbase (λk hk=>(eH h2 hk).1);have g3:=g1;obtain ⟨_,g4⟩:=g3;have hsh:∃ao c,v' = .slice ao (ls.length+1) c:=by
   rcases g4 with ⟨rfl,h0⟩ | ⟨g,cap,cur,rfl,_⟩
   ·omega
   ·exact ⟨_,_,rfl⟩
  obtain ⟨ao,c,rfl⟩:=hsh;refine h ao c w' ⟨vs++[u],by simp [h1],by rw [ay];exact g1,?_,?_⟩ hb g2
  ·intro y hy;rcases ap.1 hy with hy | hy
   ·exact h3 y hy
   ·obtain rfl:=aj.1 hy;exact hone
  ·intro i hi;by_cases hlt:i<ls.length
   ·have:=kh (h4 i hlt) h2 (by decide) g2;unfold OwnB;simpa [cI,hlt,h1] using this
   ·obtain rfl:i=ls.length:=by simp at hi;omega
    have:=kh hel h2 (by decide) g2;rw [aF,aF,fk (by omega),fk (by omega),h1,pA];exact this
end Go.Proofs.YtnhefallmioefaaGreat
namespace Go.Proofs.YtnhefallmioefaaGreat.F
open Go.Proofs.YtnhefallmioefaaGreat Go.RowKit
set_option maxHeartbeats 1000000 in
theorem lC (ao:Option Addr) (n c:Nat) (B:List UInt8) (w:World) (h:IsB w ao n c B) (hn:n<=2000000) (hnc:n<=c) (hc9:c<=9223372036854775807) :
  Calls Tryz.prog 52 #[.slice ao n c] w λe w'=>∃v,CV v ((cH B).2.1:Int) ((cH B).2.2:Int) e/\OwnL w' w.heap.size v (cH B).1/\Below w.heap.size w w':=by
 have hlen:=h.len;have HB:=ab h;clear h;have HL:=ab hlen;clear hlen;have HS:Hid (gG B (B.length - 0) 0 []=cH B):=ab rfl;go_enter Tryz.func52,Tryz.ntmps52
 go_wp2_with fail
 go_loopw [2,3] (λv i wr=>∃(k:Nat) (ls:List (List UInt8)),k<=n/\ls.length*12<=k/\i = .int .i64 (k:Int)/\gG B (B.length - k) k ls=cH B/\OwnL wr w.heap.size v ls/\Below w.heap.size w wr) (λ_ i _=>n - (intOf i).toNat)
 case atStart=>exact ⟨0,[],by omega,by simp,rfl,HS.out,OwnL.nil _ _,az _ _⟩
 case round =>
  clear HS;obtain ⟨k,ls,hk,hls,rfl,hsc,hown,hbl⟩:=hrel;have HSC:=ab hsc;clear hsc;have HO:=ab hown;clear hown;by_cases hlt:k<n
  ·obtain ⟨b,off,rfl⟩:∃b off,ao=some ⟨b,off,none⟩:=by
    rcases HB.out.at_ with h0 | ⟨b,off,h0,_⟩
    ·omega
    ·exact ⟨b,off,h0⟩
   have hD:IsB wr (some ⟨b,off+k,none⟩) (n - k) (c - k) (B.drop k):=(jy HB.out k (c - k) (by omega)).below hbl;have hkc:¬(c=k):=by omega
   have hst:=tg B k ls (by rw [HL.out];exact hlt);have hsp:=tf B k ls (by rw [HL.out];exact hlt);have hsz:=ky (B.drop k);have hnext:=λw' (hw:IsB w' (some ⟨b,off+k,none⟩) (n - k) (c - k) (B.drop k))=>kV _ _ _ (B.drop k) w' hw (by omega) (by omega);generalize d6 (B.drop k)=q at hst hsp hsz hnext;obtain ⟨sz,how⟩:=q;simp only at hst hsp hsz hnext;have HST:=ab hst;clear hst;have HSP:=ab hsp;clear hsp;have HSZ:=ab hsz;clear hsz;have HNX:=ab hnext;clear hnext;have HD:=ab hD;clear hD;go_wp2_with fail
   refine (HNX.out _ HD.out).mono ?_;rintro e w1 ⟨rfl,hb1⟩;have hB1:=hbl.trans (hb1.mono hbl.size);by_cases h0:how=0
   ·subst h0;have hstep:=HST.out rfl;obtain ⟨s1,s2,s3⟩:=HSZ.out rfl;rw [bz,HL.out] at s2;have HF:Hid (gG B (B.length - (k+sz)) (k+sz) (ls++[((B.drop k).take sz).drop 12])=cH B):=ab (by rw [<-HSC.out,hstep]);have hrec:IsB w1 (some ⟨b,off+(k+12),none⟩) (k+sz - (k+12)) (c - (k+12)) (((B.drop k).take sz).drop 12):=by
     have h1:=la (HD.out.below hb1) sz s2;have h2:=jy h1 12 (c - (k+12)) s1;rw [Nat.add_assoc,show sz - 12=k+sz - (k+12) by omega] at h2;exact h2
    generalize ((B.drop k).take sz).drop 12=rec at hrec HF;clear hstep HST HSP HSZ HNX HD HSC;have hO1:=HO.out.below hb1;have HO1:=ab hO1;clear hO1 HO;have HR:=ab hrec;clear hrec;by_cases hck:c=k+12
    ·have hsz12:sz=12:=by omega
     have hnk:n=k+12:=by omega
     subst hck hsz12 hnk;have hrl:=HR.out.len;obtain rfl:rec=[]:=br.1 (by omega);have hlb:ls.length+1<=1000000:=by omega
     clear hrl HR;go_wp2_with fail
     refine (dd (some ⟨b,off,none⟩) 0 0 [] _ (nH 0) (by omega)).mono ?_;rintro e w2 ⟨v2,rfl,hown2,hb2⟩;have hB2:=hB1.trans (hb2.mono hB1.size);have hel0:=hown2.mono hB1.size;obtain ⟨a2,c2,rfl,_⟩:=pX hown2 0 rfl;have hel:=ab (hel0.alloc (.cells #[.slice a2 0 c2] 31));have hO2:=ab ((HO1.out.below hb2).below ((az _ _).alloc (ah _) (.cells #[.slice a2 0 c2] 31)));have hz2:=hB2.size;have HB2:=ab hB2;clear hown2 hel0 hb2 hB2 hb1 hB1 HO1;go_wp2_with (at_builtin;refine dc rfl _ _ rfl w.heap.size _ ls rfl hO2.out w2.heap.size (.slice a2 0 c2) [] rfl (by rw [World.cell?_alloc_mark];rfl) hel.out hlb (by simp;omega) ?_;intro a3 c3 w3 hown3 hb3 hgr3;clear hgr3)
     go_roundw
     case rel=>exact ⟨k+12,_,by omega,by simp;omega,by go_num,HF.out,hown3,(HB2.out.alloc hz2 _).trans hb3⟩
     case measure=>simp [intOf];omega
    ·have hrl:=HR.out.len;go_wp2_with fail
     refine (dd _ _ _ rec _ HR.out (by omega)).mono ?_;rintro e w2 ⟨v2,rfl,hown2,hb2⟩;have hB2:=hB1.trans (hb2.mono hB1.size);have hel0:=hown2.mono hB1.size;obtain ⟨a2,c2,rfl,_⟩:=pX hown2 _ hrl;have hel:=ab (hel0.alloc (.cells #[.slice a2 (k+sz - (k+12)) c2] 31));have hO2:=ab ((HO1.out.below hb2).below ((az _ _).alloc (ah _) (.cells #[.slice a2 (k+sz - (k+12)) c2] 31)));have hlb:ls.length+1<=1000000:=by omega
     have hz2:=hB2.size;have HB2:=ab hB2;clear hown2 hel0 hb2 hB2 hb1 hB1 HO1 HR hrl;go_wp2_with (at_builtin;refine dc rfl _ _ rfl w.heap.size _ ls rfl hO2.out w2.heap.size (.slice a2 (k+sz - (k+12)) c2) rec rfl (by rw [World.cell?_alloc_mark];rfl) hel.out hlb (by simp;omega) ?_;intro a3 c3 w3 hown3 hb3 hgr3;clear hgr3)
     go_roundw
     case rel=>exact ⟨k+sz,_,by omega,by simp;omega,by go_num,HF.out,hown3,(HB2.out.alloc hz2 _).trans hb3⟩
     case measure=>simp [intOf];omega
   ·have hstop:=HSP.out h0;have HF:Hid (cH B=(ls,k,how)):=ab (by rw [<-HSC.out,hstop]);clear hstop;have g0:((how:Int) != 0)=true:=by simp;omega
    go_wp2_with fail
    go_ret3
    refine ⟨_,by unfold CV;rw [HF.out];rfl,?_,hB1⟩;rw [HF.out];exact HO.out.below hb1
  ·obtain rfl:k=n:=by omega
   have HF:Hid (cH B=(ls,k,0)):=ab (by rw [<-HSC.out,iu B _ k ls (by rw [HL.out];exact ah _)]);go_wp2_with fail
   go_ret3
   refine ⟨_,by unfold CV;rw [HF.out];rfl,?_,hbl⟩;rw [HF.out];exact HO.out
end Go.Proofs.YtnhefallmioefaaGreat.F
namespace Go.Proofs.YtnhefallmioefaaGreat
open Go.RowKit Go.ChangeMaps Go.WideMaps Go.Maps
set_option maxRecDepth 20000
def ImmI (w:World) (A:List Nat) (v:Value) (l:List Int):Prop:=∃ao c,v = .slice ao l.length c/\IsI w ao l.length c l/\l.length<=c/\c<=9223372036854775807/\∀p,ao=some p->p.block∉A/\p.block<w.heap.size
def ImmL (w:World) (A:List Nat) (v:Value) (ls:List (List UInt8)):Prop :=
 (v = .slice none 0 0/\ls=[])\/∃g c cur,v = .slice (some ⟨g,0,none⟩) ls.length c/\ls.length<=c/\c<=9223372036854775807/\g∉A/\w.heap[g]? = some (.cells cur 31 (0,0))/\∀i,i<ls.length->∃u,cur[i]? = some u/\Imm w A u (ls.getD i [])
theorem ph {w w':World} {S:List Nat} {ao:Option Addr} {n c:Nat} {l:List Int} (h:IsI w ao n c l) (ho:Only S w w') (hS:∀p,ao=some p->p.block∉S):IsI w' ao n c l:=by
 obtain ⟨h1,h2,h3⟩:=h;refine ⟨h1,h2,?_⟩;rcases h3 with h3 | ⟨b,off,h4,h5⟩
 ·exact .inl h3
 ·exact .inr ⟨b,off,h4,λi hi=>ho.cell (h5 i hi) (show b∉S from hS ⟨b,off,none⟩ h4)⟩
theorem ImmI.step {w w':World} {A A' S:List Nat} {v:Value} {l:List Int} (h:ImmI w A v l) (ho:Only S w w') (hS:∀b∈S,b∈A) (he:Ext A A' w):ImmI w' A' v l:=by
 obtain ⟨ao,c,rfl,h1,h2,h9,h3⟩:=h;refine ⟨ao,c,rfl,ph h1 ho (λp hp hm=>(h3 p hp).1 (hS _ hm)),h2,h9,λp hp=>?_⟩;obtain ⟨h4,h5⟩:=h3 p hp;refine ⟨λhm=>?_,aE h5 ho.size⟩;rcases he _ hm with h6 | h6
 ·exact h4 h6
 ·omega
theorem ImmI.below {w w':World} {A:List Nat} {v:Value} {l:List Int} (h:ImmI w A v l) (hb:Below w.heap.size w w'):ImmI w' A v l:=h.step (Only.ofBelow hb []) (λb hb=>by cases hb) (Ext.refl _ _)
theorem ImmI.avoid {w w':World} {A S:List Nat} {ao:Option Addr} {n c:Nat} {l:List Int} (h:ImmI w A (.slice ao n c) l) (ho:Only S w w') (hS:∀p,ao=some p->p.block∉S):ImmI w' A (.slice ao n c) l:=by
 obtain ⟨ao',c',e,h1,h2,h9,h3⟩:=h;cases e;exact ⟨ao,c,rfl,ph h1 ho hS,h2,h9,λp hp=>⟨(h3 p hp).1,aE (h3 p hp).2 ho.size⟩⟩
theorem ImmI.fresh {w:World} {A:List Nat} (l:List Int) (vs:Array Value) (hv:vs=(l.map iv).toArray) (t:TypeId) (n:Nat) (hn:l.length=n) (hm:n<=9223372036854775807) (hA:∀b∈A,b<w.heap.size):ImmI (w.alloc (.cells vs t)) A (.slice (some ⟨w.heap.size,0,none⟩) n n) l:=by
 have h1:=jQ w l vs hv t (0,0) w.heap.size rfl n hn n;subst hn;exact ⟨_,_,rfl,h1,ah _,hm,λp hp=>by cases hp;exact ⟨λhm=>by have:=hA _ hm;simp at this,by simp⟩⟩
theorem dv (w:World) (b:Nat) (row:Array Value):Only [b] w (w.setRow b row):=⟨rfl,rfl,rfl,by simp,λk _ hk=>setRow_other _ _ _ _ (by simpa using hk)⟩
theorem ImmL.step {w w':World} {A A' S:List Nat} {v:Value} {ls:List (List UInt8)} (h:ImmL w A v ls) (ho:Only S w w') (hS:∀b∈S,b∈A) (he:Ext A A' w):ImmL w' A' v ls:=by
 rcases h with ⟨rfl,rfl⟩ | ⟨g,c,cur,rfl,h1,h2,h3,h4,h5⟩
 ·exact .inl ⟨rfl,rfl⟩
 ·refine .inr ⟨g,c,cur,rfl,h1,h2,λhm=>?_,ho.keeps h4 (λhm=>h3 (hS g hm)),λi hi=>?_⟩
  ·rcases he g hm with h6 | h6
   ·exact h3 h6
   ·have:=aQ h4;omega
  ·obtain ⟨u,k1,k2⟩:=h5 i hi;exact ⟨u,k1,k2.step ho hS he⟩
theorem ImmL.below {w w':World} {A:List Nat} {v:Value} {ls:List (List UInt8)} (h:ImmL w A v ls) (hb:Below w.heap.size w w'):ImmL w' A v ls:=h.step (Only.ofBelow hb []) (λb hb=>by cases hb) (Ext.refl _ _)
theorem OwnI.caps {w:World} {base:Nat} {e:TypeId} {v:Value} {l:List Int} (h:OwnI w base e v l):∃ao c,v = .slice ao l.length c/\IsI w ao l.length c l/\l.length<=c/\c<=9223372036854775807/\∀p,ao=some p->base<=p.block/\p.block<w.heap.size:=by
 obtain ⟨ao,c,e1,h1⟩:=h.isI;have hlt:=h.lt;rcases h.2 with ⟨h2,h3⟩ | ⟨g,cap,cur,hv,hg,hh,hn,hm,hs,ht⟩
 ·rw [e1] at h2;simp only [Value.slice.injEq] at h2;obtain ⟨rfl,h0,rfl⟩:=h2;exact ⟨none,0,e1,h1,by omega,by omega,(λp hp=>by cases hp)⟩
 ·rw [e1] at hv;cases hv;unfold maxLen at hm;exact ⟨_,_,e1,h1,hn,by omega,λp hp=>by cases hp;exact ⟨hg,aQ hh⟩⟩
theorem ImmI.new {w w':World} {A:List Nat} {e:TypeId} {v:Value} {l:List Int} (h:OwnI w' w.heap.size e v l) (hA:∀b∈A,b<w.heap.size):ImmI w' A v l:=by
 obtain ⟨ao,c,rfl,h1,h2,h9,h3⟩:=h.caps;exact ⟨ao,c,rfl,h1,h2,h9,λp hp=>⟨λhm=>by have:=hA _ hm;have:=(h3 p hp).1;omega,(h3 p hp).2⟩⟩
theorem ImmL.new {w w':World} {A:List Nat} {v:Value} {ls:List (List UInt8)} (h:OwnL w' w.heap.size v ls) (hA:∀b∈A,b<w.heap.size):ImmL w' A v ls:=by
 obtain ⟨vs,h1,⟨h9,h2⟩,h3,h4⟩:=h;rcases h2 with ⟨rfl,h0⟩ | ⟨g,cap,cur,rfl,hg,hh,hn,hm,hs,ht⟩
 ·exact .inl ⟨rfl,br.1 h0⟩
 ·unfold maxLen at hm;refine .inr ⟨g,cap,cur,rfl,hn,by omega,λhm=>by have:=hA _ hm;omega,hh,λi hi=>?_⟩;have hiv:i<vs.length:=by omega
  refine ⟨vs.getD i undef,?_,Imm.new (h4 i hi) hA⟩;have h7:(cur.toList.take (ls.length*1))[i]? = vs[i]? := by rw [ht]
  rw [cE,aA (by omega),ew] at h7;rw [h7];simp [hiv]
def df (m:Msg) (v u:Value):Value:=.agg #[.int .i64 m.frm,.int .i64 m.dst,.int .i64 m.kind,v,u]
structure IsMsg (w:World) (A:List Nat) (m:Msg) (v u:Value):Prop where
 n:ImmI w A v m.N
 b:ImmL w A u m.B
theorem IsMsg.step {w w':World} {A A' S:List Nat} {m:Msg} {v u:Value} (h:IsMsg w A m v u) (ho:Only S w w') (hS:∀b∈S,b∈A) (he:Ext A A' w):IsMsg w' A' m v u:=⟨h.n.step ho hS he,h.b.step ho hS he⟩
theorem IsMsg.below {w w':World} {A:List Nat} {m:Msg} {v u:Value} (h:IsMsg w A m v u) (hb:Below w.heap.size w w'):IsMsg w' A m v u:=⟨h.n.below hb,h.b.below hb⟩
theorem fH (f t k:Int) (ao:Option Addr) (n c:Nat) (bo:Option Addr) (q d:Nat):(#[Value.int .i64 f,.int .i64 t,.int .i64 k,.slice ao n c,.slice bo q d]).all (·.oneCell')=true:=by
 refine Array.all_eq_true_iff_forall_mem.2 λu hu=>?_;simp only [List.mem_toArray,bg,gp,or_false] at hu;rcases hu with rfl | rfl | rfl | rfl | rfl<;>rfl
theorem fS:(Tryz.prog.info? 83).map (·.size)=some 5:=by kernel_rfl
section
variable {w w':World} {A A' X X':List Nat} {r d l:Nat} {s s':Rp} {k k':Dk}
theorem jP (h:Nd w A X r d l s k) (dst kind:Int) (N:List Int) (ao:Option Addr) (n c:Nat):Calls Tryz.prog 67 #[.pointer (some ⟨r,0,none⟩),.int .i64 dst,.int .i64 kind,.slice ao n c] w λe w'=>e = .returned (df (da s dst kind N) (.slice ao n c) (.slice none 0 0))/\Below w.heap.size w w':=by
 obtain ⟨vl,gv,gn,gm,gh,hcell⟩:=h.cells;have hlt:=aQ hcell;have hc0:(w.alloc (.cells #[.int .i64 0,.int .i64 0,.int .i64 0,.slice none 0 0,.slice none 0 0] 83)).cell? ⟨r,0,none⟩=some (.int .i64 (s.own:Int)):=by
  rw [af (bb hcell _)];rfl
 clear hcell h;go_enter Tryz.func67,Tryz.ntmps67
 go_wp2_with fail
 exact bodyPost_ret (results_cell_row (P:=Tryz.prog) (fn:=Tryz.f67) rfl _ _ w.heap.size 83 _ _ _ rfl (aK _ _) Tryz.underlying83 rfl fS) rfl ⟨rfl,(az _ _).alloc (ah _) _⟩
end
end Go.Proofs.YtnhefallmioefaaGreat
