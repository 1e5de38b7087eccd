/-
  What the proof of the law leans on: contracts of the program's functions, one behind another. No condition.
-/
import Derived.Test.YtnhefallmioefaaGreatV0
import Derived.Test.YtnhefallmioefaaGreatV18
import Derived.Test.YtnhefallmioefaaGreatV4
import Derived.Test.YtnhefallmioefaaGreatV8
import Derived.Test.YtnhefallmioefaaGreatV17
import Derived.Test.YtnhefallmioefaaGreatV3
set_option linter.unusedVariables false
set_option linter.unusedSimpArgs false
namespace Go.Proofs.YtnhefallmioefaaGreat
open Go.RowKit Go.ChangeMaps Go.WideMaps Go.Maps
set_option maxRecDepth 20000
structure OpenQ (w w':World) (D:List Nat) (d:Nat) (e:Ending) (recs:List (List UInt8)) (k:Dk):Prop where
 ex:∃l D' L,e = .returned (.tuple #[.pointer (some ⟨l,0,none⟩),.int .i64 0])/\(∀A:List Nat,(∀b∈A,b<w.heap.size)->WD w' (A++(D'++L)) D' L l d ⟨k.lives,false,recs⟩ k)/\(∀b∈L,w.heap.size<=b)/\Moves D D' w w'
theorem OpenP.q {w w':World} {D:List Nat} {d:Nat} {e:Ending} {recs:List (List UInt8)} {k:Dk} (h:OpenP w w' D d e recs k):OpenQ w w' D d e recs k:=by
 obtain ⟨l,L,h1,h2,h3,h4⟩:=h;exact ⟨l,D,L,h1,h2,h3,Moves.of_below h4⟩
def OwnLU (w:World) (base top:Nat) (v:Value) (ls:List (List UInt8)):Prop :=
 ∃vs:List Value,vs.length=ls.length/\w.ownsRow base 31 1 v ls.length vs/\(∀u∈vs,u.oneCell'=true)/\(∀i,i<ls.length->OwnB w base 5 (vs.getD i undef) (ls.getD i []))/\(∀b,v.ownBlock=some b->b<top)/\∀i b,(vs.getD i undef).ownBlock=some b->b<top
theorem OwnL.up {w:World} {base:Nat} {v:Value} {ls:List (List UInt8)} (h:OwnL w base v ls):OwnLU w base w.heap.size v ls:=by
 obtain ⟨vs,h1,h2,h3,h4⟩:=h;refine ⟨vs,h1,h2,h3,h4,λb hb=>(World.ownsRow.lt h2 b hb).2,λi b hb=>?_⟩;by_cases hi:i<ls.length
 ·exact ((h4 i hi).lt b hb).2
 ·rw [aF,dR (by omega)] at hb;cases hb
theorem OwnLU.keep {w w':World} {base top:Nat} {v:Value} {ls:List (List UInt8)} {S:List Nat} (h:OwnLU w base top v ls) (ho:Only S w w') (hS:∀b∈S,b<base\/top<=b):OwnLU w' base top v ls:=by
 obtain ⟨vs,h1,h2,h3,h4,h5,h6⟩:=h;refine ⟨vs,h1,bu h2 ho (λb hb hm=>?_),h3,λi hi=>bu (h4 i hi) ho (λb hb hm=>?_),h5,h6⟩
 ·have:=hS b hm;have:=h5 b hb;have:=(World.ownsRow.lt h2 b hb).1;omega
 ·have:=hS b hm;have:=h6 i b hb;have:=((h4 i hi).lt b hb).1;omega
section
variable {w:World} {D:List Nat} {d:Nat} {k:Dk}
theorem yH (h:IsDk w D d k) (ho:k.off=false) {bl:List UInt8} {sf:Nat} (hf:k.file=some (bl,sf)) (hl:bl.length<=1048576) (hsf:sf<=bl.length) (hk:¬(F.cH bl).2.2=2) (hu:(F.cH bl).2.1<bl.length) (hrs:∀r∈(F.cH bl).1,r.length<=20000) (hfl:(F.aL (F.cH bl).1).length<=1048576) (hmany:(F.cH bl).1.length<=1000000) :
  Calls Tryz.prog 34 #[.pointer (some ⟨d,0,none⟩)] w λe w'=>OpenQ w w' D d e (F.cH bl).1 { k with file:=some (bl.take (F.cH bl).2.1,min sf (F.cH bl).2.1)}:=by
 have HR:=ab (qj h ho);have HD:=ab h;have HO:=ab ho;have HF:=ab hf;generalize hq:F.cH bl=q at hk hu hrs hfl hmany ⊢;have HQ:=ab hq;obtain ⟨recs,used,how⟩:=q;simp only at hk hu hrs hfl hmany;have hu9:(used:Int)<(bl.length:Int):=by omega
 have hle:=eC hu;have hk2:¬(how:Int)=2:=by omega
 clear h ho hf hq;go_enter Tryz.func34,Tryz.ntmps34
 go_wp2_with fail
 refine HR.out.mono ?_;rintro e w1 ⟨rfl,hb⟩;have HB:=ab hb;clear hb;go_wp2_with fail
 refine (mL (HD.out.below HB.out) HO.out HF.out hl).mono ?_;rintro e w2 ⟨v,rfl,hv,hb⟩;have HB2:=ab (HB.out.trans (hb.mono HB.out.size));obtain ⟨ao,c,rfl,hi,hnc,hc9⟩:=ju hv;have HI:=ab hi;clear hb hv hi;go_wp2_with fail
 refine (F.lC ao bl.length c bl w2 HI.out (by omega) hnc hc9).mono ?_;rintro e wa ⟨v3,hr,ho3,hb3⟩;rw [HQ.out] at hr ho3;obtain rfl:=hr;have HB3:=ab (HB2.out.trans (hb3.mono HB2.out.size));have HO3:=ab (ho3.mono HB2.out.size);clear hb3 ho3;obtain ⟨ao3,c3,rfl,hc3,hc39⟩:=HO3.out.shape;have HU3:=ab HO3.out.up;go_wp2_with fail
 refine (BK (HD.out.below HB3.out) HO.out HF.out used hle hl hsf).mono ?_;rintro e w3 ⟨D',rfl,hd3,hm3⟩;have HD3:=ab hd3;have HM3:=ab hm3;have HL3:Hid (OwnLU w3 w.heap.size wa.heap.size (.slice ao3 recs.length c3) recs):=ab (HU3.out.keep hm3.only (λb hb=>.inl (HD.out.lt b hb)));have HWA:Hid (w.heap.size<=wa.heap.size/\wa.heap.size<=w3.heap.size):=ab ⟨HB3.out.size,hm3.only.size⟩;clear hd3 hm3;go_wp2_with fail
 refine (fE HD3.out).mono ?_;rintro e w4 ⟨rfl,rfl⟩;go_wp2_with fail
 go_loopw [12,58] (λa i wr=>∃(j:Nat) (ve:Value),j<=recs.length/\i = .int .i64 (j:Int)/\a = .int .i64 ((F.aL (recs.take j)).length:Int)/\wr.heap[w3.heap.size]? = some (.cells #[.pointer (some ⟨d,0,none⟩),.int .i64 k.lives,.bool false,.int .i64 1,.slice ao3 recs.length c3,ve] 103 (0,0))/\OwnI wr 0 3 ve (cD (recs.take j))/\(∀b,ve.ownBlock=some b->w3.heap.size<b)/\OwnLU wr w.heap.size wa.heap.size (.slice ao3 recs.length c3) recs/\Below w3.heap.size w3 wr) (λ_ i _=>recs.length - (intOf i).toNat)
 case atStart =>
  refine ⟨0,.slice none 0 0,by omega,rfl,by simp [F.aL],?_,OwnI.nil _ _ _,(λb hb=>by cases hb),?_,?_⟩
  ·exact aK _ _
  ·exact HL3.out.keep (Only.ofBelow ((az _ _).alloc (ah _) _) []) (λb hb=>by cases hb)
  ·exact (az _ _).alloc (ah _) _
 case round =>
  obtain ⟨j,ve,hj,rfl,rfl,hcell,hve,hvb,hrl,hb3⟩:=hrel;have HC:=ab hcell;have HV:=ab hve;have HVB:=ab hvb;have HL:=ab hrl;have HBL3:=ab hb3;clear hcell hve hvb hrl hb3;by_cases hlt:j<recs.length
  ·have hrj:(recs.getD j []).length<=20000:=by
    have e:recs.getD j []=recs[j]:=by simp [List.getD,hlt]
    rw [e];exact hrs _ (bO _)
   have hfj:(F.aL (recs.take j)).length+(12+(recs.getD j []).length)=(F.aL (recs.take (j+1))).length:=by
    have e:recs.getD j []=recs[j]:=by simp [List.getD,hlt]
    rw [e,<-bf hlt,ig]
   have hfj2:(F.aL (recs.take (j+1))).length<=1048576:=by
    have e:F.aL recs=F.aL (recs.take (j+1))++F.aL (recs.drop (j+1)):=by
     unfold F.aL;rw [<-List.flatMap_append,dh]
    rw [e,ay] at hfl;omega
   obtain ⟨us,hu,hru,hone,him,hut,hux⟩:=HL.out;obtain ⟨ao,c,e1,hi,_,_⟩:=ju (him j hlt);have hgu:=hru;rcases hru.2 with ⟨_,h0⟩ | ⟨g,cap,cur,e0,_,hg,hgn,hgm,hgs,hgt⟩
   ·omega
   cases e0;have hcell:wr.cell? ⟨g,j,none⟩=some (.slice ao (recs.getD j []).length c):=by
    have:=World.ownsRow.cellAt hgu j (by omega);rw [this,<-e1];have hun:j<us.length:=by omega
    simp [List.getD,hun]
   have HI:=ab hi;clear hu hru hone him hut hux hgu hg hgs hgt hgn hgm e1 hi;have HRJ:=ab hrj;have HFJ:=ab hfj;clear hrj hfj;generalize hrl:recs.getD j []=rl at *;have HRL:=ab hrl;clear hrl;go_wp2_with fail
   refine (mW ao rl.length c rl HI.out HRJ.out).mono ?_;rintro e wr2 ⟨rfl,hb⟩;have HBS:=ab hb;clear hb hcell;have hsum:wrap64 ((F.aL (recs.take j)).length+(12+(rl.length:Int)))=((F.aL (recs.take (j+1))).length:Int):=by
    have:=HFJ.out;rw [<-this];unfold wrap64;omega
   have hfj3:Hid ((F.aL (recs.take (j+1))).length<=1048576):=ab hfj2;have HSUM:=ab (show wrap64 ((F.aL (recs.take j)).length+(12+(rl.length:Int)))=((F.aL (recs.take (j+1))).length:Int) from hsum);have hc2:wr2.heap[w3.heap.size]? = some (.cells #[.pointer (some ⟨d,0,none⟩),.int .i64 k.lives,.bool false,.int .i64 1,.slice (some ⟨g,0,none⟩) recs.length c3,ve] 103 (0,0)):=(Only.ofBelow HBS.out []).keeps HC.out (by simp);have HC2:=ab hc2;clear hc2 hfj2;generalize hz:(F.aL (recs.take (j+1))).length=z at *;have HZ:=ab hz;clear hz;have heln:(cD (recs.take j)).length=j:=by rw [eU,aI];omega
   have HELN:=ab heln;have hv2:OwnI wr2 0 3 ve (cD (recs.take j)):=gb HV.out HBS.out;obtain ⟨ae,ce,e5,_⟩:=hv2.isI;rw [heln] at e5;subst e5;have HV2:=ab hv2;have HLEN:Hid ((cD (recs.take j)).length+1<=17592186044416):=ab (by rw [heln];omega);clear heln hv2;have hc5:wr2.cell? ⟨w3.heap.size,5,none⟩=some (.slice ae j ce):=(af HC2.out 5).trans rfl;go_wp2_with (at_builtin;refine eV rfl (.tmp 70) (.tmp 72) 74 rfl 3 Tryz.underlying74 F.info3 (.slice ae j ce) (cD (recs.take j)) rfl (OwnI.alloc HV2.out _) (some ⟨wr2.heap.size,0,none⟩) 1 1 [(z:Int)] rfl (iG (aK wr2 _)) HLEN.out ?_)
   intro ve5 w5 ho5 hon5 hfr5;have h5:=hon5.keeps (bb HC2.out (.cells #[.int .i64 (z:Int)] 3)) (i9 (OwnI.alloc HV2.out (.cells #[.int .i64 (z:Int)] 3)) (bb HC2.out (.cells #[.int .i64 (z:Int)] 3)) (by simp));obtain ⟨a5,c5,e5,_⟩:=ho5.isI;rw [ay,HELN.out] at e5;simp only [aY,gM,cy] at e5;subst e5;have hc6:w5.cell? ⟨w3.heap.size,5,none⟩=some (.slice ae j ce):=(af h5 5).trans rfl;have hz:=aM h5 5;have HL5:=ab h5;have HO5:=ab ho5;have HON5:=ab hon5;have HFR5:=ab hfr5;clear h5 ho5 hon5 hfr5;go_wp2_with fail
   case roundEnd =>
    refine ⟨?_,?_⟩;rotate_left
    ·simp [intOf];omega
    have hlw:w3.heap.size<wr.heap.size:=aQ HC.out;have hgt5:∀b,(Value.slice a5 (j+1) c5).ownBlock=some b->w3.heap.size<b:=λb hb=>by
     rcases HFR5.out b hb with h1 | h1
     ·exact HVB.out b h1
     ·have:=HBS.out.size;have h2:(wr2.alloc (.cells #[.int .i64 (z:Int)] 3)).heap.size=wr2.heap.size+1:=by simp
      omega
    have hon:Only (w3.heap.size::(Value.slice ae j ce).ownBlock.toList) wr (w5.setCell ⟨w3.heap.size,5,none⟩ (.slice a5 (j+1) c5)):=(((Only.ofBelow HBS.out _).trans (Only.ofBelow ((az _ _).alloc (ah _) _) _)).trans (HON5.out.mono (λb hb=>aU _ hb))).setCell (by simp) _;have hge:∀b∈(w3.heap.size::(Value.slice ae j ce).ownBlock.toList),w3.heap.size<=b:=λb hb=>by
     rcases bg.1 hb with rfl | hb
     ·exact ah _
     ·exact eC (HVB.out b (by simpa using hb))
    have hew:cD (recs.take (j+1))=cD (recs.take j)++[(z:Int)]:=by
     have e:recs.take (j+1)=recs.take j++[recs[j]]:=(bf hlt).symm;have hz2:=HZ.out;rw [e] at hz2;rw [e,ij,hz2]
    refine ⟨j+1,.slice a5 (j+1) c5,by omega,by simp,by rw [HZ.out],aR HL5.out 5 _,?_,hgt5,?_,?_⟩
    ·rw [hew];exact bu HO5.out (S:=[w3.heap.size]) ((Only.ofBelow (az _ _) _).setCell (by simp) _) (λb hb=>by have:=hgt5 b hb;simp;omega)
    ·exact HL.out.keep hon (λb hb=>.inr (aD HWA.out.2 (hge b hb)))
    ·exact HBL3.out.trans (hon.below (eC hlw) hge)
  ·have hj2:j=recs.length:=by omega
   subst hj2;go_wp2_with fail
   go_ret2
   rw [cK] at HV;have hlw:w3.heap.size<wr.heap.size:=aQ HC.out;obtain ⟨us,hu,hru,hone,him,hut,hux⟩:=HL.out;have hvr:=λb hb=>World.ownsRow.lt hru b hb;have hve:=λb hb=>HV.out.lt b hb;have hge:∀b∈(w3.heap.size::((Value.slice ao3 recs.length c3).ownBlock.toList++ve.ownBlock.toList)),w.heap.size<=b/\b<wr.heap.size/\(b<wa.heap.size\/w3.heap.size<=b)/\∃cur t,t≠5/\wr.heap[b]? = some (.cells cur t (0,0)):=λb hb=>by
    rcases bg.1 hb with rfl | hb
    ·exact ⟨aD HWA.out.1 HWA.out.2,hlw,.inr (ah _),_,103,by simp,HC.out⟩
    ·rcases ap.1 hb with hb | hb
     ·have hb2:(Value.slice ao3 recs.length c3).ownBlock=some b:=by simpa using hb
      exact ⟨(hvr b hb2).1,(hvr b hb2).2,.inl (hut b hb2),_,31,by simp,cV (dP hru (aH _)) hb2⟩
     ·have hb2:ve.ownBlock=some b:=by simpa using hb
      exact ⟨aD (aD HWA.out.1 HWA.out.2) (eC (HVB.out b hb2)),(hve b hb2).2,.inr (eC (HVB.out b hb2)),_,3,by simp,cV HV.out hb2⟩
   have hDlt:∀b∈D',b<w3.heap.size/\(b<w.heap.size\/wa.heap.size<=b):=λb hb=>⟨HD3.out.lt b hb,(HM3.out.gr b hb).imp (λh=>HD.out.lt b h) id⟩
   refine ⟨⟨w3.heap.size,D',_,rfl,λA hA=>⟨⟨⟨_,_,HC.out,⟨⟨us,hu,dP hru (aH _),λi hi=>?_⟩,HV.out,λb hb=>?_,λb hb=>?_⟩⟩,cz,λb hb=>(hge b hb).2.1⟩,HD3.out.below HBL3.out,λb hb hb2=>?_,λb hb=>aO _ (aG _ hb),λb hb=>aO _ (aO _ hb),λb hb=>?_⟩,λb hb=>(hge b hb).1,((Moves.of_below HB3.out).trans HM3.out).trans (Moves.of_below HBL3.out)⟩⟩
   ·obtain ⟨ao4,c4,e4,h1,h2,h3⟩:=gz (him i hi);refine ⟨ao4,c4,e4,h1,h2,λp hp=>⟨λhm=>?_,(h3 p hp).2⟩⟩;have hb4:(us.getD i undef).ownBlock=some p.block:=by rw [e4,hp];rfl
    rcases ap.1 hm with hm | hm
    ·have:=hA _ hm;have:=(h3 p hp).1;omega
    rcases ap.1 hm with hm | hm
    ·have h7:=hDlt _ hm;have:=(h3 p hp).1;have:=hux i p.block hb4;omega
    ·obtain ⟨_,_,_,cur,t,ht,hc⟩:=hge _ hm;have h6:=cV (dP (him i hi) (aH _)) hb4;rw [hc] at h6;simp at h6;exact ht h6
   ·exact aU _ (aG _ (by simp [hb]))
   ·exact aU _ (aO _ (by simp [hb]))
   ·have h7:=hDlt _ hb;have h8:=hge _ hb2;have:=HWA.out;omega
   ·rcases ap.1 hb with hb | hb
    ·exact aE (hA _ hb) (aD (aD HWA.out.1 HWA.out.2) HBL3.out.size)
    rcases ap.1 hb with hb | hb
    ·exact aE (hDlt _ hb).1 HBL3.out.size
    ·exact (hge _ hb).2.1
end
structure Torn (k:Dk) (ls:List (List UInt8)):Prop where
 ex:(k.file=none/\ls=[])\/∃sf r j,k.file=some (F.aL ls++(F.bV r).take j,sf)/\r.length<=20000/\j<12+r.length/\sf<=(F.aL ls++(F.bV r).take j).length
def eJ (k:Dk) (ls:List (List UInt8)):Dk:=match k.file with | none=>k | some (_,sf)=>{ k with file:=some (F.aL ls,min sf (F.aL ls).length)}
theorem vT {w:World} {D:List Nat} {d:Nat} {k:Dk} {ls:List (List UInt8)} (h:IsDk w D d k) (ho:k.off=false) (ht:Torn k ls) (hr:∀r∈ls,r.length<=20000) (hl:k.total<=1048576) :
  Calls Tryz.prog 34 #[.pointer (some ⟨d,0,none⟩)] w λe w'=>OpenQ w w' D d e ls (eJ k ls):=by
 rcases ht.ex with ⟨hf,rfl⟩ | ⟨sf,r,j,hf,hrl,hj,hsf⟩
 ·have e:eJ k []=k:=by unfold eJ;rw [hf]
  rw [e];exact (vS h ho hf).mono λe w' h=>h.q
 ·have e:eJ k ls={ k with file:=some (F.aL ls,min sf (F.aL ls).length)}:=by unfold eJ;rw [hf]
  rw [e];have hs:=F.pN ls r j hr hrl hj;have hl2:(F.aL ls++(F.bV r).take j).length<=1048576:=by
   unfold Dk.total at hl;rw [hf] at hl;exact hl
  have hfl:(F.aL ls).length<=1048576:=by rw [ay] at hl2;omega
  have hmany:ls.length<=1000000:=by
   have:12*ls.length<=(F.aL ls).length:=by
    exact ii ls
   omega
  by_cases h0:j=0
  ·subst h0;rw [aA rfl] at hs;rw [List.take_zero,eo] at hs hf hsf hl2;have h1:=tv h ho hf hl2 (by rw [hs];simp) (by rw [hs]) (by rw [hs];exact hr) (by rw [hs];exact hfl) (by rw [hs];exact hmany);rw [hs] at h1;have e2:({ k with file:=some (F.aL ls,min sf (F.aL ls).length)}:Dk)=k:=by
    rw [bi hsf,<-hf]
   rw [e2];exact h1.mono λe w' h=>h.q
  ·rw [aw h0] at hs;have hjl:((F.bV r).take j).length=j:=by rw [aI,F.cX];omega
   have h1:=yH h ho hf hl2 hsf (by rw [hs];simp) (by rw [hs,ay,hjl];simp;omega) (by rw [hs];exact hr) (by rw [hs];exact hfl) (by rw [hs];exact hmany);rw [hs] at h1;simp only [List.take_left] at h1;exact h1
theorem pC {p:Prop} (h:p:=by
 have am:=HB4.out.bel;refine DC 14 (by (repeat apply Nth.s)<;>exact Nth.z) (λw hSw=>tY rfl _ (by rfl) (BN own n d l k.lives gv gn gm gh w)) ?_;refine cC 15 λK hK=>?_;go_simp
 refine hK.out _ _ (HB4.out.bel.alloc HB4.out.siz _) (λam=>?_);clear hK K;refine bH ?_;refine aB 16 ?_;refine fI ?_;clear am;go_wp2_with fail
 go_meet
 exact ⟨_,gv,gn,gm,gh,rfl,HFIN.out _ _ _ _ _ HB4.out⟩):p:=h
theorem sP {p:Prop} (h:p:=by
 have am:=HB3.out.bel;refine cC 13 λK hK=>?_;go_simp
 refine hK.out _ _ HB3.out.h'.bel (λam=>?_);clear hK K;refine bH ?_;have HB4:=ab HB3.out.h';clear am;generalize V3.heap.size=gh at *;generalize V3.alloc (oH n)=V4 at *;exact pC):p:=h
theorem sN {p:Prop} (h:p:=by
 have am:=HB3.out.bel;refine cC 11 λK hK=>?_;go_simp
 refine hK.out _ _ HB3.out.m'.bel (λam=>?_);clear hK K;refine bH ?_;have HB4:=ab HB3.out.m';clear am;generalize V3.heap.size=gm at *;generalize V3.alloc (oN n)=V4 at *;exact pC):p:=h
theorem sM {p:Prop} (h:p:=by
 have am:=HB3.out.bel;refine cC 9 λK hK=>?_;go_simp
 refine hK.out _ _ HB3.out.a'.bel (λam=>?_);clear hK K;refine bH ?_;have HB4:=ab HB3.out.a';clear am;generalize V3.heap.size=gn at *;generalize V3.alloc (oN n)=V4 at *;exact pC):p:=h
theorem sL {p:Prop} (h:p:=by
 have am:=HB3.out.bel;refine cC 7 λK hK=>?_;go_simp
 refine hK.out _ _ HB3.out.v'.bel (λam=>?_);clear hK K;refine bH ?_;have HB4:=ab HB3.out.v';clear am;generalize V3.heap.size=gv at *;generalize V3.alloc (oV n)=V4 at *;exact pC):p:=h
theorem xJ {p:Prop} (h:p:=by
 generalize V1.alloc (oN n)=V2 at *;have am:=HB2.out.bel;refine j5 7 13 (λK hK=>?_) λK hK=>?_
 ·go_simp
  refine hK.out _ _ HB2.out.v'.bel (λam=>?_);clear hK K;refine bH ?_;have HB3:=ab HB2.out.v';clear am;generalize V2.heap.size=gv at *;generalize V2.alloc (oV n)=V3 at *;exact sP
 ·go_simp
  refine hK.out _ _ HB2.out.h'.bel (λam=>?_);clear hK K;refine bH ?_;have HB3:=ab HB2.out.h';clear am;generalize V2.heap.size=gh at *;generalize V2.alloc (oH n)=V3 at *;exact sL):p:=h
theorem xI {p:Prop} (h:p:=by
 have am:=HB2.out.bel;refine j5 11 13 (λK hK=>?_) λK hK=>?_
 ·go_simp
  refine hK.out _ _ HB2.out.m'.bel (λam=>?_);clear hK K;refine bH ?_;have HB3:=ab HB2.out.m';clear am;generalize V2.heap.size=gm at *;generalize V2.alloc (oN n)=V3 at *;exact sP
 ·go_simp
  refine hK.out _ _ HB2.out.h'.bel (λam=>?_);clear hK K;refine bH ?_;have HB3:=ab HB2.out.h';clear am;generalize V2.heap.size=gh at *;generalize V2.alloc (oH n)=V3 at *;exact sN):p:=h
theorem xH {p:Prop} (h:p:=by
 have am:=HB2.out.bel;refine j5 9 13 (λK hK=>?_) λK hK=>?_
 ·go_simp
  refine hK.out _ _ HB2.out.a'.bel (λam=>?_);clear hK K;refine bH ?_;have HB3:=ab HB2.out.a';clear am;generalize V2.heap.size=gn at *;generalize V2.alloc (oN n)=V3 at *;exact sP
 ·go_simp
  refine hK.out _ _ HB2.out.h'.bel (λam=>?_);clear hK K;refine bH ?_;have HB3:=ab HB2.out.h';clear am;generalize V2.heap.size=gh at *;generalize V2.alloc (oH n)=V3 at *;exact sM):p:=h
theorem xG {p:Prop} (h:p:=by
 have am:=HB2.out.bel;refine j5 9 11 (λK hK=>?_) λK hK=>?_
 ·go_simp
  refine hK.out _ _ HB2.out.a'.bel (λam=>?_);clear hK K;refine bH ?_;have HB3:=ab HB2.out.a';clear am;generalize V2.heap.size=gn at *;generalize V2.alloc (oN n)=V3 at *;exact sN
 ·go_simp
  refine hK.out _ _ HB2.out.m'.bel (λam=>?_);clear hK K;refine bH ?_;have HB3:=ab HB2.out.m';clear am;generalize V2.heap.size=gm at *;generalize V2.alloc (oN n)=V3 at *;exact sM):p:=h
theorem xF {p:Prop} (h:p:=by
 have am:=HB2.out.bel;refine j5 7 11 (λK hK=>?_) λK hK=>?_
 ·go_simp
  refine hK.out _ _ HB2.out.v'.bel (λam=>?_);clear hK K;refine bH ?_;have HB3:=ab HB2.out.v';clear am;generalize V2.heap.size=gv at *;generalize V2.alloc (oV n)=V3 at *;exact sN
 ·go_simp
  refine hK.out _ _ HB2.out.m'.bel (λam=>?_);clear hK K;refine bH ?_;have HB3:=ab HB2.out.m';clear am;generalize V2.heap.size=gm at *;generalize V2.alloc (oN n)=V3 at *;exact sL):p:=h
theorem uj {p:Prop} (h:p:=by
 have am:=HB2.out.bel;refine j5 7 9 (λK hK=>?_) λK hK=>?_
 ·go_simp
  refine hK.out _ _ HB2.out.v'.bel (λam=>?_);clear hK K;refine bH ?_;have HB3:=ab HB2.out.v';clear am;generalize V2.heap.size=gv at *;generalize V2.alloc (oV n)=V3 at *;exact sM
 ·go_simp
  refine hK.out _ _ HB2.out.a'.bel (λam=>?_);clear hK K;refine bH ?_;have HB3:=ab HB2.out.a';clear am;generalize V2.heap.size=gn at *;generalize V2.alloc (oN n)=V3 at *;exact sL):p:=h
theorem wv (n:Nat) (hn:n<=5) (w:World):(Instr.makeSlice 74 (.int .i64 (n:Int)) (.int .i64 (n:Int))).run Tryz.prog w = .ok (.slice (some ⟨w.heap.size,0,none⟩) n n) (w.alloc (.cells (iB (List.replicate n 0)) 3)):=by
 have h:=run_make_row' (P:=Tryz.prog) 74 3 (.int .i64 0) 8 Tryz.underlying74 F.info3 rfl .i64 .i64 n (by omega) (by omega) w;rw [h];have e:madeCells #[Value.int .i64 0] n=iB (List.replicate n 0):=by
  apply Array.ext';rw [toList_madeCells_one];simp [iB]
 rw [e]
theorem Bv:(Tryz.prog.info? 117).map (λi=>(i.zero,i.size,i.bytes))=some (some (.agg #[.int .i64 0,.int .i64 0,.int .i64 0]),3,24):=by kernel_rfl
theorem tR:∀n,n<=5->madeCells (Value.agg #[.int .i64 0,.int .i64 0,.int .i64 0]).cells (n*3)=eS (List.replicate n (0,0,0))
 | 0,_=>by kernel_rfl
 | 1,_=>by kernel_rfl
 | 2,_=>by kernel_rfl
 | 3,_=>by kernel_rfl
 | 4,_=>by kernel_rfl
 | 5,_=>by kernel_rfl
 | n+6,h=>by omega
theorem tF (n:Nat) (hn:n<=5) (w:World):(Instr.makeSlice 75 (.int .i64 (n:Int)) (.int .i64 (n:Int))).run Tryz.prog w = .ok (.slice (some ⟨w.heap.size,0,none⟩) n n) (w.alloc (.cells (eS (List.replicate n (0,0,0))) 117)):=by
 obtain ⟨i0,hi0,hz0,hz1,hz2⟩:=info_parts Bv;have h:=run_make (P:=Tryz.prog) w 75 117 i0 _ Tryz.underlying75 hi0 hz0 .i64 .i64 (n:Int) (n:Int) (by omega) (by omega) (by rw [hz2];omega) (by omega);rw [h,ed,hz1];have e:=tR n hn;rw [e]
def dg (own n:Nat) (lives:Int) (recs:List (List UInt8)):Rp :=
  { own:=own,n:=n,wl:=⟨lives,false,recs⟩,lives:=lives,done:=false,term:=0,choice := -1,log:=[],agreed:=0,many:=0,leads:=false,
    votes:=List.replicate n false,next:=List.replicate n 0,mat:=List.replicate n 0,ticks:=0,clock:=0,heard:=List.replicate n (0,0,0)}
theorem BN (own n:Nat) (d l:Nat) (lives:Int) (gv gn gm gh:Nat) (w:World):(Instr.build 78 #[(0,.int .i64 (own:Int)),(1,.int .i64 (n:Int)),(2,.pointer (some ⟨d,0,none⟩)),(3,.pointer (some ⟨l,0,none⟩)),(4,.int .i64 lives),(7,.int .i64 (-1)),(12,.slice (some ⟨gv,0,none⟩) n n),(13,.slice (some ⟨gn,0,none⟩) n n),(14,.slice (some ⟨gm,0,none⟩) n n),(17,.slice (some ⟨gh,0,none⟩) n n)]).run Tryz.prog w =
 .ok (.agg #[.int .i64 (own:Int),.int .i64 (n:Int),.pointer (some ⟨d,0,none⟩),.pointer (some ⟨l,0,none⟩),.int .i64 lives,.bool false,.int .i64 0,.int .i64 (-1),.slice none 0 0,.int .i64 0,.int .i64 0,.bool false,.slice (some ⟨gv,0,none⟩) n n,.slice (some ⟨gn,0,none⟩) n n,.slice (some ⟨gm,0,none⟩) n n,.int .i64 0,.int .i64 0,.slice (some ⟨gh,0,none⟩) n n]) w:=run_build w 78 _ _ (by kernel_rfl)
@[reducible] def oV (n:Nat):Obj:=.cells (dq (List.replicate n false)) 4
@[reducible] def oN (n:Nat):Obj:=.cells (iB (List.replicate n 0)) 3
@[reducible] def oH (n:Nat):Obj:=.cells (eS (List.replicate n (0,0,0))) 117
structure Mk4 (B n:Nat) (W V:World) (v a m h:Option Nat):Prop where
 bel:Below B W V
 siz:B<=V.heap.size
 fv:∀g,v=some g->V.heap[g]? = some (oV n)/\B<=g
 fa:∀g,a=some g->V.heap[g]? = some (oN n)/\B<=g
 fm:∀g,m=some g->V.heap[g]? = some (oN n)/\B<=g
 fh:∀g,h=some g->V.heap[g]? = some (oH n)/\B<=g
 ne:∀x y,a=some x->m=some y->x≠y
section
variable {B n:Nat} {W V:World} {v a m h:Option Nat}
theorem Mk4.v' (k:Mk4 B n W V none a m h):Mk4 B n W (V.alloc (oV n)) (some V.heap.size) a m h :=
 ⟨k.bel.alloc k.siz _,aD k.siz (by simp),λg e=>by cases e;exact ⟨aK _ _,k.siz⟩,λg e=>⟨bb (k.fa g e).1 _,(k.fa g e).2⟩,λg e=>⟨bb (k.fm g e).1 _,(k.fm g e).2⟩,λg e=>⟨bb (k.fh g e).1 _,(k.fh g e).2⟩,k.ne⟩
theorem Mk4.a' (k:Mk4 B n W V v none m h):Mk4 B n W (V.alloc (oN n)) v (some V.heap.size) m h :=
 ⟨k.bel.alloc k.siz _,aD k.siz (by simp),λg e=>⟨bb (k.fv g e).1 _,(k.fv g e).2⟩,λg e=>by cases e;exact ⟨aK _ _,k.siz⟩,λg e=>⟨bb (k.fm g e).1 _,(k.fm g e).2⟩,λg e=>⟨bb (k.fh g e).1 _,(k.fh g e).2⟩,λx y e f=>by cases e;exact (Nat.ne_of_lt (aQ (k.fm y f).1)).symm⟩
theorem Mk4.m' (k:Mk4 B n W V v a none h):Mk4 B n W (V.alloc (oN n)) v a (some V.heap.size) h :=
 ⟨k.bel.alloc k.siz _,aD k.siz (by simp),λg e=>⟨bb (k.fv g e).1 _,(k.fv g e).2⟩,λg e=>⟨bb (k.fa g e).1 _,(k.fa g e).2⟩,λg e=>by cases e;exact ⟨aK _ _,k.siz⟩,λg e=>⟨bb (k.fh g e).1 _,(k.fh g e).2⟩,λx y e f=>by cases f;exact Nat.ne_of_lt (aQ (k.fa x e).1)⟩
theorem Mk4.h' (k:Mk4 B n W V v a m none):Mk4 B n W (V.alloc (oH n)) v a m (some V.heap.size) :=
 ⟨k.bel.alloc k.siz _,aD k.siz (by simp),λg e=>⟨bb (k.fv g e).1 _,(k.fv g e).2⟩,λg e=>⟨bb (k.fa g e).1 _,(k.fa g e).2⟩,λg e=>⟨bb (k.fm g e).1 _,(k.fm g e).2⟩,λg e=>by cases e;exact ⟨aK _ _,k.siz⟩,k.ne⟩
end
@[reducible] def oR (own n d l:Nat) (lives:Int) (gv gn gm gh:Nat):Obj:=.cells #[.int .i64 (own:Int),.int .i64 (n:Int),.pointer (some ⟨d,0,none⟩),.pointer (some ⟨l,0,none⟩),.int .i64 lives,.bool false,.int .i64 0,.int .i64 (-1),.slice none 0 0,.int .i64 0,.int .i64 0,.bool false,.slice (some ⟨gv,0,none⟩) n n,.slice (some ⟨gn,0,none⟩) n n,.slice (some ⟨gm,0,none⟩) n n,.int .i64 0,.int .i64 0,.slice (some ⟨gh,0,none⟩) n n] 78
structure OpenF (W wx:World) (s:Rp) (l d r gv gn gm gh:Nat):Prop where
 cell:wx.heap[r]? = some (.cells (et d l s (.slice none 0 0) gv gn gm gh) 78 (0,0))
 votes:wx.heap[gv]? = some (.cells (dq s.votes) 4 (0,0))
 next:wx.heap[gn]? = some (.cells (iB s.next) 3 (0,0))
 mat:wx.heap[gm]? = some (.cells (iB s.mat) 3 (0,0))
 heard:wx.heap[gh]? = some (.cells (eS s.heard) 117 (0,0))
 nm:gn≠gm
 ge:∀b∈[r,gv,gn,gm,gh],W.heap.size<=b
 below:Below W.heap.size W wx
theorem OpenF.nd {w W wx:World} {s:Rp} {A D D1 L:List Nat} {l d r gv gn gm gh:Nat} {k:Dk} (h:OpenF W wx s l d r gv gn gm gh) (hl:s.log=[]) (hA:∀b∈A,b<w.heap.size) (hD:∀b∈D,b∈A)
  (hwd:WD W (A++(D1++L)) D1 L l d s.wl k) (hL:∀b∈L,w.heap.size<=b) (hm:Moves D D1 w W) :
  ∃A' X',Nd wx A' X' r d l s k/\Mv A A' D X' w wx:=by
 have hlt:∀b∈[r,gv,gn,gm,gh],b<wx.heap.size:=λb hb=>by
  simp only [bg,gp,or_false] at hb;rcases hb with rfl | rfl | rfl | rfl | rfl
  ·exact aQ h.cell
  ·exact aQ h.votes
  ·exact aQ h.next
  ·exact aQ h.mat
  ·exact aQ h.heard
 have hext:Ext (A++(D1++L)) ((A++(D1++L))++[r,gv,gn,gm,gh]) W:=λb hb=>by
  rcases ap.1 hb with h1 | h1
  ·exact .inl h1
  ·exact .inr (h.ge b h1)
 have ho:Only [] W wx:=Only.ofBelow h.below [];have hw2:WD wx ((A++(D1++L))++[r,gv,gn,gm,gh]) D1 L l d s.wl k :=
  ⟨hwd.wl.keep ho (λb _=>by simp) (λb hb=>by cases hb) hext,hwd.dk.below h.below,hwd.dis,λb hb=>aG _ (hwd.dA b hb),λb hb=>aG _ (hwd.lA b hb),λb hb=>by
   rcases ap.1 hb with h1 | h1
   ·exact aE (hwd.alt b h1) h.below.size
   ·exact hlt b h1⟩
 have hdis:∀S:List Nat,(∀b∈S,b<W.heap.size)->Dis [r,gv,gn,gm,gh] S:=λS hS b hb hs=>by
  have:=h.ge b hb;have:=hS b hs;omega
 have hn:NdC wx ((A++(D1++L))++[r,gv,gn,gm,gh]) D1 L [r,gv,gn,gm,gh] r d l s k (.slice none 0 0) gv gn gm gh :=
  ⟨hw2,h.cell,.inl ⟨rfl,hl⟩,h.votes,h.next,h.mat,h.heard,h.nm,by simp,by simp,by simp,by simp,by simp,hdis _ (λb hb=>hwd.alt b (hwd.dA b hb)),hdis _ (λb hb=>hwd.alt b (hwd.lA b hb)),λb hb=>aO _ hb⟩
 refine ⟨_,D1++(L++[r,gv,gn,gm,gh]),hn.nd (λb=>by simp [ap]),⟨⟨hm.only.trans (Only.ofBelow h.below D),λb hb=>?_,λb hb=>aG _ (hm.sub b hb)⟩,λb hb=>?_,λb hb=>aG _ (aG _ hb)⟩⟩
 ·rcases ap.1 hb with h1 | h1
  ·exact hm.gr b h1
  ·rcases ap.1 h1 with h1 | h1
   ·exact .inr (hL b h1)
   ·exact .inr (aD hm.only.size (h.ge b h1))
 ·rcases ap.1 hb with h1 | h1
  ·rcases ap.1 h1 with h1 | h1
   ·exact .inl h1
   ·rcases ap.1 h1 with h1 | h1
    ·rcases hm.gr b h1 with h2 | h2
     ·exact .inl (hD b h2)
     ·exact .inr h2
    ·exact .inr (hL b h1)
  ·exact .inr (aD hm.only.size (h.ge b h1))
section
variable {w w':World} {A A' X X' D:List Nat} {r d l:Nat} {s s':Rp} {k k':Dk}
set_option maxHeartbeats 8000000 in
theorem na (h:IsDk w D d k) (ho:k.off=false) (own n:Nat) (hn5:n<=5) (hown:own<n) (ns:List Note) (ht:Torn k (ns.map Note.bytes)) (hr:∀x∈ns.map Note.bytes,x.length<=20000) (htot:k.total<=1048576)
  (hok:cQ (dg own n k.lives (ns.map Note.bytes)) ns) (hb:ns.length<=100000) (hA:∀b∈A,b<w.heap.size) (hD:∀b∈D,b∈A) :
  Calls Tryz.prog 18 #[.int .i64 (own:Int),.int .i64 (n:Int),.pointer (some ⟨d,0,none⟩)] w λe w'=>∃r l A' X',e = .returned (.tuple #[.pointer (some ⟨r,0,none⟩),.int .i64 0])/\Nd w' A' X' r d l (cA (dg own n k.lives (ns.map Note.bytes)) ns) (eJ k (ns.map Note.bytes))/\Mv A A' D X' w w':=by
 have HLV:Hid ((eJ k (ns.map Note.bytes)).lives=k.lives/\(eJ k (ns.map Note.bytes)).off=false):=ab (by unfold eJ;split<;>exact ⟨rfl,ho⟩);have HO:=ab (vT h ho ht hr htot);have HREC:Hid (∀W A2 X2 r l,Nd W A2 X2 r d l (dg own n k.lives (ns.map Note.bytes)) (eJ k (ns.map Note.bytes))->Calls Tryz.prog 36 #[.pointer (some ⟨r,0,none⟩)] W λe w'=>e = .returned (.bool true)/\NdP W w' A2 X2 r d l (cA (dg own n k.lives (ns.map Note.bytes)) ns) (eJ k (ns.map Note.bytes))):=ab (λW A2 X2 r l h2 =>
  th h2 ns rfl hok (aX _) (by show (0:Int)<=_;decide) hn5 rfl hb hr (by unfold kS;rw [HLV.out.1,HLV.out.2];simp [dg]))
 have HA:=ab hA;have HD:=ab hD;have HFT:Hid ((dg own n k.lives (ns.map Note.bytes)).votes=List.replicate n false/\(dg own n k.lives (ns.map Note.bytes)).next=List.replicate n 0/\(dg own n k.lives (ns.map Note.bytes)).mat=List.replicate n 0/\(dg own n k.lives (ns.map Note.bytes)).heard=List.replicate n (0,0,0)/\(dg own n k.lives (ns.map Note.bytes)).log=[]/\(dg own n k.lives (ns.map Note.bytes)).wl=⟨k.lives,false,ns.map Note.bytes⟩):=ab ⟨rfl,rfl,rfl,rfl,rfl,rfl⟩;have HRP:Hid (∀l gv gn gm gh,et d l (dg own n k.lives (ns.map Note.bytes)) (.slice none 0 0) gv gn gm gh=#[.int .i64 (own:Int),.int .i64 (n:Int),.pointer (some ⟨d,0,none⟩),.pointer (some ⟨l,0,none⟩),.int .i64 k.lives,.bool false,.int .i64 0,.int .i64 (-1),.slice none 0 0,.int .i64 0,.int .i64 0,.bool false,
  .slice (some ⟨gv,0,none⟩) n n,.slice (some ⟨gn,0,none⟩) n n,.slice (some ⟨gm,0,none⟩) n n,.int .i64 0,.int .i64 0,.slice (some ⟨gh,0,none⟩) n n]):=ab (λ_ _ _ _ _=>rfl)
 have g1:¬(n:Int)<1:=by omega
 have g2:¬(5:Int)<(n:Int):=by omega
 have g3:¬(own:Int)<0:=by omega
 have g4:¬(n:Int)<=(own:Int):=by omega
 have hn5':=ab hn5;clear h ho ht hr htot hok hb hA hD hown hn5;generalize dg own n k.lives (ns.map Note.bytes)=s0 at *;generalize eJ k (ns.map Note.bytes)=k1 at *;generalize ns.map Note.bytes=recs at *;go_enter Tryz.func18,Tryz.ntmps18
 go_wp2_with fail
 refine HO.out.mono ?_;rintro e W ⟨l,D1,L,rfl,hwd,hL,hm1⟩;have HWD:=ab (hwd A HA.out);have HL:=ab hL;have HM1:=ab hm1;have HDK:=ab (hwd [] (λb hb=>by cases hb)).dk;clear hwd hL hm1;obtain ⟨B,hB⟩:∃B,B=W.drew.heap.size:=⟨_,rfl⟩
 have HS:Hid (∀w',Below B W.drew w'->Calls Tryz.prog 35 #[.pointer (some ⟨d,0,none⟩)] w' λe w2=>e = .returned (.int .i64 k.lives)/\w'=w2):=ab (λw' hb=>by
  rw [hB] at hb;have h:=fE ((HDK.out.below (ak W 1)).below hb);rw [HLV.out.1] at h;exact h)
 have HB0:Hid (Mk4 B n W.drew W.drew none none none none):=ab ⟨by rw [hB];exact az _ _,by rw [hB];exact ah _,(λg e=>by cases e),(λg e=>by cases e),(λg e=>by cases e),(λg e=>by cases e),(λx y e=>by cases e)⟩;have HFIN:Hid (∀(V:World) (gv gn gm gh:Nat),Mk4 B n W.drew V (some gv) (some gn) (some gm) (some gh)->OpenF W (V.alloc (oR own n d l k.lives gv gn gm gh)) s0 l d V.heap.size gv gn gm gh):=ab (λV gv gn gm gh h=>by
  have hB2:B=W.heap.size:=hB;obtain ⟨f1,f2,f3,f4,_⟩:=HFT.out;refine ⟨by rw [HRP.out];exact aK _ _,by rw [f1];exact bb (h.fv _ rfl).1 _,by rw [f2];exact bb (h.fa _ rfl).1 _,by rw [f3];exact bb (h.fm _ rfl).1 _,by rw [f4];exact bb (h.fh _ rfl).1 _,h.ne _ _ rfl rfl,λb hm=>?_,?_⟩
  · have:=h.siz;have:=(h.fv _ rfl).2;have:=(h.fa _ rfl).2;have:=(h.fm _ rfl).2;have:=(h.fh _ rfl).2;simp only [bg,gp,or_false] at hm;rcases hm with rfl | rfl | rfl | rfl | rfl<;>omega
  · have h9:=h.bel.alloc h.siz (oR own n d l k.lives gv gn gm gh);rw [hB2] at h9;exact (ak W 1).trans h9)
 clear hB;have hmk1:=nA n hn5'.out;have hmk2:=wv n hn5'.out;have hmk3:=tF n hn5'.out;go_upto_region 6 with (fail)
 go_cut [10] (λv wx=>∃r gv gn gm gh,v = .pointer (some ⟨r,0,none⟩)/\OpenF W wx s0 l d r gv gn gm gh)
 case first =>
  as_aux_lemma =>
  refine wp_region_held_drew (S:=λw'=>Below B W.drew w') (by kernel_rfl) HB0.out.bel (λam=>?_);refine aB 0 ?_;refine aB 1 ?_;refine aB 2 ?_;refine aB 3 ?_;refine aB 4 ?_;refine fP (i:=5) (oi:={ dst:=some 39,op:=Op.call { callee:=Callee.value (Operand.func 35),args:=#[Operand.tmp 38],argTypes:=#[50]},type:=3,pos:=_,after:=#[{ on:=4,ground:=Ground.data }],guard:=none }) (v:=(.int .i64 k.lives)) rfl (by kernel_rfl) (by kernel_rfl) (by kernel_rfl) (λ_ _ _ h=>h) (by rfl) 35 #[.pointer (some ⟨d,0,none⟩)] (λw hSw=>by simp [execOp,resolve,invoke,Act.eval,Deferred.ofValue,Result.andThen]) (λw hSw=>HS.out w hSw) (by exact am) ?_;refine bH ?_;refine aB 6 ?_;refine aB 8 ?_;refine aB 10 ?_;refine aB 12 ?_;generalize W.drew=V0 at *;refine DD 7 9 11 13 (λK hK=>?_) (λK hK=>?_) (λK hK=>?_) λK hK=>?_
  ·go_simp
   refine hK.out _ _ HB0.out.v'.bel (λam=>?_);clear hK K;refine bH ?_;have HB1:=ab HB0.out.v';clear am;generalize V0.heap.size=gv at *;generalize V0.alloc (oV n)=V1 at *;have am:=HB1.out.bel;refine CW 9 11 13 (λK hK=>?_) (λK hK=>?_) λK hK=>?_
   ·go_simp
    refine hK.out _ _ HB1.out.a'.bel (λam=>?_);clear hK K;refine bH ?_;have HB2:=ab HB1.out.a';clear am;generalize V1.heap.size=gn at *;generalize V1.alloc (oN n)=V2 at *;exact xI
   ·go_simp
    refine hK.out _ _ HB1.out.m'.bel (λam=>?_);clear hK K;refine bH ?_;have HB2:=ab HB1.out.m';clear am;generalize V1.heap.size=gm at *;generalize V1.alloc (oN n)=V2 at *;exact xH
   ·go_simp
    refine hK.out _ _ HB1.out.h'.bel (λam=>?_);clear hK K;refine bH ?_;have HB2:=ab HB1.out.h';clear am;generalize V1.heap.size=gh at *;generalize V1.alloc (oH n)=V2 at *;exact xG
  ·go_simp
   refine hK.out _ _ HB0.out.a'.bel (λam=>?_);clear hK K;refine bH ?_;have HB1:=ab HB0.out.a';clear am;generalize V0.heap.size=gn at *;generalize V0.alloc (oN n)=V1 at *;have am:=HB1.out.bel;refine CW 7 11 13 (λK hK=>?_) (λK hK=>?_) λK hK=>?_
   ·go_simp
    refine hK.out _ _ HB1.out.v'.bel (λam=>?_);clear hK K;refine bH ?_;have HB2:=ab HB1.out.v';clear am;generalize V1.heap.size=gv at *;generalize V1.alloc (oV n)=V2 at *;exact xI
   ·go_simp
    refine hK.out _ _ HB1.out.m'.bel (λam=>?_);clear hK K;refine bH ?_;have HB2:=ab HB1.out.m';clear am;generalize V1.heap.size=gm at *;exact xJ
   ·go_simp
    refine hK.out _ _ HB1.out.h'.bel (λam=>?_);clear hK K;refine bH ?_;have HB2:=ab HB1.out.h';clear am;generalize V1.heap.size=gh at *;generalize V1.alloc (oH n)=V2 at *;exact xF
  ·go_simp
   refine hK.out _ _ HB0.out.m'.bel (λam=>?_);clear hK K;refine bH ?_;have HB1:=ab HB0.out.m';clear am;generalize V0.heap.size=gm at *;generalize V0.alloc (oN n)=V1 at *;have am:=HB1.out.bel;refine CW 7 9 13 (λK hK=>?_) (λK hK=>?_) λK hK=>?_
   ·go_simp
    refine hK.out _ _ HB1.out.v'.bel (λam=>?_);clear hK K;refine bH ?_;have HB2:=ab HB1.out.v';clear am;generalize V1.heap.size=gv at *;generalize V1.alloc (oV n)=V2 at *;exact xH
   ·go_simp
    refine hK.out _ _ HB1.out.a'.bel (λam=>?_);clear hK K;refine bH ?_;have HB2:=ab HB1.out.a';clear am;generalize V1.heap.size=gn at *;exact xJ
   ·go_simp
    refine hK.out _ _ HB1.out.h'.bel (λam=>?_);clear hK K;refine bH ?_;have HB2:=ab HB1.out.h';clear am;generalize V1.heap.size=gh at *;generalize V1.alloc (oH n)=V2 at *;exact uj
  ·go_simp
   refine hK.out _ _ HB0.out.h'.bel (λam=>?_);clear hK K;refine bH ?_;have HB1:=ab HB0.out.h';clear am;generalize V0.heap.size=gh at *;generalize V0.alloc (oH n)=V1 at *;have am:=HB1.out.bel;refine CW 7 9 11 (λK hK=>?_) (λK hK=>?_) λK hK=>?_
   ·go_simp
    refine hK.out _ _ HB1.out.v'.bel (λam=>?_);clear hK K;refine bH ?_;have HB2:=ab HB1.out.v';clear am;generalize V1.heap.size=gv at *;generalize V1.alloc (oV n)=V2 at *;exact xG
   ·go_simp
    refine hK.out _ _ HB1.out.a'.bel (λam=>?_);clear hK K;refine bH ?_;have HB2:=ab HB1.out.a';clear am;generalize V1.heap.size=gn at *;generalize V1.alloc (oN n)=V2 at *;exact xF
   ·go_simp
    refine hK.out _ _ HB1.out.m'.bel (λam=>?_);clear hK K;refine bH ?_;have HB2:=ab HB1.out.m';clear am;generalize V1.heap.size=gm at *;generalize V1.alloc (oN n)=V2 at *;exact uj
 case rest =>
 obtain ⟨r,gv,gn,gm,gh,rfl,hf⟩:=hcut;rename World=>wx;obtain ⟨A2,X2,h2,m2⟩:=hf.nd HFT.out.2.2.2.2.1 HA.out HD.out (by rw [HFT.out.2.2.2.2.2,<-HLV.out.1];exact HWD.out) HL.out HM1.out;have H2:=ab h2;have M2:=ab m2;clear hf h2 m2 hmk1 hmk2 hmk3;go_wp2_with fail
 refine (HREC.out wx A2 X2 r l H2.out).mono ?_;rintro e w5 ⟨rfl,hn5⟩;have HN5:=ab hn5;clear hn5;go_wp2_with fail
 go_ret2
 obtain ⟨A5,X5,h5,m5⟩:=HN5.out;exact ⟨r,l,A5,X5,rfl,h5,M2.out.trans m5⟩
end
structure Nod where
 s:Rp
 k:Dk
 up:Bool
structure Mn where
 nodes:List Nod
 q:List Msg
 long:List (List UInt8)
 bad:Bool
 gn:Nat
def DB:Rp:=dg 0 1 0 []
def Dq:Nod:=⟨DB,⟨0,true,0,none⟩,false⟩
def Mn.at (S:Mn) (i:Nat):Nod:=S.nodes.getD i Dq
structure NodeAt (w:World) (A X:List Nat) (r d l:Nat) (nd:Nod):Prop where
 up:nd.up=true->Nd w A X r d l nd.s nd.k
 dn:nd.up=false->IsDk w X d nd.k
 xA:∀b∈X,b∈A
theorem Nd.keepS {w w':World} {A A' X S:List Nat} {r d l:Nat} {s:Rp} {k:Dk} (h:Nd w A X r d l s k) (ho:Only S w w') (hS:∀b∈S,b∈A) (hd:∀b∈X,b∉S) (he:Ext A A' w) (hs:∀b∈A,b∈A') (ha:∀b∈A',b<w'.heap.size):Nd w' A' X r d l s k:=by
 obtain ⟨D,L,R,vl,gv,gn,gm,gh,h,hX⟩:=h;have hD:∀b∈D,b∉S:=λb hb=>hd b ((hX b).2 (.inl hb));have hL:∀b∈L,b∉S:=λb hb=>hd b ((hX b).2 (.inr (.inl hb)));have hR:∀b∈R,b∉S:=λb hb=>hd b ((hX b).2 (.inr (.inr hb)));exact ⟨D,L,R,vl,gv,gn,gm,gh,⟨⟨h.wd.wl.keep ho hL hS he,h.wd.dk.keep ho hD,h.wd.dis,λb hb=>hs b (h.wd.dA b hb),λb hb=>hs b (h.wd.lA b hb),ha⟩,
  ho.keeps h.cell (hR _ h.rR),h.log.step ho hS he,ho.keeps h.votes (hR _ h.vR),ho.keeps h.next (hR _ h.nR),ho.keeps h.mat (hR _ h.mR),ho.keeps h.heard (hR _ h.hR),h.nm,h.rR,h.vR,h.nR,h.mR,h.hR,h.dRD,h.dRL,λb hb=>hs b (h.rA b hb)⟩,hX⟩
theorem NodeAt.keep {w w':World} {A A' X S:List Nat} {r d l:Nat} {nd:Nod} (h:NodeAt w A X r d l nd) (ho:Only S w w') (hS:∀b∈S,b∈A) (hd:∀b∈X,b∉S) (he:Ext A A' w) (hs:∀b∈A,b∈A') (ha:∀b∈A',b<w'.heap.size):NodeAt w' A' X r d l nd :=
 ⟨λhu=>(h.up hu).keepS ho hS hd he hs ha,λhu=>(h.dn hu).keep ho hd,λb hb=>hs b (h.xA b hb)⟩
def eg (p:Nat):Value:=.pointer (some ⟨p,0,none⟩)
def pV (f:Nat->Nat) (n:Nat):List Value:=(List.range n).map λi=>eg (f i)
def jU {β:Type} (f:Nat->β) (i:Nat) (x:β):Nat->β:=λj=>if j=i then x else f j
theorem cP {β:Type} (f:Nat->β) (i:Nat) (x:β):jU f i x i=x:=aA rfl
theorem co {β:Type} (f:Nat->β) {i j:Nat} (x:β) (h:j≠i):jU f i x j=f j:=aw h
def Mn.set (S:Mn) (i:Nat) (nd:Nod):Mn:={ S with nodes:=S.nodes.set i nd }
theorem Mn.at_set (S:Mn) (i j:Nat) (nd:Nod) (hi:i<S.nodes.length):(S.set i nd).at j=if j=i then nd else S.at j:=by
 unfold Mn.set Mn.at;simp only [aF,hC];by_cases h:j=i
 ·subst h;rw [aA rfl,aA rfl,aA hi];rfl
 ·rw [aw h,aw (Ne.symm h)]
theorem oS {β:Type} (f:Nat->β) (i:Nat):jU f i (f i)=f:=by
 funext j;unfold jU;split
 ·rename_i h;rw [h]
 ·rfl
section
variable {w w':World} {A A' Y Z:List Nat} {n:Nat} {Xs:Nat->List Nat}
theorem mH {X':List Nat} {i:Nat} (hi:i<n) (hz:∀b,b∈Z↔b∈Y\/∃i,i<n/\b∈Xs i) (hm:Mv A A' (Xs i) X' w w'):∃Z',(∀b,b∈Z'↔b∈Y\/∃j,j<n/\b∈jU Xs i X' j)/\Mv A A' Z Z' w w':=by
 refine ⟨Z++X',λb=>?_,⟨⟨hm.mv.only.mono (λb hb=>(hz b).2 (.inr ⟨i,hi,hb⟩)),λb hb=>?_,λb hb=>aG _ hb⟩,hm.ext,hm.sub⟩⟩
 ·rw [ap,hz b];constructor
  ·rintro ((h1 | ⟨j,hj,hb⟩) | h1)
   ·exact .inl h1
   ·by_cases e:j=i
    ·subst e;exact .inr ⟨j,hj,by rw [cP];exact hm.mv.sub b hb⟩
    ·exact .inr ⟨j,hj,by rw [co _ _ e];exact hb⟩
   ·exact .inr ⟨i,hi,by rw [cP];exact h1⟩
  ·rintro (h1 | ⟨j,hj,hb⟩)
   ·exact .inl (.inl h1)
   ·by_cases e:j=i
    ·subst e;rw [cP] at hb;exact .inr hb
    ·rw [co _ _ e] at hb;exact .inl (.inr ⟨j,hj,hb⟩)
 ·rcases ap.1 hb with h1 | h1
  ·exact .inl h1
  ·rcases hm.mv.gr b h1 with h2 | h2
   ·exact .inl ((hz b).2 (.inr ⟨i,hi,h2⟩))
   ·exact .inr h2
end
end Go.Proofs.YtnhefallmioefaaGreat
