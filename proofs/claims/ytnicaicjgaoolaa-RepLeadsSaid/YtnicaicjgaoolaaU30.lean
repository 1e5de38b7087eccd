/-
  What the proof of the law leans on: contracts of the program's functions, one behind another. No condition.
-/
import Derived.Test.YtnicaicjgaoolaaU0
import Derived.Lib.SlBytesConst
import Derived.Test.YtnicaicjgaoolaaU23
import Derived.Test.YtnicaicjgaoolaaU25
import Derived.Test.YtnicaicjgaoolaaU3
import Derived.Test.YtnicaicjgaoolaaU27
import Derived.Test.YtnicaicjgaoolaaU26
import Derived.Test.YtnicaicjgaoolaaU28
import Derived.Test.YtnicaicjgaoolaaU29
set_option linter.unusedVariables false
set_option linter.unusedSimpArgs false
namespace Go.Proofs.Ytnicaicjgaoolaa
open Go.RowKit Go.ChangeMaps Go.WideMaps Go.Maps
set_option maxRecDepth 20000
def fT (l lg:List (List UInt8)):Bool:=(l.zip lg).all λp=>p.1==p.2
def jj (l lg:List (List UInt8)):List (List UInt8):=if lg.length<l.length then l else lg
def gB (S:Mn):Nat->Nat->List (List UInt8)->Bool×List (List UInt8)
 | 0,_,lg=>(true,lg)
 | f+1,i,lg=>if (S.at i).up then (if fT (dx (S.at i).s) lg then gB S f (i+1) (jj (dx (S.at i).s) lg) else (false,lg)) else gB S f (i+1) lg
def Mn.look (S:Mn) (n:Nat):Bool×Mn:=((gB S n 0 S.long).1 && !S.bad,{ S with long:=(gB S n 0 S.long).2 })
theorem nL (l lg:List (List UInt8)):fT l lg=true↔∀i,i<l.length->i<lg.length->l.getD i []=lg.getD i []:=by
 induction l generalizing lg with
 | nil=>simp [fT]
 | cons a l ih =>
  cases lg with
  | nil=>simp [fT]
  | cons b lg =>
   have e:fT (a::l) (b::lg)=((a==b)&&fT l lg):=rfl;rw [e,bk,ih,cH];constructor
   ·rintro ⟨h1,h2⟩ i hi1 hi2;cases i with
    | zero=>exact h1
    | succ i=>exact h2 i (by simpa using hi1) (by simpa using hi2)
   ·intro h;exact ⟨h 0 (by simp) (by simp),λi h1 h2=>h (i+1) (by simpa using h1) (by simpa using h2)⟩
section
variable {w w':World} {A A' Y Z Z':List Nat} {c n cl:Nat} {S:Mn} {rs ds ls:Nat->Nat} {Xs:Nat->List Nat} {vr vd:Value} {gu:Nat} {qv gv lv:Value}
theorem SyC.setl {v':Value} {lg:List (List UInt8)} (h:SyC w A Y c n S rs ds ls Xs vr vd gu qv gv lv) (hz:∀b,b∈Z↔b∈Y\/∃i,i<n/\b∈Xs i) (hl:ImmL w A v' lg) :
  SyP w (w.setCell ⟨c,5,none⟩ v') A Z c n { S with long:=lg }:=by
 have hon:Only [c] w (w.setCell ⟨c,5,none⟩ v'):=(Only.refl _ _).setCell (by simp) _;have hcA:∀b∈[c],b∈A:=λb hb=>by rw [aj.1 hb];exact h.yA c h.cY
 have hc2:(w.setCell ⟨c,5,none⟩ v').heap[c]? = some (.cells #[vr,vd,.slice (some ⟨gu,0,none⟩) n n,qv,gv,v',.bool S.bad] 38 (0,0)):=by rw [aZ h.cell];rfl
 have hrow:∀{v:Value} {e:TypeId} {k m:Nat} {xs:List Value},w.ownsRow 0 e k v m xs->e≠38->(w.setCell ⟨c,5,none⟩ v').ownsRow 0 e k v m xs:=λ{v e k m xs} hr he=>by
  refine bg hr hon (λb hb hm=>?_);rw [aj.1 hm] at hb;have:=bU hr hb;rw [h.cell] at this;simp at this;exact he this.symm
 have hcX:∀i,i<n->∀b∈Xs i,b∉[c]:=λi hi b hb hm=>by
  rw [aj.1 hm] at hb;exact h.yx i hi c h.cY hb
 have ha:∀b∈A,b<(w.setCell ⟨c,5,none⟩ v').heap.size:=λb hb=>by simpa using h.alt b hb
 obtain ⟨vs,g1⟩:=h.gave;refine ⟨A,Z,⟨Y,rs,ds,ls,Xs,vr,vd,gu,qv,gv,v',⟨hc2,hrow h.rr (by decide),hrow h.dr (by decide),?_,λi hi=>(h.node i hi).keep hon hcA (hcX i hi) (Ext.refl _ _) (λb hb=>hb) ha,h.q.keep hon hcA (λb hb cur hcur hm=>?_) (Ext.refl _ _) (λb hb=>hb),⟨vs,hrow g1 (by decide)⟩,hl.step hon hcA (Ext.refl _ _),h.nl,h.n5,h.cY,h.rY,h.dY,h.uY,h.gY,h.yx,h.xx,h.yA,ha⟩,hz⟩,Mv.only hon (λb hb=>by rw [aj.1 hb];exact (hz c).2 (.inl h.cY))⟩
 ·have:=h.up;refine hon.keeps this (λhm=>?_);rw [aj.1 hm,h.cell] at this;simp at this
 ·rw [aj.1 hm,h.cell] at hcur;simp at hcur
theorem vI {f:Nat->Nat} {e:TypeId} {v:Value} (h:w.ownsRow 0 e 1 v n (f9 f n)) (hn:0<n):∃g k,v = .slice (some ⟨g,0,none⟩) n k/\n<=k/\∀i,i<n->w.cell? ⟨g,i,none⟩=some (.pointer (some ⟨f i,0,none⟩)):=by
 have hr:=h;rcases h.2 with ⟨_,h0⟩ | ⟨g,cap,cur,rfl,_,hh,hnc,_,_,ht⟩
 ·omega
 ·refine ⟨g,cap,rfl,hnc,λi hi=>?_⟩;have h9:(cur.toList.take (n*1))[i]? = (f9 f n)[i]? := by rw [ht]
  rw [bP,ax (by omega),cA] at h9;rw [af hh,h9];unfold f9 ia;simp [hi]
theorem sX {x y:ByteArray} (h:x.toList=y.toList):x=y:=by
 rw [ByteArray.toList_eq,ByteArray.toList_eq] at h;cases x;cases y;simp at h;rw [h]
theorem mQ {v:Value} {lg:List (List UInt8)} (h:ImmL w A v lg):∃ao c,v = .slice ao lg.length c/\lg.length<=c/\c<=9223372036854775807/\∀j,j<lg.length->∃g,ao=some ⟨g,0,none⟩/\∀w',Below w.heap.size w w'->∃a m k,w'.cell? ⟨g,j,none⟩=some (.slice a m k)/\IsB w' a m k (lg.getD j []):=by
 rcases h with ⟨rfl,rfl⟩ | ⟨g,c,cur,rfl,h1,h2,h3,h4,h5⟩
 ·exact ⟨none,0,rfl,ah _,by decide,λj hj=>by cases hj⟩
 ·refine ⟨_,c,rfl,h1,h2,λj hj=>⟨g,rfl,λw' hb=>?_⟩⟩;obtain ⟨u,k1,k2⟩:=h5 j hj;obtain ⟨ao,cc,rfl,k3,_⟩:=k2.below hb;have hh:=(Only.ofBelow hb []).keeps h4 (by simp);exact ⟨ao,_,cc,by rw [af hh];exact k1,k3⟩
theorem uJ {ao:Option Addr} {n:Nat} {l:List (List UInt8)} (h:IsBB w ao n l) (j:Nat) (hj:j<n):∃b off,ao=some ⟨b,off,none⟩/\∃a m k,w.cell? ⟨b,off+j,none⟩=some (.slice a m k)/\IsB w a m k (l.getD j []):=by
 rcases h.at_ with h1 | ⟨b,off,e,h1⟩
 ·omega
 ·obtain ⟨a,m,c,k1,k2,_⟩:=h1 j hj;exact ⟨b,off,e,a,m,c,k1,k2⟩
theorem SyC.upAt2 (h:SyC w A Y c n S rs ds ls Xs vr vd gu qv gv lv) (i:Nat) (hi:i<n):w.cell? ⟨gu,i,none⟩=some (.bool (S.at i).up):=by
 rw [af h.up];have hl2:i<S.nodes.length:=by rw [h.nl];exact hi
 unfold Mn.at;simp [cQ,aK,hl2]
end
section
variable {w w':World} {A A' Y Z Z':List Nat} {c n cl:Nat} {S:Mn} {rs ds ls:Nat->Nat} {Xs:Nat->List Nat} {vr vd:Value} {gu:Nat} {qv gv lv:Value}
theorem Sy.sypL (h:Sy w A Z c n S):SyP w w A Z c n S:=⟨A,Z,h,Mv.refl _ _ _⟩
theorem SyP.pre {w'':World} {S':Mn} (h:SyP w' w'' A' Z' c n S') (m:Mv A A' Z Z' w w'):SyP w w'' A Z c n S':=SyP.trans m h
set_option maxHeartbeats 16000000 in
theorem lp (h:Sy w A Z c n S) (hw:∀i,i<n->(S.at i).up=true->Wf (S.at i).s (S.at i).k) (hn1:1<=n) :
  Calls Try.prog 13 #[.pointer (some ⟨c,0,none⟩)] w λe w'=>e = .returned (.bool (S.look n).1)/\SyP w w' A Z c n (S.look n).2:=by
 have H:=ab h;have HW:=ab hw;clear h hw;go_enter Try.func13,Try.ntmps13
 go_wp2_with fail
 go_loopw [3] (λi wr=>∃(t:Nat) (lg:List (List UInt8)),t<=n/\i = .int .i64 (t:Int)/\SyP w wr A Z c n { S with long:=lg }/\gB S n 0 S.long=gB S (n - t) t lg) (λi _=>n - (intOf i).toNat)
 case atStart=>exact ⟨0,S.long,aA _,rfl,H.out.sypL,rfl⟩
 case round =>
  obtain ⟨t,lg,ht,rfl,⟨A1,Z1,h1,m1⟩,hlk⟩:=hrel;have HLK:=ab hlk;have M1:=ab m1;have hsx:=h1;obtain ⟨Y,rs,ds,ls,Xs,vr,vd,gu,qv,gv,lv,hs,hz⟩:=h1;rename World=>wr;have hn5:=hs.n5;have q7:IntKind.i64.wrap ((t:Int)+1)=(t:Int)+1:=IntWalk.i64_in _ (by omega);obtain ⟨gr,kr,evr,hkr,hrow⟩:=vI hs.rr (by omega);subst evr;have hc0:wr.cell? ⟨c,0,none⟩=some (.slice (some ⟨gr,0,none⟩) n kr):=by rw [af hs.cell];rfl
  have hc2:wr.cell? ⟨c,2,none⟩=some (.slice (some ⟨gu,0,none⟩) n n):=by rw [af hs.cell];rfl
  have hc6:wr.cell? ⟨c,6,none⟩=some (.bool S.bad):=by rw [af hs.cell];rfl
  by_cases htn:t<n
  ·have hup:=hs.upAt2 t htn;have hrj:=hrow t htn;have htn2:(t:Int)<(n:Int):=by omega
   have hat:({ S with long:=lg }:Mn).at t=S.at t:=rfl;rw [hat] at hup;have e1:n - t=(n - (t+1))+1:=by omega
   cases hupj:(S.at t).up with
   | false =>
    rw [hupj] at hup;have HF:Hid (SyP w wr A Z c n { S with long:=lg }):=ab ⟨A1,Z1,hsx,m1⟩;have HN:Hid (gB S n 0 S.long=gB S (n - (t+1)) (t+1) lg):=ab (by
     rw [hlk,e1];show (if (S.at t).up then _ else _)=_;rw [hupj];rfl)
    clear hs hz hsx m1 hrow hlk e1;go_wp2_with fail
    go_roundw
    case rel=>exact ⟨t+1,lg,by omega,by simp,HF.out,HN.out⟩
    case measure=>simp [intOf];omega
   | true =>
    rw [hupj] at hup;have hwf:=HW.out t htn hupj;have HS:=ab hs;have HZ:=ab hz;have HLN:Hid (gB S n 0 S.long=if fT (dx (S.at t).s) lg then gB S (n - (t+1)) (t+1) (jj (dx (S.at t).s) lg) else (false,lg)):=ab (by
     rw [hlk,e1];show (if (S.at t).up then _ else _)=_;rw [hupj];rfl)
    have HAL:Hid ((dx (S.at t).s).length<=1000000):=ab (by
     have h1:=hwf.logb;have h2:=uv ((S.at t).s.log.take (S.at t).s.agreed);unfold dx;rw [aE] at h2;omega)
    have HAG:Hid (Calls Try.prog 12 #[.pointer (some ⟨rs t,0,none⟩)] wr λe w'=>∃v,e = .returned v/\OwnL w' wr.heap.size v (dx (S.at t).s)/\Below wr.heap.size wr w'):=ab (oc ((hs.node t htn).up hupj) hwf);have HALT:=ab hs.alt;have HBS:Hid (∀l∈dx (S.at t).s,l.length<=8000):=ab (λl hl=>by
     unfold dx recs at hl;obtain ⟨x,hx,rfl⟩:=gR.1 hl;exact hwf.recl x (eS (oe.1 hx).1))
    clear hs hz hsx m1 hrow hlk hwf;generalize dx (S.at t).s=al at *;go_wp2_with fail
    refine HAG.out.mono ?_;rintro e W ⟨va,rfl,hva,hba⟩;have hs2:=HS.out.below hba;obtain ⟨aa,ca,e9,hca,hca2⟩:=hva.shape;subst e9;obtain ⟨aa',ca',e9,hbb⟩:=hva.isBB (λl hl=>by have:=HBS.out l hl;omega);cases e9;have hll:=hs2.long;obtain ⟨all,cll,e9,hcl,hcl2,hat2⟩:=mQ hll;subst e9;have hc5:W.cell? ⟨c,5,none⟩=some (.slice all lg.length cll):=by rw [af hs2.cell];rfl
    have hc6:W.cell? ⟨c,6,none⟩=some (.bool S.bad):=by rw [af hs2.cell];rfl
    have HS2:=ab hs2;have HVA:=ab hva;have HBB:=ab hbb;have HBA:=ab hba;have HAT:=ab hat2;clear hs2 hva hbb hba hll hat2 hc0 hc2 hup hrj HAG HS;go_wp2_with fail
    go_loopw [5] (λk w2=>∃j nq:Nat,j<=al.length/\j<=lg.length/\k = .int .i64 (j:Int)/\w2=W.drewN nq/\∀i,i<j->al.getD i []=lg.getD i []) (λk _=>al.length - (intOf k).toNat)
    case atStart=>exact ⟨0,0,aA _,aA _,rfl,rfl,λi hi=>by omega⟩
    case round =>
     obtain ⟨j,nq,hja,hjl,rfl,rfl,heq⟩:=hrel;have HEQ:=ab heq;clear heq;have hal:=HAL.out;have q8:IntKind.i64.wrap ((j:Int)+1)=(j:Int)+1:=IntWalk.i64_in _ (by omega);have hc5:(W.drewN nq).cell? ⟨c,5,none⟩=some (.slice all lg.length cll):=hc5;have hc6:(W.drewN nq).cell? ⟨c,6,none⟩=some (.bool S.bad):=hc6;by_cases hj1:j<al.length
     ·have hj3:(j:Int)<(al.length:Int):=by omega
      by_cases hj2:j<lg.length
      ·have hj4:(j:Int)<(lg.length:Int):=by omega
       obtain ⟨gl,e9,hat3⟩:=HAT.out j hj2;subst e9;obtain ⟨gb,ob,e9,_⟩:=uJ HBB.out j hj1;subst e9;have HST:Hid (∀w',Below W.heap.size W w'->w'.cell? ⟨c,5,none⟩=some (.slice (some ⟨gl,0,none⟩) lg.length cll)/\w'.cell? ⟨c,6,none⟩=some (.bool S.bad)):=ab (λw' hb=>⟨cell_later hb hc5,cell_later hb hc6⟩);obtain ⟨a1,m1',k1,hu1,hb1⟩:=hat3 W (aB _ _);obtain ⟨_,_,e9,a2,m2,k2,hu2,hb2⟩:=uJ HBB.out j hj1;cases e9;have HSW:∀w',Below W.heap.size W w'->w'.cell? ⟨c,5,none⟩=some (.slice (some ⟨gl,0,none⟩) lg.length cll)/\w'.cell? ⟨gl,j,none⟩=some (.slice a1 m1' k1)/\w'.cell? ⟨gb,ob+j,none⟩=some (.slice a2 m2 k2)/\(convert 29 9 (.slice a1 m1' k1)).run Try.prog w' = .ok (.string (ej (lg.getD j []))) w'/\(convert 29 9 (.slice a2 m2 k2)).run Try.prog w' = .ok (.string (ej (al.getD j []))) w':=λw' hb=>⟨(HST.out w' hb).1,cell_later hb hu1,cell_later hb hu2,gE _ _ _ _ _ (hb1.below hb),gE _ _ _ _ _ (hb2.below hb)⟩
       have HSW:=ab HSW;have HB0:Hid (Below W.heap.size W (W.drewN nq).drew):=ab (ap W (nq+1));have hcmp:((ej (al.getD j [])).toList==(ej (lg.getD j [])).toList)=(al.getD j []==lg.getD j []):=by
        by_cases h:al.getD j []=lg.getD j []
        ·rw [h];simp
        ·have h2:¬(ej (al.getD j [])).toList=(ej (lg.getD j [])).toList:=λe=>h (by
          have e2:=sX e;unfold ej at e2;simpa using e2)
         have a:((ej (al.getD j [])).toList==(ej (lg.getD j [])).toList)=false:=by simpa using h2
         have b:(al.getD j []==lg.getD j [])=false:=by simpa using h
         rw [a,b]
       have HXY:Hid (al.getD j []=lg.getD j []↔(al.getD j []==lg.getD j [])=true):=ab (by simp);clear hu1 hb1 hu2 hb2 hat3;generalize ej (al.getD j [])=sa at *;generalize ej (lg.getD j [])=sl at *;generalize (al.getD j []==lg.getD j [])=rr at *;go_upto_region 9 with (fail)
       go_cut [59] (λv wx=>v = .bool (!rr)/\∃nq',wx=W.drewN nq')
       case first =>
        as_aux_lemma =>
        refine wp_region_held_drew (S:=λw'=>Below W.heap.size W w') (by kernel_rfl) (HB0.out) (λam=>?_);refine az 0 ?_;refine az 1 ?_;refine az 2 ?_;refine az 3 ?_;refine az 4 ?_;refine az 5 ?_;refine az 6 ?_;refine az 7 ?_;refine az 8 ?_;refine az 9 ?_;refine az 10 ?_;refine az 11 ?_;refine az 12 ?_;refine az 13 ?_;refine fc ?_;clear am;go_wp2_with fail
        go_meet
        exact ⟨rfl,nq+1,rfl⟩
       case rest =>
       obtain ⟨rfl,nq',rfl⟩:=hcut;cases rr with
       | false =>
        have HF:Hid ((S.look n).1=false/\SyP w (W.drewN nq') A Z c n (S.look n).2):=ab (by
         have h9:=HLN.out;have hx:fT al lg=false:=by
          cases h8:fT al lg with
          | false=>rfl
          | true=>have:=HXY.out.1 ((nL _ _).1 h8 j hj1 hj2);cases this
         rw [hx] at h9;unfold Mn.look;rw [h9];exact ⟨rfl,Sy.sypL ⟨_,_,_,_,_,_,_,_,_,_,_,HS2.out.below (ap W nq'),HZ.out⟩ |>.pre (M1.out.trans ((Mv.below HBA.out).trans (Mv.below (ap W nq'))))⟩)
        clear hc5 hc6;go_wp2_with fail
        go_ret
        exact ⟨by rw [HF.out.1];rfl,HF.out.2⟩
       | true =>
        have HEQ2:Hid (∀i,i<j+1->al.getD i []=lg.getD i []):=ab (λi hi=>by
         by_cases h:i=j
         ·rw [h];exact HXY.out.2 rfl
         ·exact HEQ.out i (by omega))
        clear hc5 hc6;go_wp2_with fail
        go_roundw
        case rel=>exact ⟨j+1,nq',by omega,by omega,by simp,rfl,HEQ2.out⟩
        case measure=>simp [intOf];omega
      ·have hj4:¬(j:Int)<(lg.length:Int):=by omega
       have hgt:(lg.length:Int)<(al.length:Int):=by omega
       have HFT:Hid (fT al lg=true):=ab ((nL _ _).2 (λi h1 h2=>HEQ.out i (by omega)));have HLG:Hid (jj al lg=al):=ab (by unfold jj;rw [ax (by omega)]);have HF:Hid (SyP w ((W.drewN nq).setCell ⟨c,5,none⟩ (.slice aa al.length ca)) A Z c n { S with long:=al }):=ab (by
        have hv:=(ImmL.new HVA.out HALT.out).below (ap W nq);exact SyP.trans (M1.out.trans ((Mv.below HBA.out).trans (Mv.below (ap W nq)))) ((HS2.out.below (ap W nq)).setl HZ.out hv))
       have HN:Hid (gB S n 0 S.long=gB S (n - (t+1)) (t+1) al):=ab (by rw [HLN.out,HFT.out,HLG.out];rfl);have hz5:(W.drewN nq).frozen? ⟨c,5,none⟩=false:=aO (HS2.out.below (ap W nq)).cell 5;generalize W.drewN nq=W2 at *;go_wp2_with fail
       go_roundw
       case rel=>exact ⟨t+1,al,by omega,by simp,HF.out,HN.out⟩
       case measure=>simp [intOf];omega
     ·have hj3:¬(j:Int)<(al.length:Int):=by omega
      have HFT:Hid (fT al lg=true):=ab ((nL _ _).2 (λi h1 h2=>HEQ.out i (by omega)));have hgt:¬(lg.length:Int)<(al.length:Int):=by omega
      have HLG:Hid (jj al lg=lg):=ab (by unfold jj;rw [aw (by omega)]);have HF:Hid (SyP w (W.drewN nq) A Z c n { S with long:=lg }):=ab (Sy.sypL ⟨_,_,_,_,_,_,_,_,_,_,_,HS2.out.below (ap W nq),HZ.out⟩ |>.pre (M1.out.trans ((Mv.below HBA.out).trans (Mv.below (ap W nq)))));have HN:Hid (gB S n 0 S.long=gB S (n - (t+1)) (t+1) lg):=ab (by rw [HLN.out,HFT.out,HLG.out];rfl);go_wp2_with fail
      go_roundw
      case rel=>exact ⟨t+1,lg,by omega,by simp,HF.out,HN.out⟩
      case measure=>simp [intOf];omega
  ·obtain rfl:t=n:=by omega
   have htn2:¬(t:Int)<(t:Int):=by omega
   have HF:Hid ((S.look t).1 = !S.bad/\SyP w wr A Z c t (S.look t).2):=ab (by
    rw [show t - t=0 by omega] at hlk;unfold Mn.look;rw [hlk];exact ⟨by simp [gB],Sy.sypL hsx |>.pre m1⟩)
   clear hs hz hsx m1 hrow hlk;go_wp2_with fail
   go_ret
   exact ⟨by rw [HF.out.1];rfl,HF.out.2⟩
end
def Mn.act (S:Mn) (n:Nat) (a:Ac):Mn :=
 if a.op=0 then S.tick (iX a.N n) else if a.op=4 then S.crash (iX a.N n) a.P else if a.op=5 then S.back n (iX a.N n)
 else if a.op=6 then S.submit (iX a.N n) a.B else if a.op=1 then S.fetch a.K else if a.op=2 then S.lose a.K else if a.op=3 then S.twice a.K else S
structure BInv (n cl lv:Nat) (S:Mn):Prop where
 sv:SInv n cl S
 n1:1<=n
 n5:n<=5
 up:∀i,i<n->(S.at i).up=true->UpI (S.at i).s (S.at i).k/\(S.at i).s.lives=(S.at i).k.lives
 dn:∀i,i<n->(S.at i).up=false->DnI (S.at i).s (S.at i).k
 liv:∀i,i<n->0<=(S.at i).k.lives/\(S.at i).k.lives<=lv
 gn:S.gn<=lv
structure Turn (n cl lv i:Nat) (S:Mn) (nd:Nod):Prop where
 own:nd.s.own=i
 nn:nd.s.n=n
 up:nd.up=true->UpI nd.s nd.k/\nd.s.lives=nd.k.lives/\nd.s.clock<=cl
 dn:nd.up=false->DnI nd.s nd.k
 liv:0<=nd.k.lives/\nd.k.lives<=lv
section
variable {n cl lv:Nat} {S:Mn}
theorem BInv.mono {cl' lv':Nat} (h:BInv n cl lv S) (hc:cl<=cl') (hl:lv<=lv'):BInv n cl' lv' S :=
 ⟨h.sv.mono hc,h.n1,h.n5,h.up,h.dn,λi hi=>⟨(h.liv i hi).1,by have:=(h.liv i hi).2;omega⟩,aF h.gn hl⟩
theorem BInv.set {i:Nat} {nd:Nod} (h:BInv n cl lv S) (hi:i<n) (ht:Turn n cl lv i S nd):BInv n cl lv (S.set i nd):=by
 have hat:∀j,(S.set i nd).at j=if j=i then nd else S.at j:=λj=>Mn.at_set S i j _ (by rw [h.sv.nl];exact hi)
 refine ⟨⟨by simp [Mn.set,h.sv.nl],λj hj=>?_,λj hj hu=>?_,h.sv.q,h.sv.ql⟩,h.n1,h.n5,λj hj hu=>?_,λj hj hu=>?_,λj hj=>?_,h.gn⟩;all_goals
  by_cases e:j=i
  ·subst e;simp only [hat,ax] at *;first
    | exact ⟨ht.own,ht.nn⟩
    | exact ⟨(ht.up hu).1.wf,(ht.up hu).2.2⟩
    | exact ⟨(ht.up hu).1,(ht.up hu).2.1⟩
    | exact ht.dn hu
    | exact ht.liv
  ·simp only [hat,aw e] at *;first
    | exact h.sv.id j hj
    | exact h.sv.wf j hj hu
    | exact h.up j hj hu
    | exact h.dn j hj hu
    | exact h.liv j hj
theorem BInv.send {fr:Nat} (h:BInv n cl lv S) (ms:List Msg) (hf:fr<n) (hm:∀m∈ms,GoodM fr n m):BInv n cl lv (S.send ms) :=
 ⟨⟨h.sv.nl,h.sv.id,h.sv.wf,λm hm2=>by
  rcases qK _ _ _ hm2 with h1 | h1
  ·exact h.sv.q m h1
  ·exact ⟨fr,hf,hm m h1⟩,nu _ _ h.sv.ql⟩,h.n1,h.n5,h.up,h.dn,h.liv,h.gn⟩
theorem Turn.of {i d:Nat} {p:List Msg×Rp×Dk} (h:BInv n cl lv S) (hi:i<n) (hu:(S.at i).up=true) (ho:Out (S.at i).s d p) (hk:KS (S.at i).k p.2.2) (hn:NOk p.2.1) (hg:Gr (S.at i).s p.2.1):Turn n (cl+d) lv i S ⟨p.2.1,p.2.2,true⟩:=by
 have h1:=h.up i hi hu;refine ⟨ho.own.trans (h.sv.id i hi).1,ho.n.trans (h.sv.id i hi).2,λ_=>⟨⟨ho.wf,hn,hk.sf h1.1.sf,hk.off.trans h1.1.off⟩,hg.liv.trans (h1.2.trans hk.lives.symm),?_⟩,(λe=>by cases e),?_⟩
 ·have:=ho.clock;have:=(h.sv.wf i hi hu).2;show p.2.1.clock<=_;omega
 ·show 0<=p.2.2.lives/\p.2.2.lives<=_;rw [hk.lives];exact h.liv i hi
theorem BInv.call {i d:Nat} {p:List Msg×Rp×Dk} (h:BInv n cl lv S) (hi:i<n) (hu:(S.at i).up=true) (ho:Out (S.at i).s d p) (hk:KS (S.at i).k p.2.2) (hn:NOk p.2.1) (hg:Gr (S.at i).s p.2.1) :
  BInv n (cl+d) lv ((S.set i ⟨p.2.1,p.2.2,true⟩).send p.1):=by
 have ht:=Turn.of h hi hu ho hk hn hg;have h2:BInv n (cl+d) lv (S.set i ⟨p.2.1,p.2.2,true⟩):=(h.mono (eH _ _) (ah _)).set hi ⟨ht.own,ht.nn,ht.up,ht.dn,ht.liv⟩;refine h2.send p.1 hi ?_;have:=ho.ms;rw [(h.sv.id i hi).1,(h.sv.id i hi).2] at this;exact this
theorem BInv.tick (h:BInv n cl lv S) (i:Nat) (hi:i<n):BInv n (cl+1) lv (S.tick i):=by
 unfold Mn.tick;split
 ·rename_i hu;have h1:=(h.up i hi hu).1;exact h.call hi hu (lh h1.wf) Bm (za h1.nok h1.wf) (AR h1.wf).gr
 ·exact h.mono (bO _) (ah _)
theorem BInv.bring (h:BInv n cl lv S) (m:Msg) (h0:0<=m.dst) (h1:m.dst<(n:Int)):BInv n cl lv (S.bring m):=by
 unfold Mn.bring;split
 ·rename_i hu;have hi:m.dst.toNat<n:=by omega
  have h2:=(h.up _ hi hu).1;exact h.call (d:=0) hi hu (pQ h2.wf m) (Cx m) (Bc h2.nok h2.wf m) (Cg h2.wf m).gr
 ·exact h
theorem BInv.submit (h:BInv n cl lv S) (i:Nat) (hi:i<n) (rec:List UInt8):BInv n cl (lv+1) (S.submit i rec):=by
 unfold Mn.submit;split
 ·rename_i hu;have h1:=(h.up i hi hu).1;have ho:=kD h1.wf rec;have hb:=h.call (d:=0) hi hu ho (wy rec) (tA h1.nok rec) (wz h1.wf rec);simp only;split
  ·have h2:=hb.mono (ah _) (bO lv);exact ⟨⟨h2.sv.nl,h2.sv.id,h2.sv.wf,h2.sv.q,h2.sv.ql⟩,h2.n1,h2.n5,h2.up,h2.dn,h2.liv,Nat.succ_le_succ hb.gn⟩
  ·exact hb.mono (ah _) (bO lv)
 ·exact h.mono (ah _) (bO lv)
theorem BInv.crash (h:BInv n cl lv S) (i:Nat) (hi:i<n) (keep:Int):BInv n cl lv (S.crash i keep):=by
 refine h.set hi ⟨(h.sv.id i hi).1,(h.sv.id i hi).2,(λe=>by cases e),λ_=>?_,h.liv i hi⟩;cases hu:(S.at i).up with
 | true=>exact (h.up i hi hu).1.crash keep
 | false=>exact (h.dn i hi hu).crash keep
theorem t8 (i m:Nat) (s:Rp) (k:Dk):(fN i m s k).lives=k.lives+1/\(fu s k).lives=k.lives+1:=by
 obtain ⟨t,c,g,e⟩:=fK (dz i m (k.lives+1) (dT s k)) ((dT s k).map lk);constructor
 ·unfold fN;rw [e];rfl
 ·unfold fu eR;split<;>rfl
theorem BInv.back (h:BInv n cl lv S) (i:Nat) (hi:i<n):BInv n cl (lv+1) (S.back n i):=by
 unfold Mn.back;split
 ·exact h.mono (ah _) (bO lv)
 ·rename_i hu;have hu:(S.at i).up=false:=by simpa using hu
  obtain ⟨h1,h2,h3,h4⟩:=BP (h.dn i hi hu);rw [(h.sv.id i hi).1,(h.sv.id i hi).2] at h1 h2 h3 h4;have hl:=t8 i n (S.at i).s (S.at i).k;have hv:=h.liv i hi;refine (h.mono (ah _) (bO lv)).set hi ⟨h2,h3,λ_=>⟨h1,by rw [hl.1,hl.2],by show (fN i n (S.at i).s (S.at i).k).clock<=cl;rw [h4];exact aA _⟩,(λe=>by cases e),?_⟩;show 0<=(fu (S.at i).s (S.at i).k).lives/\(fu (S.at i).s (S.at i).k).lives<=_;rw [hl.2];omega
theorem BInv.ofq {q:List Msg} (h:BInv n cl lv S) (hq:∀m∈q,m∈S.q) (hl:q.length<=2000):BInv n cl lv { S with q:=q } :=
 ⟨⟨h.sv.nl,h.sv.id,h.sv.wf,λm hm=>h.sv.q m (hq m hm),hl⟩,h.n1,h.n5,h.up,h.dn,h.liv,h.gn⟩
theorem BInv.lose (h:BInv n cl lv S) (K:Int):BInv n cl lv (S.lose K):=h.ofq (λm hm=>by
 rcases av.1 hm with h1 | h1
 ·exact eS h1
 ·exact List.mem_of_mem_drop h1) (by
 have:=h.sv.ql;show (S.q.take _++S.q.drop _).length<=2000;simp only [ay,aE,bw];omega)
theorem BInv.fetch (h:BInv n cl lv S) (K:Int):BInv n cl lv (S.fetch K):=by
 unfold Mn.fetch;split
 ·exact h
 ·rename_i m hm;obtain ⟨fr,hf,hg⟩:=h.sv.q m (CS hm);exact (h.lose K).bring m hg.d0 hg.dn
theorem BInv.twice (h:BInv n cl lv S) (K:Int):BInv n cl lv (S.twice K):=by
 unfold Mn.twice;split
 ·exact h
 ·rename_i m hm;refine h.ofq (λx hx=>?_) (sE _ _ h.sv.ql);rcases sD _ _ _ hx with h1 | h1
  ·exact h1
  ·rw [h1];exact CS hm
theorem uW (N:Int) (h:1<=n):iX N n<n:=(gW N n h).2
theorem BInv.act (h:BInv n cl lv S) (a:Ac):BInv n (cl+1) (lv+1) (S.act n a):=by
 have hi:=uW a.N h.n1;have c1:=bO cl;have l1:=bO lv;unfold Mn.act;split
 ·exact (h.tick _ hi).mono (ah _) l1
 ·split
  ·exact (h.crash _ hi _).mono c1 l1
  ·split
   ·exact (h.back _ hi).mono c1 (ah _)
   ·split
    ·exact (h.submit _ hi _).mono c1 (ah _)
    ·split
     ·exact (h.fetch _).mono c1 l1
     ·split
      ·exact (h.lose _).mono c1 l1
      ·split
       ·exact (h.twice _).mono c1 l1
       ·exact h.mono c1 l1
def Mn.acts (S:Mn) (n:Nat) (l:List Ac):Mn:=l.foldl (λS a=>S.act n a) S
theorem BInv.ticks (h:BInv n cl lv S) (k:Nat) (hk:k<=n):BInv n (cl+k) lv (S.ticks k):=by
 induction k with
 | zero=>exact h
 | succ k ih =>
  rw [i8];exact (ih (by omega)).tick k (by omega)
theorem BInv.drain (h:BInv n cl lv S) (f:Nat):BInv n cl lv (S.drain f):=by
 induction f generalizing S with
 | zero=>exact h
 | succ f ih =>
  unfold Mn.drain;split
  ·exact h
  ·rename_i m q hq;obtain ⟨fr,hf,hg⟩:=h.sv.q m (by rw [hq];exact aP);exact ih ((h.ofq (q:=q) (λx hx=>by rw [hq];exact aI _ hx) (by have:=h.sv.ql;rw [hq] at this;simp at this;omega)).bring m hg.d0 hg.dn)
theorem BInv.calm (h:BInv n cl lv S) (r:Nat):BInv n (cl+r*n) lv (Mn.calm n r S).2:=by
 induction r generalizing S cl with
 | zero=>simpa [Mn.calm] using h
 | succ r ih =>
  have h1:=(h.ticks n (ah _)).drain 4000;unfold Mn.calm;split
  ·have h2:=ih h1;have e:cl+n+r*n=cl+(r+1)*n:=by rw [AK];omega
   rw [e] at h2;exact h2
  ·exact h1.mono (by rw [AK];omega) (ah _)
theorem BInv.look (h:BInv n cl lv S):BInv n cl lv (S.look n).2:=⟨⟨h.sv.nl,h.sv.id,h.sv.wf,h.sv.q,h.sv.ql⟩,h.n1,h.n5,h.up,h.dn,h.liv,h.gn⟩
end
section
variable {n cl lv:Nat} {S:Mn}
theorem vE (j n:Nat) (hj:j<n) (hn:n<=5):UpI (dz j n 1 []) CQ:=by
 refine ⟨⟨by show 1<=n;omega,hn,hj,by simp [dz],by simp [dz],by simp [dz],by simp [dz],?_,?_,?_,?_,ah _,rfl,(λh=>by cases h),aM _,?_,aM _,?_,(λx hx=>by cases hx),ah _,λx hx=>?_⟩,⟨⟨[],rfl,trivial,λ_=>⟨rfl,rfl,rfl⟩⟩,(λh=>by cases h)⟩,(λl q h=>by cases h),rfl⟩
 ·exact aM _
 ·show ((0:Nat):Int)<=1048576;decide
 ·rfl
 ·exact ah _
 ·show (0:Int)<=_;decide
 ·show (-1:Int)<(n:Int);omega
 ·have:x∈List.replicate n ((0:Int),(0:Int),(0:Int)):=hx;rw [List.eq_of_mem_replicate this];exact ⟨aM _,aM _⟩
theorem nY (n:Nat) (h1:1<=n) (h5:n<=5):BInv n 0 1 (Mn.begun n):=by
 have hat:=lD n;have hu:∀i,i<n->UpI (wg n i).s (wg n i).k:=λi hi=>vE i n hi h5;refine ⟨⟨by simp [Mn.begun],λi hi=>by rw [hat i hi];exact ⟨rfl,rfl⟩,λi hi _=>by rw [hat i hi];exact ⟨(hu i hi).wf,ah _⟩,(λm hm=>by cases hm),aA _⟩,h1,h5,λi hi _=>by rw [hat i hi];exact ⟨hu i hi,rfl⟩,(λi hi hd=>by rw [hat i hi] at hd;cases hd),λi hi=>by rw [hat i hi];exact ⟨show (0:Int)<=1 by decide,show (1:Int)<=((1:Nat):Int) by decide⟩,aA _⟩
theorem pj (S:Mn) (r:Nat):(Mn.calm n r S).2.long=S.long/\(Mn.calm n r S).2.bad=S.bad:=by
 have hb:∀(S:Mn) m,(S.bring m).long=S.long/\(S.bring m).bad=S.bad:=λS m=>by unfold Mn.bring;split<;>exact ⟨rfl,rfl⟩
 have ht:∀(S:Mn) i,(S.tick i).long=S.long/\(S.tick i).bad=S.bad:=λS m=>by unfold Mn.tick;split<;>exact ⟨rfl,rfl⟩
 have hts:∀(S:Mn) k,(S.ticks k).long=S.long/\(S.ticks k).bad=S.bad:=λS k=>by
  induction k with
  | zero=>exact ⟨rfl,rfl⟩
  | succ k ih=>rw [i8];exact ⟨(ht _ _).1.trans ih.1,(ht _ _).2.trans ih.2⟩
 have hd:∀f (S:Mn),(S.drain f).long=S.long/\(S.drain f).bad=S.bad:=λf=>by
  induction f with
  | zero=>exact λS=>⟨rfl,rfl⟩
  | succ f ih =>
   intro S;unfold Mn.drain;split
   ·exact ⟨rfl,rfl⟩
   ·exact ⟨(ih _).1.trans (hb _ _).1,(ih _).2.trans (hb _ _).2⟩
 induction r generalizing S with
 | zero=>exact ⟨rfl,rfl⟩
 | succ r ih =>
  have e:=hd 4000 (S.ticks n);have e2:=hts S n;unfold Mn.calm;split
  ·exact ⟨(ih _).1.trans (e.1.trans e2.1),(ih _).2.trans (e.2.trans e2.2)⟩
  ·exact ⟨e.1.trans e2.1,e.2.trans e2.2⟩
def Dm (nd:Nod):Nat:=(dx nd.s).length
end
section
variable {w:World} {A Z:List Nat} {c n cl lv:Nat} {S:Mn}
theorem Af (h:Sy w A Z c n S) (hi:BInv n cl lv S) (x:Ac) (bo:Option Addr) (bc:Nat) (hb:ImmZ w A (.slice bo x.B.length bc) x.B) (hx:x.B.length<=300) (hp : -9223372036854775808<=x.P/\x.P<=9223372036854775807) (hcl:cl<=900000) (hlv:lv<=900000) :
  Calls Try.prog 11 #[.pointer (some ⟨c,0,none⟩),.agg #[.int .i64 x.op,.int .i64 x.N,.int .i64 x.K,.int .i64 x.P,.slice bo x.B.length bc]] w λe w'=>e = .returned (.tuple #[])/\SyP w w' A Z c n (S.act n x):=by
 obtain ⟨o,N,K,P,B⟩:=x;unfold Mn.act;simp only;by_cases h0:o=0
 ·subst h0;rw [ax rfl];exact BG h hi.sv N K P bo B.length bc hi.n1 hcl
 rw [aw h0];by_cases h4:o=4
 ·subst h4;rw [ax rfl];refine Ae h (λi hin=>?_) N K P hp.1 hp.2 bo B.length bc hi.n1;cases hu:(S.at i).up with
  | true =>
   have h9:=(hi.up i hin hu).1;refine ⟨h9.sf,?_⟩;have:=h9.wf.tot;have:=h9.wf.room;omega
  | false =>
   have h9:=hi.dn i hin hu;refine ⟨h9.sf,?_⟩;have:=h9.tot;have:=h9.room;omega
 rw [aw h4];by_cases h5:o=5
 ·subst h5;rw [ax rfl];exact BI h (λi hin hu=>⟨hi.dn i hin hu,(hi.sv.id i hin).2,(hi.liv i hin).1,by have:=(hi.liv i hin).2;omega⟩) N K P bo B.length bc hi.n1 hi.n5
 rw [aw h5];by_cases h6:o=6
 ·subst h6;rw [ax rfl];exact wP h hi.sv N K P bo B.length bc B hb rfl (by have:B.length<=300:=hx;omega) (by have:=hi.gn;omega) hi.n1
 rw [aw h6];by_cases h1:o=1
 ·subst h1;rw [ax rfl];exact Ad h hi.sv N K P bo B.length bc hi.n1
 rw [aw h1];by_cases h2:o=2
 ·subst h2;rw [ax rfl];exact BH h hi.sv N K P bo B.length bc hi.n1
 rw [aw h2];by_cases h3:o=3
 ·subst h3;rw [ax rfl];exact Aa h hi.sv N K P bo B.length bc hi.n1
 rw [aw h3];exact (Ab h hi.sv o N K P bo B.length bc hi.n1 h0 h1 h2 h3 h4 h5 h6)
end
set_option maxRecDepth 100000
def wV:Bool×Mn:=Mn.calm 1 60 (Mn.begun 1)
def CR:Mn:=wV.2.set 0 ⟨(fQ (wV.2.at 0).s (wV.2.at 0).k).2,(wV.2.at 0).k,true⟩
def B8:Bool×Mn:=Mn.calm 1 1 (CR.act 1 ⟨6,0,0,0,[120]⟩)
def Au:Bool:=wV.1&&(wV.2.at 0).up&&(fQ (wV.2.at 0).s (wV.2.at 0).k).1&&B8.1&&(B8.2.look 1).1&&((B8.2.look 1).2.long==[[120]])
theorem sn:Au=true:=by decide +kernel
set_option maxRecDepth 20000
def Mn.leads (S:Mn) (i:Nat):Bool:=(fQ (S.at i).s (S.at i).k).1
def Mn.leadsS (S:Mn) (i:Nat):Mn:=S.set i ⟨(fQ (S.at i).s (S.at i).k).2,(S.at i).k,true⟩
theorem tF {s:Rp} {k:Dk} (h1:k.off=false) (h2:s.lives=k.lives):(fQ s k).1=(s.leads && !s.done)/\(fQ s k).2=s:=by
 have hd:ew s k=s.done:=by
  unfold ew;rw [h1,h2];simp
 have he:aY s k=s:=by unfold aY;rw [hd]
 unfold fQ;by_cases hl:s.leads=true
 ·rw [ax hl];exact ⟨by rw [hd,hl];rfl,he⟩
 ·rw [aw hl];exact ⟨by simp at hl;rw [hl];rfl,rfl⟩
theorem qJ {n cl lv:Nat} {S:Mn} (h:BInv n cl lv S) (i:Nat) (hi:i<n) (hu:(S.at i).up=true):S.set i ⟨(S.at i).s,(S.at i).k,true⟩=S:=by
 have e:(⟨(S.at i).s,(S.at i).k,true⟩:Nod)=S.at i:=by rw [<-hu]
 rw [e];have hl:i<S.nodes.length:=by rw [h.sv.nl];exact hi
 have e2:S.at i=S.nodes[i]:=by unfold Mn.at;simp [aK,hl]
 unfold Mn.set;rw [e2,List.set_getElem_self]
theorem jK {n cl lv:Nat} {S:Mn} (h:BInv n cl lv S) (i:Nat) (hi:i<n) (hu:(S.at i).up=true):S.leadsS i=S/\S.leads i=((S.at i).s.leads && !(S.at i).s.done):=by
 have h1:=h.up i hi hu;have h2:=tF h1.1.off h1.2;unfold Mn.leadsS Mn.leads;rw [h2.2,h2.1];exact ⟨qJ h i hi hu,rfl⟩
section
variable {w w':World} {A A' Y Z Z':List Nat} {c n cl lv:Nat} {S:Mn} {rs ds ls:Nat->Nat} {Xs:Nat->List Nat} {vr vd:Value} {gu:Nat} {qv gv lgv:Value}
theorem ry (h:SyC w A Y c n S rs ds ls Xs vr vd gu qv gv lgv) (hz:∀b,b∈Z↔b∈Y\/∃i,i<n/\b∈Xs i) (i:Nat) (hi:i<n) (hu:(S.at i).up=true) :
  Calls Try.prog 15 #[.pointer (some ⟨rs i,0,none⟩)] w λe w'=>e = .returned (.bool (S.leads i))/\SyP w w' A Z c n (S.leadsS i):=by
 have hn:=(h.node i hi).up hu;refine (ws hn).mono ?_;rintro e w2 ⟨rfl,hn2,ho⟩;refine ⟨rfl,?_⟩;have hm:Mv A A (Xs i) (Xs i) w w2:=Mv.only ho (λb hb=>by rw [aj.1 hb];exact hn.rX);obtain ⟨Z',hz',hmz⟩:=j6 (Y:=Y) hi hz hm;have hs:=h.call (nd:=⟨(fQ (S.at i).s (S.at i).k).2,(S.at i).k,true⟩) hi hm ⟨λ_=>hn2,(λe=>by cases e),hn2.xA⟩ hu.symm hn2.alt;exact ⟨A,Z',⟨Y,rs,ds,ls,gH Xs i (Xs i),vr,vd,gu,qv,gv,lgv,hs,hz'⟩,hmz⟩
end
section
variable {w:World}
set_option maxHeartbeats 4000000 in
theorem wU:Calls Try.prog 8 #[] w λe w'=>e = .returned (.bool true)/\Below w.heap.size w w':=by
 have HA:=ab sn;unfold Au at HA;have hb0:=nY 1 (ah _) (by omega);have hb1:BInv 1 (0+60*1) 1 wV.2:=hb0.calm 60;have HB0:=ab hb0;have HB1:=ab hb1;have HAS:Hid (wV.1=true/\(wV.2.at 0).up=true/\wV.2.leads 0=true/\B8.1=true/\(B8.2.look 1).1=true/\(B8.2.look 1).2.long=[[120]]):=ab (by
  have h:=HA.out;simp only [bk,cH] at h;obtain ⟨⟨⟨⟨⟨h1,h2⟩,h3⟩,h4⟩,h5⟩,h6⟩:=h;exact ⟨h1,h2,h3,h4,h5,h6⟩)
 clear hb0 hb1 HA;go_enter Try.func8,Try.ntmps8
 go_wp2_with fail
 refine (pn (A:=[]) 1 (by omega) (λb hb=>by cases hb)).mono ?_;rintro e w1 ⟨c,A1,Z1,rfl,hs1,hm1⟩;have H1:=ab hs1;have M1:=ab hm1;clear hs1 hm1;go_wp2_with fail
 refine (lC H1.out HB0.out.sv 60 (by omega) (by omega) (by omega)).mono ?_;rintro e w2 ⟨he,hs2⟩;rw [show (Mn.calm 1 60 (Mn.begun 1)).1=true from HAS.out.1] at he;subst he;obtain ⟨A2,Z2,⟨Y,rs,ds,ls,Xs,vr,vd,gu,qv,gv,lgv,hs,hz⟩,hm2⟩:=hs2;obtain ⟨gr,kr,evr,hkr,hrow⟩:=df hs.rr (by omega);subst evr;have hc0:w2.cell? ⟨c,0,none⟩=some (.slice (some ⟨gr,0,none⟩) 1 kr):=by rw [af hs.cell];rfl
 have hr0:=hrow 0 (by omega);have HLD:=ab (ry hs hz 0 (by omega) HAS.out.2.1);have HLE:Hid ((Mn.calm 1 60 (Mn.begun 1)).2.leads 0=true):=ab HAS.out.2.2.1;have M2:=ab (M1.out.trans hm2);clear hs hz hm2 hrow;go_wp2_with fail
 refine HLD.out.mono ?_;rintro e w3 ⟨he,hs3⟩;rw [HLE.out] at he;subst he;obtain ⟨A3,Z3,hs3,hm3⟩:=hs3;have H3:Hid (Sy w3 A3 Z3 c 1 CR):=ab hs3;have M3:=ab (M2.out.trans hm3);clear hs3 hm3 HLD;have kc:=λ(w:World) (C:Array Value) (n c:Nat)=>Lib.run_convert_bytes_const (P:=Try.prog) w 29 5 C n c Try.underlying29 Try.underlying5;have hb4:Below w3.heap.size w3 (w3.alloc (.cells #[.int .u8 120] 5 (1,2))):=(aB _ _).alloc (ah _) _;have H4:=ab (H3.out.below hb4);have M4:=ab (M3.out.trans (Mv.below hb4));have HIB:Hid (Imm (w3.alloc (.cells #[.int .u8 120] 5 (1,2))) A3 (.slice (some ⟨w3.heap.size,0,none⟩) 1 1) [120]):=ab ⟨_,_,rfl,pY w3 [120] #[.int .u8 120] rfl 5 (1,2) w3.heap.size rfl 1 rfl 1,ah _,λp hp=>by
  cases hp;obtain ⟨Y,rs,ds,ls,Xs,vr,vd,gu,qv,gv,lgv,hs,hz⟩:=H3.out;exact ⟨λhm=>by have:=hs.alt _ hm;simp at this,by simp⟩⟩
 have hb2:BInv 1 (0+60*1) 1 CR:=by
  have e:CR=wV.2.leadsS 0:=rfl;rw [e,(jK HB1.out 0 (by omega) HAS.out.2.1).1];exact HB1.out
 have HB3:Hid (BInv 1 (0+60*1+1) (1+1) (CR.act 1 ⟨6,0,0,0,[120]⟩)):=ab (hb2.act _);have HB2:=ab hb2;have HB4:Hid (BInv 1 (0+60*1+1+1*1) (1+1) B8.2):=ab (HB3.out.calm 1);clear hb4 hb2;go_wp2_with fail
 refine (Af H4.out HB2.out ⟨6,0,0,0,[120]⟩ _ _ (.inr HIB.out) (by decide) ⟨by decide,by decide⟩ (by omega) (by omega)).mono ?_;rintro e w5 ⟨rfl,A5,Z5,hs5,hm5⟩;have H5:=ab hs5;have M5:=ab (M4.out.trans hm5);clear hs5 hm5;go_wp2_with fail
 refine (lC H5.out HB3.out.sv 1 (by omega) (by omega) (by omega)).mono ?_;rintro e w6 ⟨he,A6,Z6,hs6,hm6⟩;rw [show (Mn.calm 1 1 (CR.act 1 ⟨6,0,0,0,[120]⟩)).1=true from HAS.out.2.2.2.1] at he;subst he;have H6:Hid (Sy w6 A6 Z6 c 1 B8.2):=ab hs6;have M6:=ab (M5.out.trans hm6);clear hs6 hm6;go_wp2_with fail
 refine (lp H6.out (λi hi hu=>(HB4.out.up i hi hu).1.wf) (by omega)).mono ?_;rintro e w7 ⟨he,A7,Z7,⟨Y7,rs7,ds7,ls7,Xs7,vr7,vd7,gu7,qv7,gv7,lgv7,hs7,hz7⟩,hm7⟩;rw [HAS.out.2.2.2.2.1] at he;subst he;have hlg:=hs7.long;rw [HAS.out.2.2.2.2.2] at hlg;obtain ⟨al,cal,e9,_,_,hatA⟩:=mQ hlg;obtain ⟨gl,e8,hatB⟩:=hatA 0 (by decide);subst e8;subst e9;obtain ⟨xa,xm,xk,hx1,hx2⟩:=hatB w7 (aB _ _);have hc5:w7.cell? ⟨c,5,none⟩=some (.slice (some ⟨gl,0,none⟩) 1 cal):=by rw [af hs7.cell];rfl
 have hx1:w7.cell? ⟨gl,0,none⟩=some (.slice xa xm xk):=hx1;have hcv:(convert 29 9 (.slice xa xm xk)).run Try.prog w7 = .ok (.string (ej [120])) w7:=gE _ _ _ _ _ hx2;have heq:((ej [120]).toList==[120])=true:=by decide +kernel
 have HM7:Hid (Below w.heap.size w w7):=ab (((M6.out.trans hm7).mv.only).below (ah _) (λk hk=>by cases hk));clear hs7 hz7 hm7 hlg hatA hatB hx2;generalize ej [120]=sx at *;go_wp2_with fail
 go_ret
 exact ⟨rfl,HM7.out⟩
end
structure LsA (w wr:World) (A Z:List Nat) (c k:Nat) (S:Mn) (Ts:List (Nat×Obj)):Prop where
 sy:Sy wr A Z c k S
 bel:Below w.heap.size w wr
 age:∀b∈A,w.heap.size<=b
 ts:∀p∈Ts,p.1∈A/\p.1∉Z/\wr.heap[p.1]? = some p.2
structure Ls (w wr:World) (c k:Nat) (S:Mn) (Ts:List (Nat×Obj)):Prop where
 ex:∃A Z,LsA w wr A Z c k S Ts
section
variable {w wr w2:World} {A Z:List Nat} {c k:Nat} {S S':Mn} {Ts:List (Nat×Obj)}
theorem LsA.step (h:LsA w wr A Z c k S Ts) (hp:SyP wr w2 A Z c k S'):Ls w w2 c k S' Ts:=by
 obtain ⟨A2,Z2,h2,m2⟩:=hp;have hz:=h.sy.zA;refine ⟨A2,Z2,h2,h.bel.trans (m2.mv.only.below h.bel.size (λb hb=>h.age b (hz b hb))),λb hb=>?_,λp hp=>?_⟩
 ·rcases m2.ext b hb with h1 | h1
  ·exact h.age b h1
  ·exact aF h.bel.size h1
 ·obtain ⟨h1,h3,h4⟩:=h.ts p hp;refine ⟨m2.sub _ h1,λhm=>?_,m2.mv.only.keeps h4 h3⟩;rcases m2.mv.gr _ hm with h5 | h5
  ·exact h3 h5
  ·have:=aU h4;omega
theorem LsA.ls (h:LsA w wr A Z c k S Ts):Ls w wr c k S Ts:=⟨A,Z,h⟩
theorem LsA.below (h:LsA w wr A Z c k S Ts) (hb:Below wr.heap.size wr w2):LsA w w2 A Z c k S Ts:=⟨h.sy.below hb,h.bel.trans (hb.mono h.bel.size),h.age,λp hp=>⟨(h.ts p hp).1,(h.ts p hp).2.1,(Only.ofBelow hb []).keeps (h.ts p hp).2.2 (by simp)⟩⟩
theorem LsA.begun {A2:List Nat} (hb:Below w.heap.size w wr) (h:Sy w2 A Z c k S) (hm:Mv [] A [] Z wr w2):LsA w w2 A Z c k S [] :=
 ⟨h,hb.trans ((hm.mv.only.below (ah _) (λb hb=>by cases hb)).mono hb.size),λb hb2=>by
  rcases hm.ext b hb2 with h1 | h1
  ·cases h1
  ·exact aF hb.size h1,λp hp=>by cases hp⟩
theorem AtAc.z {b off:Nat} {x:Ac} (h:AtAc w b off x) (hA:∀b∈A,w.heap.size<=b) (hb:Below w.heap.size w wr):∃bo bc,wr.cell? ⟨b,off+4,none⟩=some (.slice bo x.B.length bc)/\ImmZ wr A (.slice bo x.B.length bc) x.B:=by
 obtain ⟨bo,bc,h1,h2,h3⟩:=h.c4;refine ⟨bo,bc,cell_later hb h1,?_⟩;by_cases h0:x.B.length=0
 ·exact .inl h0
 ·refine .inr ⟨bo,bc,rfl,h2.below hb,h3,λp hp=>?_⟩;obtain ⟨k1,k2,k3⟩:=h2;rcases k3 with k3 | ⟨b',off',e,k4⟩
  ·omega
  ·rw [e] at hp;cases hp;have h9:=World.block_lt_of_cell? w _ (k4 0 (by omega));have h9:b'<w.heap.size:=h9;exact ⟨λhm=>by have:=hA _ hm;show False;simp only at this;omega,aH h9 hb.size⟩
end
end Go.Proofs.Ytnicaicjgaoolaa
