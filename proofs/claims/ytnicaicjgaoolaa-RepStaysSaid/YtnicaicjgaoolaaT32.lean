/-
  What the proof of the law leans on: contracts of the program's functions, one behind another. No condition.
-/
import Derived.Lib.SlBytesConst
import Derived.Test.YtnicaicjgaoolaaT25
import Derived.Test.YtnicaicjgaoolaaT26
import Derived.Test.YtnicaicjgaoolaaT3
import Derived.Test.YtnicaicjgaoolaaT27
import Derived.Test.YtnicaicjgaoolaaT29
import Derived.Test.YtnicaicjgaoolaaT28
import Derived.Test.YtnicaicjgaoolaaT30
import Derived.Test.YtnicaicjgaoolaaT31
set_option linter.unusedVariables false
set_option linter.unusedSimpArgs false
namespace Go.Proofs.Ytnicaicjgaoolaa
open Go.RowKit Go.ChangeMaps Go.WideMaps Go.Maps
set_option maxRecDepth 20000
/-- is one a beginning of the other? -/
def fitsL (l lg:List (List UInt8)):Bool:=(l.zip lg).all fun p=>p.1==p.2
def longer (l lg:List (List UInt8)):List (List UInt8):=if lg.length<l.length then l else lg
def lookI (S:Mn):Nat→Nat→List (List UInt8)→Bool×List (List UInt8)
 | 0,_,lg=>(true,lg)
 | f+1,i,lg=>if (S.at i).up then (if fitsL (agreedM (S.at i).s) lg then lookI S f (i+1) (longer (agreedM (S.at i).s) lg) else (false,lg)) else lookI S f (i+1) lg
def Mn.look (S:Mn) (n:Nat):Bool×Mn:=((lookI S n 0 S.long).1 && !S.bad,{ S with long:=(lookI S n 0 S.long).2 })
theorem fitsL_at (l lg:List (List UInt8)):fitsL l lg=true↔∀i,i<l.length→i<lg.length→l.getD i []=lg.getD i []:=by
 induction l generalizing lg with
 | nil=>simp [fitsL]
 | cons a l ih =>
  cases lg with
  | nil=>simp [fitsL]
  | cons b lg =>
   have e:fitsL (a::l) (b::lg)=((a==b)&&fitsL l lg):=rfl
   rw [e,Bool.and_eq_true,ih,beq_iff_eq]
   constructor
   ·rintro ⟨h1,h2⟩ i hi1 hi2
    cases i with
    | zero=>exact h1
    | succ i=>exact h2 i (by simpa using hi1) (by simpa using hi2)
   ·intro h
    exact ⟨h 0 (by simp) (by simp),fun i h1 h2=>h (i+1) (by simpa using h1) (by simpa using h2)⟩
section
variable {w w':World} {A A' Y Z Z':List Nat} {c n cl:Nat} {S:Mn} {rs ds ls:Nat→Nat} {Xs:Nat→List Nat} {vr vd:Value} {gu:Nat} {qv gv lv:Value}
theorem SyC.setl {v':Value} {lg:List (List UInt8)} (h:SyC w A Y c n S rs ds ls Xs vr vd gu qv gv lv) (hz:∀b,b∈Z↔b∈Y∨∃i,i<n∧b∈Xs i) (hl:ImmL w A v' lg) :
  SyP w (w.setCell ⟨c,5,none⟩ v') A Z c n { S with long:=lg }:=by
 have hon:Only [c] w (w.setCell ⟨c,5,none⟩ v'):=(Only.refl _ _).setCell (by simp) _
 have hcA:∀b∈[c],b∈A:=fun b hb=>by rw [List.mem_singleton.1 hb];exact h.yA c h.cY
 have hc2:(w.setCell ⟨c,5,none⟩ v').heap[c]? = some (.cells #[vr,vd,.slice (some ⟨gu,0,none⟩) n n,qv,gv,v',.bool S.bad] 38 (0,0)):=by rw [heap_set h.cell];rfl
 have hrow:∀{v:Value} {e:TypeId} {k m:Nat} {xs:List Value},w.ownsRow 0 e k v m xs→e≠38→(w.setCell ⟨c,5,none⟩ v').ownsRow 0 e k v m xs:=fun {v e k m xs} hr he=>by
  refine rows_only0 hr hon (fun b hb hm=>?_)
  rw [List.mem_singleton.1 hm] at hb
  have:=rows_at hr hb
  rw [h.cell] at this
  simp at this
  exact he this.symm
 have hcX:∀i,i<n→∀b∈Xs i,b∉[c]:=fun i hi b hb hm=>by
  rw [List.mem_singleton.1 hm] at hb
  exact h.yx i hi c h.cY hb
 have ha:∀b∈A,b<(w.setCell ⟨c,5,none⟩ v').heap.size:=fun b hb=>by simpa using h.alt b hb
 obtain ⟨vs,g1⟩:=h.gave
 refine ⟨A,Z,⟨Y,rs,ds,ls,Xs,vr,vd,gu,qv,gv,v',⟨hc2,hrow h.rr (by decide),hrow h.dr (by decide),?_,fun i hi=>(h.node i hi).keep hon hcA (hcX i hi) (Ext.refl _ _) (fun b hb=>hb) ha,h.q.keep hon hcA (fun b hb cur hcur hm=>?_) (Ext.refl _ _) (fun b hb=>hb),⟨vs,hrow g1 (by decide)⟩,hl.step hon hcA (Ext.refl _ _),h.nl,h.n5,h.cY,h.rY,h.dY,h.uY,h.gY,h.yx,h.xx,h.yA,ha⟩,hz⟩,Mv.only hon (fun b hb=>by rw [List.mem_singleton.1 hb];exact (hz c).2 (.inl h.cY))⟩
 ·have:=h.up
  refine hon.keeps this (fun hm=>?_)
  rw [List.mem_singleton.1 hm,h.cell] at this
  simp at this
 ·rw [List.mem_singleton.1 hm,h.cell] at hcur
  simp at hcur
theorem ptr_cellL {f:Nat→Nat} {e:TypeId} {v:Value} (h:w.ownsRow 0 e 1 v n (ptrs f n)) (hn:0<n):∃g k,v = .slice (some ⟨g,0,none⟩) n k∧n≤k∧∀i,i<n→w.cell? ⟨g,i,none⟩=some (.pointer (some ⟨f i,0,none⟩)):=by
 have hr:=h
 rcases h.2 with ⟨_,h0⟩ | ⟨g,cap,cur,rfl,_,hh,hnc,_,_,ht⟩
 ·omega
 ·refine ⟨g,cap,rfl,hnc,fun i hi=>?_⟩
  have h9:(cur.toList.take (n*1))[i]? = (ptrs f n)[i]? := by rw [ht]
  rw [List.getElem?_take,if_pos (by omega),Array.getElem?_toList] at h9
  rw [cell_heap hh,h9]
  unfold ptrs ptrV
  simp [hi]
theorem toList_inj {x y:ByteArray} (h:x.toList=y.toList):x=y:=by
 rw [ByteArray.toList_eq,ByteArray.toList_eq] at h
 cases x;cases y
 simp at h
 rw [h]
theorem immL_at {v:Value} {lg:List (List UInt8)} (h:ImmL w A v lg):∃ao c,v = .slice ao lg.length c∧lg.length≤c∧c≤9223372036854775807∧∀j,j<lg.length→∃g,ao=some ⟨g,0,none⟩∧∀w',Below w.heap.size w w'→∃a m k,w'.cell? ⟨g,j,none⟩=some (.slice a m k)∧IsB w' a m k (lg.getD j []):=by
 rcases h with ⟨rfl,rfl⟩ | ⟨g,c,cur,rfl,h1,h2,h3,h4,h5⟩
 ·exact ⟨none,0,rfl,Nat.le_refl _,by decide,fun j hj=>by cases hj⟩
 ·refine ⟨_,c,rfl,h1,h2,fun j hj=>⟨g,rfl,fun w' hb=>?_⟩⟩
  obtain ⟨u,k1,k2⟩:=h5 j hj
  obtain ⟨ao,cc,rfl,k3,_⟩:=k2.below hb
  have hh:=(Only.ofBelow hb []).keeps h4 (by simp)
  exact ⟨ao,_,cc,by rw [cell_heap hh];exact k1,k3⟩
theorem isBB_at {ao:Option Addr} {n:Nat} {l:List (List UInt8)} (h:IsBB w ao n l) (j:Nat) (hj:j<n):∃b off,ao=some ⟨b,off,none⟩∧∃a m k,w.cell? ⟨b,off+j,none⟩=some (.slice a m k)∧IsB w a m k (l.getD j []):=by
 rcases h.at_ with h1 | ⟨b,off,e,h1⟩
 ·omega
 ·obtain ⟨a,m,c,k1,k2,_⟩:=h1 j hj
  exact ⟨b,off,e,a,m,c,k1,k2⟩
theorem SyC.upAt2 (h:SyC w A Y c n S rs ds ls Xs vr vd gu qv gv lv) (i:Nat) (hi:i<n):w.cell? ⟨gu,i,none⟩=some (.bool (S.at i).up):=by
 rw [cell_heap h.up]
 have hl2:i<S.nodes.length:=by rw [h.nl];exact hi
 unfold Mn.at
 simp [boolsA,List.getD_eq_getElem?_getD,hl2]
end
end Go.Proofs.Ytnicaicjgaoolaa
namespace Go.Proofs.Ytnicaicjgaoolaa
open Go.RowKit Go.ChangeMaps Go.WideMaps Go.Maps
set_option maxRecDepth 20000
section
variable (p:String)
def z0ux0:Oper:=⟨some 46,.move (.tmp 4),36,p,#[],none⟩
def z0ux1:Oper:=⟨some 47,.move (.tmp 5),3,p,#[],none⟩
def z0ux2:Oper:=⟨some 48,.indexAddr 36 (.tmp 46) (.tmp 47),0,p,#[⟨0,.data⟩,⟨1,.data⟩],none⟩
def z0ux3:Oper:=⟨some 49,.load 29 (.tmp 48),29,p,#[⟨2,.data⟩],none⟩
def z0ux4:Oper:=⟨some 50,.convert 29 9 (.tmp 49),9,p,#[⟨3,.data⟩],none⟩
def z0ux5:Oper:=⟨some 51,.move (.tmp 0),25,p,#[],none⟩
def z0ux6:Oper:=⟨some 52,.nilCheck (.tmp 51),0,p,#[⟨5,.data⟩],none⟩
def z0ux7:Oper:=⟨some 53,.fieldAddr 38 (.tmp 52) 5,0,p,#[⟨6,.data⟩],none⟩
def z0ux8:Oper:=⟨some 54,.load 36 (.tmp 53),36,p,#[⟨7,.data⟩],none⟩
def z0ux9:Oper:=⟨some 55,.move (.tmp 5),3,p,#[],none⟩
def z0ux10:Oper:=⟨some 56,.indexAddr 36 (.tmp 54) (.tmp 55),0,p,#[⟨8,.data⟩,⟨9,.data⟩],none⟩
def z0ux11:Oper:=⟨some 57,.load 29 (.tmp 56),29,p,#[⟨10,.data⟩],none⟩
def z0ux12:Oper:=⟨some 58,.convert 29 9 (.tmp 57),9,p,#[⟨11,.data⟩],none⟩
def z0ux13:Oper:=⟨some 59,.binOp BinOp.neq 9 (.tmp 50) (.tmp 58) 9,4,p,#[⟨4,.data⟩,⟨12,.data⟩],none⟩
end
attribute [go_sem,reducible] z0ux0 z0ux1 z0ux2 z0ux3 z0ux4 z0ux5 z0ux6 z0ux7 z0ux8 z0ux9 z0ux10 z0ux11 z0ux12 z0ux13
section
variable {w w':World} {A A' Y Z Z':List Nat} {c n cl:Nat} {S:Mn} {rs ds ls:Nat→Nat} {Xs:Nat→List Nat} {vr vd:Value} {gu:Nat} {qv gv lv:Value}
theorem Sy.sypL (h:Sy w A Z c n S):SyP w w A Z c n S:=⟨A,Z,h,Mv.refl _ _ _⟩
theorem SyP.pre {w'':World} {S':Mn} (h:SyP w' w'' A' Z' c n S') (m:Mv A A' Z Z' w w'):SyP w w'' A Z c n S':=SyP.trans m h
set_option maxHeartbeats 16000000 in
theorem look_any (h:Sy w A Z c n S) (hw:∀i,i<n→(S.at i).up=true→Wf (S.at i).s (S.at i).k) (hn1:1≤n) :
  Calls Try.prog 13 #[.pointer (some ⟨c,0,none⟩)] w fun e w'=>e = .returned (.bool (S.look n).1)∧SyP w w' A Z c n (S.look n).2:=by
 have H:=Lib.hid h
 have HW:=Lib.hid hw
 clear h hw
 go_enter Try.func13,Try.ntmps13
 go_wp2_with fail
 go_loopw [3] (fun i wr=>∃(t:Nat) (lg:List (List UInt8)),t≤n∧i = .int .i64 (t:Int)∧SyP w wr A Z c n { S with long:=lg }∧lookI S n 0 S.long=lookI S (n - t) t lg) (fun i _=>n - (intOf i).toNat)
 case atStart=>exact ⟨0,S.long,Nat.zero_le _,rfl,H.out.sypL,rfl⟩
 case round =>
  obtain ⟨t,lg,ht,rfl,⟨A1,Z1,h1,m1⟩,hlk⟩:=hrel
  have HLK:=Lib.hid hlk
  have M1:=Lib.hid m1
  have hsx:=h1
  obtain ⟨Y,rs,ds,ls,Xs,vr,vd,gu,qv,gv,lv,hs,hz⟩:=h1
  rename World=>wr
  have hn5:=hs.n5
  have q7:IntKind.i64.wrap ((t:Int)+1)=(t:Int)+1:=IntWalk.i64_in _ (by omega)
  obtain ⟨gr,kr,evr,hkr,hrow⟩:=ptr_cellL hs.rr (by omega)
  subst evr
  have hc0:wr.cell? ⟨c,0,none⟩=some (.slice (some ⟨gr,0,none⟩) n kr):=by rw [cell_heap hs.cell];rfl
  have hc2:wr.cell? ⟨c,2,none⟩=some (.slice (some ⟨gu,0,none⟩) n n):=by rw [cell_heap hs.cell];rfl
  have hc6:wr.cell? ⟨c,6,none⟩=some (.bool S.bad):=by rw [cell_heap hs.cell];rfl
  by_cases htn:t<n
  ·have hup:=hs.upAt2 t htn
   have hrj:=hrow t htn
   have htn2:(t:Int)<(n:Int):=by omega
   have hat:({ S with long:=lg }:Mn).at t=S.at t:=rfl
   rw [hat] at hup
   have e1:n - t=(n - (t+1))+1:=by omega
   cases hupj:(S.at t).up with
   | false =>
    rw [hupj] at hup
    have HF:Hid (SyP w wr A Z c n { S with long:=lg }):=Lib.hid ⟨A1,Z1,hsx,m1⟩
    have HN:Hid (lookI S n 0 S.long=lookI S (n - (t+1)) (t+1) lg):=Lib.hid (by
     rw [hlk,e1]
     show (if (S.at t).up then _ else _)=_
     rw [hupj];rfl)
    clear hs hz hsx m1 hrow hlk e1
    go_wp2_with fail
    go_roundw
    case rel=>exact ⟨t+1,lg,by omega,by simp,HF.out,HN.out⟩
    case measure=>simp [intOf];omega
   | true =>
    rw [hupj] at hup
    have hwf:=HW.out t htn hupj
    have HS:=Lib.hid hs
    have HZ:=Lib.hid hz
    have HLN:Hid (lookI S n 0 S.long=if fitsL (agreedM (S.at t).s) lg then lookI S (n - (t+1)) (t+1) (longer (agreedM (S.at t).s) lg) else (false,lg)):=Lib.hid (by
     rw [hlk,e1]
     show (if (S.at t).up then _ else _)=_
     rw [hupj];rfl)
    have HAL:Hid ((agreedM (S.at t).s).length≤1000000):=Lib.hid (by
     have h1:=hwf.logb
     have h2:=recs_le ((S.at t).s.log.take (S.at t).s.agreed)
     unfold agreedM
     rw [List.length_take] at h2
     omega)
    have HAG:Hid (Calls Try.prog 12 #[.pointer (some ⟨rs t,0,none⟩)] wr fun e w'=>∃v,e = .returned v∧OwnL w' wr.heap.size v (agreedM (S.at t).s)∧Below wr.heap.size wr w'):=Lib.hid (agreed_any ((hs.node t htn).up hupj) hwf)
    have HALT:=Lib.hid hs.alt
    have HBS:Hid (∀l∈agreedM (S.at t).s,l.length≤8000):=Lib.hid (fun l hl=>by
     unfold agreedM recs at hl
     obtain ⟨x,hx,rfl⟩:=List.mem_map.1 hl
     exact hwf.recl x (List.mem_of_mem_take (List.mem_filter.1 hx).1))
    clear hs hz hsx m1 hrow hlk hwf
    generalize agreedM (S.at t).s=al at *
    go_wp2_with fail
    refine HAG.out.mono ?_
    rintro e W ⟨va,rfl,hva,hba⟩
    have hs2:=HS.out.below hba
    obtain ⟨aa,ca,e9,hca,hca2⟩:=hva.shape
    subst e9
    obtain ⟨aa',ca',e9,hbb⟩:=hva.isBB (fun l hl=>by have:=HBS.out l hl;omega)
    cases e9
    have hll:=hs2.long
    obtain ⟨all,cll,e9,hcl,hcl2,hat2⟩:=immL_at hll
    subst e9
    have hc5:W.cell? ⟨c,5,none⟩=some (.slice all lg.length cll):=by rw [cell_heap hs2.cell];rfl
    have hc6:W.cell? ⟨c,6,none⟩=some (.bool S.bad):=by rw [cell_heap hs2.cell];rfl
    have HS2:=Lib.hid hs2
    have HVA:=Lib.hid hva
    have HBB:=Lib.hid hbb
    have HBA:=Lib.hid hba
    have HAT:=Lib.hid hat2
    clear hs2 hva hbb hba hll hat2 hc0 hc2 hup hrj HAG HS
    go_wp2_with fail
    go_loopw [5] (fun k w2=>∃j nq:Nat,j≤al.length∧j≤lg.length∧k = .int .i64 (j:Int)∧w2=W.drewN nq∧∀i,i<j→al.getD i []=lg.getD i []) (fun k _=>al.length - (intOf k).toNat)
    case atStart=>exact ⟨0,0,Nat.zero_le _,Nat.zero_le _,rfl,rfl,fun i hi=>by omega⟩
    case round =>
     obtain ⟨j,nq,hja,hjl,rfl,rfl,heq⟩:=hrel
     have HEQ:=Lib.hid heq
     clear heq
     have hal:=HAL.out
     have q8:IntKind.i64.wrap ((j:Int)+1)=(j:Int)+1:=IntWalk.i64_in _ (by omega)
     have hc5:(W.drewN nq).cell? ⟨c,5,none⟩=some (.slice all lg.length cll):=hc5
     have hc6:(W.drewN nq).cell? ⟨c,6,none⟩=some (.bool S.bad):=hc6
     by_cases hj1:j<al.length
     ·have hj3:(j:Int)<(al.length:Int):=by omega
      by_cases hj2:j<lg.length
      ·have hj4:(j:Int)<(lg.length:Int):=by omega
       obtain ⟨gl,e9,hat3⟩:=HAT.out j hj2
       subst e9
       obtain ⟨gb,ob,e9,_⟩:=isBB_at HBB.out j hj1
       subst e9
       have HST:Hid (∀w',Below W.heap.size W w'→w'.cell? ⟨c,5,none⟩=some (.slice (some ⟨gl,0,none⟩) lg.length cll)∧w'.cell? ⟨c,6,none⟩=some (.bool S.bad)):=Lib.hid (fun w' hb=>⟨cell_later hb hc5,cell_later hb hc6⟩)
       obtain ⟨a1,m1',k1,hu1,hb1⟩:=hat3 W (Below.refl _ _)
       obtain ⟨_,_,e9,a2,m2,k2,hu2,hb2⟩:=isBB_at HBB.out j hj1
       cases e9
       have HSW:∀w',Below W.heap.size W w'→w'.cell? ⟨c,5,none⟩=some (.slice (some ⟨gl,0,none⟩) lg.length cll)∧w'.cell? ⟨gl,j,none⟩=some (.slice a1 m1' k1)∧w'.cell? ⟨gb,ob+j,none⟩=some (.slice a2 m2 k2)∧(convert 29 9 (.slice a1 m1' k1)).run Try.prog w' = .ok (.string (strB (lg.getD j []))) w'∧(convert 29 9 (.slice a2 m2 k2)).run Try.prog w' = .ok (.string (strB (al.getD j []))) w':=fun w' hb=>⟨(HST.out w' hb).1,cell_later hb hu1,cell_later hb hu2,conv_any _ _ _ _ _ (hb1.below hb),conv_any _ _ _ _ _ (hb2.below hb)⟩
       have HSW:=Lib.hid HSW
       have HB0:Hid (Below W.heap.size W (W.drewN nq).drew):=Lib.hid (below_drewN W (nq+1))
       have hcmp:((strB (al.getD j [])).toList==(strB (lg.getD j [])).toList)=(al.getD j []==lg.getD j []):=by
        by_cases h:al.getD j []=lg.getD j []
        ·rw [h];simp
        ·have h2:¬(strB (al.getD j [])).toList=(strB (lg.getD j [])).toList:=fun e=>h (by
          have e2:=toList_inj e
          unfold strB at e2
          simpa using e2)
         have a:((strB (al.getD j [])).toList==(strB (lg.getD j [])).toList)=false:=by simpa using h2
         have b:(al.getD j []==lg.getD j [])=false:=by simpa using h
         rw [a,b]
       have HXY:Hid (al.getD j []=lg.getD j []↔(al.getD j []==lg.getD j [])=true):=Lib.hid (by simp)
       clear hu1 hb1 hu2 hb2 hat3
       generalize strB (al.getD j [])=sa at *
       generalize strB (lg.getD j [])=sl at *
       generalize (al.getD j []==lg.getD j [])=rr at *
       go_upto_region 9 with (fail)
       go_cut [59] (fun v wx=>v = .bool (!rr)∧∃nq',wx=W.drewN nq')
       case first =>
        as_aux_lemma =>
        refine wp_region_held_drew (S:=fun w'=>Below W.heap.size W w') (by kernel_rfl) (HB0.out) (fun hHeld=>?_)
        refine qtl 0 (z0ux0 _) rfl ?_
        refine qtl 1 (z0ux1 _) rfl ?_
        refine qtl 2 (z0ux2 _) rfl ?_
        refine qtl 3 (z0ux3 _) rfl ?_
        refine qtl 4 (z0ux4 _) rfl ?_
        refine qtl 5 (z0ux5 _) rfl ?_
        refine qtl 6 (z0ux6 _) rfl ?_
        refine qtl 7 (z0ux7 _) rfl ?_
        refine qtl 8 (z0ux8 _) rfl ?_
        refine qtl 9 (z0ux9 _) rfl ?_
        refine qtl 10 (z0ux10 _) rfl ?_
        refine qtl 11 (z0ux11 _) rfl ?_
        refine qtl 12 (z0ux12 _) rfl ?_
        refine qtl 13 (z0ux13 _) rfl ?_
        refine qdn ?_
        clear hHeld
        go_wp2_with fail
        go_meet
        exact ⟨rfl,nq+1,rfl⟩
       case rest =>
       obtain ⟨rfl,nq',rfl⟩:=hcut
       cases rr with
       | false =>
        have HF:Hid ((S.look n).1=false∧SyP w (W.drewN nq') A Z c n (S.look n).2):=Lib.hid (by
         have h9:=HLN.out
         have hx:fitsL al lg=false:=by
          cases h8:fitsL al lg with
          | false=>rfl
          | true=>have:=HXY.out.1 ((fitsL_at _ _).1 h8 j hj1 hj2);cases this
         rw [hx] at h9
         unfold Mn.look
         rw [h9]
         exact ⟨rfl,Sy.sypL ⟨_,_,_,_,_,_,_,_,_,_,_,HS2.out.below (below_drewN W nq'),HZ.out⟩ |>.pre (M1.out.trans ((Mv.below HBA.out).trans (Mv.below (below_drewN W nq'))))⟩)
        clear hc5 hc6
        go_wp2_with fail
        go_ret
        exact ⟨by rw [HF.out.1];rfl,HF.out.2⟩
       | true =>
        have HEQ2:Hid (∀i,i<j+1→al.getD i []=lg.getD i []):=Lib.hid (fun i hi=>by
         by_cases h:i=j
         ·rw [h];exact HXY.out.2 rfl
         ·exact HEQ.out i (by omega))
        clear hc5 hc6
        go_wp2_with fail
        go_roundw
        case rel=>exact ⟨j+1,nq',by omega,by omega,by simp,rfl,HEQ2.out⟩
        case measure=>simp [intOf];omega
      ·have hj4:¬(j:Int)<(lg.length:Int):=by omega
       have hgt:(lg.length:Int)<(al.length:Int):=by omega
       have HFT:Hid (fitsL al lg=true):=Lib.hid ((fitsL_at _ _).2 (fun i h1 h2=>HEQ.out i (by omega)))
       have HLG:Hid (longer al lg=al):=Lib.hid (by unfold longer;rw [if_pos (by omega)])
       have HF:Hid (SyP w ((W.drewN nq).setCell ⟨c,5,none⟩ (.slice aa al.length ca)) A Z c n { S with long:=al }):=Lib.hid (by
        have hv:=(ImmL.new HVA.out HALT.out).below (below_drewN W nq)
        exact SyP.trans (M1.out.trans ((Mv.below HBA.out).trans (Mv.below (below_drewN W nq)))) ((HS2.out.below (below_drewN W nq)).setl HZ.out hv))
       have HN:Hid (lookI S n 0 S.long=lookI S (n - (t+1)) (t+1) al):=Lib.hid (by rw [HLN.out,HFT.out,HLG.out];rfl)
       have hz5:(W.drewN nq).frozen? ⟨c,5,none⟩=false:=free_heap (HS2.out.below (below_drewN W nq)).cell 5
       generalize W.drewN nq=W2 at *
       go_wp2_with fail
       go_roundw
       case rel=>exact ⟨t+1,al,by omega,by simp,HF.out,HN.out⟩
       case measure=>simp [intOf];omega
     ·have hj3:¬(j:Int)<(al.length:Int):=by omega
      have HFT:Hid (fitsL al lg=true):=Lib.hid ((fitsL_at _ _).2 (fun i h1 h2=>HEQ.out i (by omega)))
      have hgt:¬(lg.length:Int)<(al.length:Int):=by omega
      have HLG:Hid (longer al lg=lg):=Lib.hid (by unfold longer;rw [if_neg (by omega)])
      have HF:Hid (SyP w (W.drewN nq) A Z c n { S with long:=lg }):=Lib.hid (Sy.sypL ⟨_,_,_,_,_,_,_,_,_,_,_,HS2.out.below (below_drewN W nq),HZ.out⟩ |>.pre (M1.out.trans ((Mv.below HBA.out).trans (Mv.below (below_drewN W nq)))))
      have HN:Hid (lookI S n 0 S.long=lookI S (n - (t+1)) (t+1) lg):=Lib.hid (by rw [HLN.out,HFT.out,HLG.out];rfl)
      go_wp2_with fail
      go_roundw
      case rel=>exact ⟨t+1,lg,by omega,by simp,HF.out,HN.out⟩
      case measure=>simp [intOf];omega
  ·obtain rfl:t=n:=by omega
   have htn2:¬(t:Int)<(t:Int):=by omega
   have HF:Hid ((S.look t).1 = !S.bad∧SyP w wr A Z c t (S.look t).2):=Lib.hid (by
    rw [show t - t=0 by omega] at hlk
    unfold Mn.look
    rw [hlk]
    exact ⟨by simp [lookI],Sy.sypL hsx |>.pre m1⟩)
   clear hs hz hsx m1 hrow hlk
   go_wp2_with fail
   go_ret
   exact ⟨by rw [HF.out.1];rfl,HF.out.2⟩
end
end Go.Proofs.Ytnicaicjgaoolaa
namespace Go.Proofs.Ytnicaicjgaoolaa
set_option maxRecDepth 20000
/-- an act -/
def Mn.act (S:Mn) (n:Nat) (a:Ac):Mn :=
 if a.op=0 then S.tick (actI a.N n) else if a.op=4 then S.crash (actI a.N n) a.P else if a.op=5 then S.back n (actI a.N n)
 else if a.op=6 then S.submit (actI a.N n) a.B else if a.op=1 then S.fetch a.K else if a.op=2 then S.lose a.K else if a.op=3 then S.twice a.K else S
structure BInv (n cl lv:Nat) (S:Mn):Prop where
 sv:SInv n cl S
 n1:1≤n
 n5:n≤5
 up:∀i,i<n→(S.at i).up=true→UpI (S.at i).s (S.at i).k∧(S.at i).s.lives=(S.at i).k.lives
 dn:∀i,i<n→(S.at i).up=false→DnI (S.at i).s (S.at i).k
 liv:∀i,i<n→0≤(S.at i).k.lives∧(S.at i).k.lives≤lv
 gn:S.gn≤lv
/-- what one node's turn comes to -/
structure Turn (n cl lv i:Nat) (S:Mn) (nd:Nod):Prop where
 own:nd.s.own=i
 nn:nd.s.n=n
 up:nd.up=true→UpI nd.s nd.k∧nd.s.lives=nd.k.lives∧nd.s.clock≤cl
 dn:nd.up=false→DnI nd.s nd.k
 liv:0≤nd.k.lives∧nd.k.lives≤lv
section
variable {n cl lv:Nat} {S:Mn}
theorem BInv.mono {cl' lv':Nat} (h:BInv n cl lv S) (hc:cl≤cl') (hl:lv≤lv'):BInv n cl' lv' S :=
 ⟨h.sv.mono hc,h.n1,h.n5,h.up,h.dn,fun i hi=>⟨(h.liv i hi).1,by have:=(h.liv i hi).2;omega⟩,Nat.le_trans h.gn hl⟩
theorem BInv.set {i:Nat} {nd:Nod} (h:BInv n cl lv S) (hi:i<n) (ht:Turn n cl lv i S nd):BInv n cl lv (S.set i nd):=by
 have hat:∀j,(S.set i nd).at j=if j=i then nd else S.at j:=fun j=>Mn.at_set S i j _ (by rw [h.sv.nl];exact hi)
 refine ⟨⟨by simp [Mn.set,h.sv.nl],fun j hj=>?_,fun j hj hu=>?_,h.sv.q,h.sv.ql⟩,h.n1,h.n5,fun j hj hu=>?_,fun j hj hu=>?_,fun j hj=>?_,h.gn⟩
 all_goals
  by_cases e:j=i
  ·subst e
   simp only [hat,if_pos] at *
   first
    | exact ⟨ht.own,ht.nn⟩
    | exact ⟨(ht.up hu).1.wf,(ht.up hu).2.2⟩
    | exact ⟨(ht.up hu).1,(ht.up hu).2.1⟩
    | exact ht.dn hu
    | exact ht.liv
  ·simp only [hat,if_neg e] at *
   first
    | exact h.sv.id j hj
    | exact h.sv.wf j hj hu
    | exact h.up j hj hu
    | exact h.dn j hj hu
    | exact h.liv j hj
theorem BInv.send {fr:Nat} (h:BInv n cl lv S) (ms:List Msg) (hf:fr<n) (hm:∀m∈ms,GoodM fr n m):BInv n cl lv (S.send ms) :=
 ⟨⟨h.sv.nl,h.sv.id,h.sv.wf,fun m hm2=>by
  rcases send_mem _ _ _ hm2 with h1 | h1
  ·exact h.sv.q m h1
  ·exact ⟨fr,hf,hm m h1⟩,send_len _ _ h.sv.ql⟩,h.n1,h.n5,h.up,h.dn,h.liv,h.gn⟩
theorem Turn.of {i d:Nat} {p:List Msg×Rp×Dk} (h:BInv n cl lv S) (hi:i<n) (hu:(S.at i).up=true) (ho:Out (S.at i).s d p) (hk:KS (S.at i).k p.2.2) (hn:NOk p.2.1) (hg:Gr (S.at i).s p.2.1):Turn n (cl+d) lv i S ⟨p.2.1,p.2.2,true⟩:=by
 have h1:=h.up i hi hu
 refine ⟨ho.own.trans (h.sv.id i hi).1,ho.n.trans (h.sv.id i hi).2,fun _=>⟨⟨ho.wf,hn,hk.sf h1.1.sf,hk.off.trans h1.1.off⟩,hg.liv.trans (h1.2.trans hk.lives.symm),?_⟩,(fun e=>by cases e),?_⟩
 ·have:=ho.clock;have:=(h.sv.wf i hi hu).2;show p.2.1.clock≤_;omega
 ·show 0≤p.2.2.lives∧p.2.2.lives≤_
  rw [hk.lives];exact h.liv i hi
theorem BInv.call {i d:Nat} {p:List Msg×Rp×Dk} (h:BInv n cl lv S) (hi:i<n) (hu:(S.at i).up=true) (ho:Out (S.at i).s d p) (hk:KS (S.at i).k p.2.2) (hn:NOk p.2.1) (hg:Gr (S.at i).s p.2.1) :
  BInv n (cl+d) lv ((S.set i ⟨p.2.1,p.2.2,true⟩).send p.1):=by
 have ht:=Turn.of h hi hu ho hk hn hg
 have h2:BInv n (cl+d) lv (S.set i ⟨p.2.1,p.2.2,true⟩):=(h.mono (Nat.le_add_right _ _) (Nat.le_refl _)).set hi ⟨ht.own,ht.nn,ht.up,ht.dn,ht.liv⟩
 refine h2.send p.1 hi ?_
 have:=ho.ms
 rw [(h.sv.id i hi).1,(h.sv.id i hi).2] at this
 exact this
theorem BInv.tick (h:BInv n cl lv S) (i:Nat) (hi:i<n):BInv n (cl+1) lv (S.tick i):=by
 unfold Mn.tick
 split
 ·rename_i hu
  have h1:=(h.up i hi hu).1
  exact h.call hi hu (out_tick h1.wf) ks_tick (nok_tick h1.nok h1.wf) (st_tick h1.wf).gr
 ·exact h.mono (Nat.le_succ _) (Nat.le_refl _)
theorem BInv.bring (h:BInv n cl lv S) (m:Msg) (h0:0≤m.dst) (h1:m.dst<(n:Int)):BInv n cl lv (S.bring m):=by
 unfold Mn.bring
 split
 ·rename_i hu
  have hi:m.dst.toNat<n:=by omega
  have h2:=(h.up _ hi hu).1
  exact h.call (d:=0) hi hu (out_get h2.wf m) (ks_get m) (nok_get h2.nok h2.wf m) (st_get h2.wf m).gr
 ·exact h
theorem BInv.submit (h:BInv n cl lv S) (i:Nat) (hi:i<n) (rec:List UInt8):BInv n cl (lv+1) (S.submit i rec):=by
 unfold Mn.submit
 split
 ·rename_i hu
  have h1:=(h.up i hi hu).1
  have ho:=out_submit h1.wf rec
  have hb:=h.call (d:=0) hi hu ho (ks_submit rec) (nok_submit h1.nok rec) (gr_submit h1.wf rec)
  simp only
  split
  ·have h2:=hb.mono (Nat.le_refl _) (Nat.le_succ lv)
   exact ⟨⟨h2.sv.nl,h2.sv.id,h2.sv.wf,h2.sv.q,h2.sv.ql⟩,h2.n1,h2.n5,h2.up,h2.dn,h2.liv,Nat.succ_le_succ hb.gn⟩
  ·exact hb.mono (Nat.le_refl _) (Nat.le_succ lv)
 ·exact h.mono (Nat.le_refl _) (Nat.le_succ lv)
theorem BInv.crash (h:BInv n cl lv S) (i:Nat) (hi:i<n) (keep:Int):BInv n cl lv (S.crash i keep):=by
 refine h.set hi ⟨(h.sv.id i hi).1,(h.sv.id i hi).2,(fun e=>by cases e),fun _=>?_,h.liv i hi⟩
 cases hu:(S.at i).up with
 | true=>exact (h.up i hi hu).1.crash keep
 | false=>exact (h.dn i hi hu).crash keep
theorem back_lives (i m:Nat) (s:Rp) (k:Dk):(backS i m s k).lives=k.lives+1∧(backK s k).lives=k.lives+1:=by
 obtain ⟨t,c,g,e⟩:=replay_same (rpNew i m (k.lives+1) (backR s k)) ((backR s k).map noteD)
 constructor
 ·unfold backS
  rw [e];rfl
 ·unfold backK cleanD
  split<;>rfl
theorem BInv.back (h:BInv n cl lv S) (i:Nat) (hi:i<n):BInv n cl (lv+1) (S.back n i):=by
 unfold Mn.back
 split
 ·exact h.mono (Nat.le_refl _) (Nat.le_succ lv)
 ·rename_i hu
  have hu:(S.at i).up=false:=by simpa using hu
  obtain ⟨h1,h2,h3,h4⟩:=back_up (h.dn i hi hu)
  rw [(h.sv.id i hi).1,(h.sv.id i hi).2] at h1 h2 h3 h4
  have hl:=back_lives i n (S.at i).s (S.at i).k
  have hv:=h.liv i hi
  refine (h.mono (Nat.le_refl _) (Nat.le_succ lv)).set hi ⟨h2,h3,fun _=>⟨h1,by rw [hl.1,hl.2],by show (backS i n (S.at i).s (S.at i).k).clock≤cl;rw [h4];exact Nat.zero_le _⟩,(fun e=>by cases e),?_⟩
  show 0≤(backK (S.at i).s (S.at i).k).lives∧(backK (S.at i).s (S.at i).k).lives≤_
  rw [hl.2]
  omega
theorem BInv.ofq {q:List Msg} (h:BInv n cl lv S) (hq:∀m∈q,m∈S.q) (hl:q.length≤2000):BInv n cl lv { S with q:=q } :=
 ⟨⟨h.sv.nl,h.sv.id,h.sv.wf,fun m hm=>h.sv.q m (hq m hm),hl⟩,h.n1,h.n5,h.up,h.dn,h.liv,h.gn⟩
theorem BInv.lose (h:BInv n cl lv S) (K:Int):BInv n cl lv (S.lose K):=h.ofq (fun m hm=>by
 rcases List.mem_append.1 hm with h1 | h1
 ·exact List.mem_of_mem_take h1
 ·exact List.mem_of_mem_drop h1) (by
 have:=h.sv.ql
 show (S.q.take _++S.q.drop _).length≤2000
 simp only [List.length_append,List.length_take,List.length_drop];omega)
theorem BInv.fetch (h:BInv n cl lv S) (K:Int):BInv n cl lv (S.fetch K):=by
 unfold Mn.fetch
 split
 ·exact h
 ·rename_i m hm
  obtain ⟨fr,hf,hg⟩:=h.sv.q m (List.mem_of_getElem? hm)
  exact (h.lose K).bring m hg.d0 hg.dn
theorem BInv.twice (h:BInv n cl lv S) (K:Int):BInv n cl lv (S.twice K):=by
 unfold Mn.twice
 split
 ·exact h
 ·rename_i m hm
  refine h.ofq (fun x hx=>?_) (addQ_len _ _ h.sv.ql)
  rcases addQ_mem _ _ _ hx with h1 | h1
  ·exact h1
  ·rw [h1];exact List.mem_of_getElem? hm
theorem actI_lt (N:Int) (h:1≤n):actI N n<n:=(actI_ok N n h).2
theorem BInv.act (h:BInv n cl lv S) (a:Ac):BInv n (cl+1) (lv+1) (S.act n a):=by
 have hi:=actI_lt a.N h.n1
 have c1:=Nat.le_succ cl
 have l1:=Nat.le_succ lv
 unfold Mn.act
 split
 ·exact (h.tick _ hi).mono (Nat.le_refl _) l1
 ·split
  ·exact (h.crash _ hi _).mono c1 l1
  ·split
   ·exact (h.back _ hi).mono c1 (Nat.le_refl _)
   ·split
    ·exact (h.submit _ hi _).mono c1 (Nat.le_refl _)
    ·split
     ·exact (h.fetch _).mono c1 l1
     ·split
      ·exact (h.lose _).mono c1 l1
      ·split
       ·exact (h.twice _).mono c1 l1
       ·exact h.mono c1 l1
def Mn.acts (S:Mn) (n:Nat) (l:List Ac):Mn:=l.foldl (fun S a=>S.act n a) S
theorem BInv.ticks (h:BInv n cl lv S) (k:Nat) (hk:k≤n):BInv n (cl+k) lv (S.ticks k):=by
 induction k with
 | zero=>exact h
 | succ k ih =>
  rw [ticks_succ]
  exact (ih (by omega)).tick k (by omega)
theorem BInv.drain (h:BInv n cl lv S) (f:Nat):BInv n cl lv (S.drain f):=by
 induction f generalizing S with
 | zero=>exact h
 | succ f ih =>
  unfold Mn.drain
  split
  ·exact h
  ·rename_i m q hq
   obtain ⟨fr,hf,hg⟩:=h.sv.q m (by rw [hq];exact List.mem_cons_self)
   exact ih ((h.ofq (q:=q) (fun x hx=>by rw [hq];exact List.mem_cons_of_mem _ hx) (by have:=h.sv.ql;rw [hq] at this;simp at this;omega)).bring m hg.d0 hg.dn)
theorem BInv.calm (h:BInv n cl lv S) (r:Nat):BInv n (cl+r*n) lv (Mn.calm n r S).2:=by
 induction r generalizing S cl with
 | zero=>simpa [Mn.calm] using h
 | succ r ih =>
  have h1:=(h.ticks n (Nat.le_refl _)).drain 4000
  unfold Mn.calm
  split
  ·have h2:=ih h1
   have e:cl+n+r*n=cl+(r+1)*n:=by rw [Nat.succ_mul];omega
   rw [e] at h2
   exact h2
  ·exact h1.mono (by rw [Nat.succ_mul];omega) (Nat.le_refl _)
end
end Go.Proofs.Ytnicaicjgaoolaa
namespace Go.Proofs.Ytnicaicjgaoolaa
set_option maxRecDepth 20000
section
variable {n cl lv:Nat} {S:Mn}
theorem rp_new_up (j n:Nat) (hj:j<n) (hn:n≤5):UpI (rpNew j n 1 []) dk0:=by
 refine ⟨⟨by show 1≤n;omega,hn,hj,by simp [rpNew],by simp [rpNew],by simp [rpNew],by simp [rpNew],?_,?_,?_,?_,Nat.le_refl _,rfl,(fun h=>by cases h),Int.le_refl _,?_,Int.le_refl _,?_,(fun x hx=>by cases hx),Nat.le_refl _,fun x hx=>?_⟩,⟨⟨[],rfl,trivial,fun _=>⟨rfl,rfl,rfl⟩⟩,(fun h=>by cases h)⟩,(fun l q h=>by cases h),rfl⟩
 ·exact Int.le_refl _
 ·show ((0:Nat):Int)≤1048576;decide
 ·rfl
 ·exact Nat.le_refl _
 ·show (0:Int)≤_;decide
 ·show (-1:Int)<(n:Int);omega
 ·have:x∈List.replicate n ((0:Int),(0:Int),(0:Int)):=hx
  rw [List.eq_of_mem_replicate this]
  exact ⟨Int.le_refl _,Int.le_refl _⟩
theorem binv_begun (n:Nat) (h1:1≤n) (h5:n≤5):BInv n 0 1 (Mn.begun n):=by
 have hat:=begun_at n
 have hu:∀i,i<n→UpI (nodN n i).s (nodN n i).k:=fun i hi=>rp_new_up i n hi h5
 refine ⟨⟨by simp [Mn.begun],fun i hi=>by rw [hat i hi];exact ⟨rfl,rfl⟩,fun i hi _=>by rw [hat i hi];exact ⟨(hu i hi).wf,Nat.le_refl _⟩,(fun m hm=>by cases hm),Nat.zero_le _⟩,h1,h5,fun i hi _=>by rw [hat i hi];exact ⟨hu i hi,rfl⟩,(fun i hi hd=>by rw [hat i hi] at hd;cases hd),fun i hi=>by rw [hat i hi];exact ⟨show (0:Int)≤1 by decide,show (1:Int)≤((1:Nat):Int) by decide⟩,Nat.zero_le _⟩
/-- no record anywhere -/
structure QInv (n:Nat) (S:Mn):Prop where
 up:∀i,i<n→(S.at i).up=true→Qt (S.at i).s
 dsk:∀i,i<n→∀b∈(S.at i).s.wl.recs,b.length≤32
 q:∀m∈S.q,QtM m
theorem qinv_begun (n:Nat):QInv n (Mn.begun n):=by
 have hat:=begun_at n
 refine ⟨fun i hi _=>?_,fun i hi=>?_,(fun m hm=>by cases hm)⟩
 ·rw [hat i hi];exact ⟨(fun x hx=>by cases hx),(fun x hx=>by cases hx)⟩
 ·rw [hat i hi];exact (fun x hx=>by cases hx)
theorem keep_long (S:Mn) (l:List Ac) (n:Nat):(S.acts n l).long=S.long∧(S.acts n l).bad=S.bad:=by
 have hs:∀(S:Mn) ms,(S.send ms).long=S.long∧(S.send ms).bad=S.bad:=fun S ms=>⟨rfl,rfl⟩
 have hb:∀(S:Mn) m,(S.bring m).long=S.long∧(S.bring m).bad=S.bad:=fun S m=>by unfold Mn.bring;split<;>exact ⟨rfl,rfl⟩
 have ha:∀(S:Mn) a,(S.act n a).long=S.long∧(S.act n a).bad=S.bad:=fun S a=>by
  unfold Mn.act
  split
  ·unfold Mn.tick;split<;>exact ⟨rfl,rfl⟩
  ·split
   ·exact ⟨rfl,rfl⟩
   ·split
    ·unfold Mn.back;split<;>exact ⟨rfl,rfl⟩
    ·split
     ·unfold Mn.submit
      split
      ·simp only
       split<;>exact ⟨rfl,rfl⟩
      ·exact ⟨rfl,rfl⟩
     ·split
      ·unfold Mn.fetch
       split
       ·exact ⟨rfl,rfl⟩
       ·exact hb _ _
      ·split
       ·exact ⟨rfl,rfl⟩
       ·split
        ·unfold Mn.twice;split<;>exact ⟨rfl,rfl⟩
        ·exact ⟨rfl,rfl⟩
 induction l generalizing S with
 | nil=>exact ⟨rfl,rfl⟩
 | cons a l ih=>exact ⟨(ih (S.act n a)).1.trans (ha S a).1,(ih (S.act n a)).2.trans (ha S a).2⟩
theorem calm_long (S:Mn) (r:Nat):(Mn.calm n r S).2.long=S.long∧(Mn.calm n r S).2.bad=S.bad:=by
 have hb:∀(S:Mn) m,(S.bring m).long=S.long∧(S.bring m).bad=S.bad:=fun S m=>by unfold Mn.bring;split<;>exact ⟨rfl,rfl⟩
 have ht:∀(S:Mn) i,(S.tick i).long=S.long∧(S.tick i).bad=S.bad:=fun S m=>by unfold Mn.tick;split<;>exact ⟨rfl,rfl⟩
 have hts:∀(S:Mn) k,(S.ticks k).long=S.long∧(S.ticks k).bad=S.bad:=fun S k=>by
  induction k with
  | zero=>exact ⟨rfl,rfl⟩
  | succ k ih=>rw [ticks_succ];exact ⟨(ht _ _).1.trans ih.1,(ht _ _).2.trans ih.2⟩
 have hd:∀f (S:Mn),(S.drain f).long=S.long∧(S.drain f).bad=S.bad:=fun f=>by
  induction f with
  | zero=>exact fun S=>⟨rfl,rfl⟩
  | succ f ih =>
   intro S
   unfold Mn.drain
   split
   ·exact ⟨rfl,rfl⟩
   ·exact ⟨(ih _).1.trans (hb _ _).1,(ih _).2.trans (hb _ _).2⟩
 induction r generalizing S with
 | zero=>exact ⟨rfl,rfl⟩
 | succ r ih =>
  have e:=hd 4000 (S.ticks n)
  have e2:=hts S n
  unfold Mn.calm
  split
  ·exact ⟨(ih _).1.trans (e.1.trans e2.1),(ih _).2.trans (e.2.trans e2.2)⟩
  ·exact ⟨e.1.trans e2.1,e.2.trans e2.2⟩
/-- how much a node that is up tells -/
def toldOf (nd:Nod):Nat:=(agreedM nd.s).length
theorem set_grows {i:Nat} {nd:Nod} (hl:S.nodes.length=n) (hi:i<n) (h1:nd.up=true→(S.at i).up=true∧Gr (S.at i).s nd.s) (j:Nat) (hu:((S.set i nd).at j).up=true):(S.at j).up=true∧Gr (S.at j).s ((S.set i nd).at j).s:=by
 rw [Mn.at_set S i j _ (by rw [hl];exact hi)] at hu ⊢
 by_cases e:j=i
 ·subst e
  rw [if_pos rfl] at hu ⊢
  exact h1 hu
 ·rw [if_neg e] at hu ⊢
  exact ⟨hu,Gr.refl _⟩
/-- an act, but for one that lets power come back: who is up was up, and tells no less -/
theorem act_grows (hb:BInv n cl lv S) (a:Ac) (ha:a.op≠5) (j:Nat) (hu:((S.act n a).at j).up=true):(S.at j).up=true∧Gr (S.at j).s ((S.act n a).at j).s:=by
 have hi:=actI_lt a.N hb.n1
 have hnl:=hb.sv.nl
 have same:∀(T:Mn),T.nodes=S.nodes→(T.at j).up=true→(S.at j).up=true∧Gr (S.at j).s (T.at j).s:=fun T e hu=>by
  have e2:T.at j=S.at j:=by unfold Mn.at;rw [e]
  rw [e2] at hu ⊢
  exact ⟨hu,Gr.refl _⟩
 revert hu
 unfold Mn.act
 split
 ·unfold Mn.tick
  split
  ·rename_i hu0
   intro hu
   exact set_grows hnl hi (fun _=>⟨hu0,(st_tick (hb.up _ hi hu0).1.wf).gr⟩) j hu
  ·exact same _ rfl
 ·split
  ·exact fun hu=>set_grows hnl hi (fun e=>by cases e) j hu
  ·split
   ·unfold Mn.submit
    split
    ·rename_i hu0
     simp only
     intro hu
     have hg:=gr_submit (hb.up _ hi hu0).1.wf a.B
     split at hu<;>split
     all_goals first | exact set_grows (nd:=⟨(submitM (S.at (actI a.N n)).s (S.at (actI a.N n)).k a.B).2.2.1,(submitM (S.at (actI a.N n)).s (S.at (actI a.N n)).k a.B).2.2.2,true⟩) hnl hi (fun _=>⟨hu0,hg⟩) j hu | (rename_i x y;exact absurd x y) | (rename_i x y;exact absurd y x)
    ·exact same _ rfl
   ·split
    ·unfold Mn.fetch
     split
     ·exact same _ rfl
     ·rename_i m hm
      obtain ⟨fr,hf,hg⟩:=hb.sv.q m (List.mem_of_getElem? hm)
      unfold Mn.bring
      split
      ·rename_i hu0
       intro hu
       have hi2:m.dst.toNat<n:=by have:=hg.d0;have:=hg.dn;omega
       exact set_grows (S:=S) (nd:=⟨(getM (S.at m.dst.toNat).s (S.at m.dst.toNat).k m).2.1,(getM (S.at m.dst.toNat).s (S.at m.dst.toNat).k m).2.2,true⟩) hnl hi2 (fun _=>⟨hu0,(st_get (hb.up _ hi2 hu0).1.wf m).gr⟩) j hu
      ·exact same _ rfl
    ·split
     ·exact same _ rfl
     ·split
      ·unfold Mn.twice
       split<;>exact same _ rfl
      ·exact same _ rfl
end
end Go.Proofs.Ytnicaicjgaoolaa
namespace Go.Proofs.Ytnicaicjgaoolaa
open Go.RowKit Go.ChangeMaps Go.WideMaps Go.Maps
set_option maxRecDepth 20000
section
variable {w:World} {A Z:List Nat} {c n cl lv:Nat} {S:Mn}
theorem do_any (h:Sy w A Z c n S) (hi:BInv n cl lv S) (x:Ac) (bo:Option Addr) (bc:Nat) (hb:ImmZ w A (.slice bo x.B.length bc) x.B) (hx:x.B.length≤300) (hp : -9223372036854775808≤x.P∧x.P≤9223372036854775807) (hcl:cl≤900000) (hlv:lv≤900000) :
  Calls Try.prog 11 #[.pointer (some ⟨c,0,none⟩),.agg #[.int .i64 x.op,.int .i64 x.N,.int .i64 x.K,.int .i64 x.P,.slice bo x.B.length bc]] w fun e w'=>e = .returned (.tuple #[])∧SyP w w' A Z c n (S.act n x):=by
 obtain ⟨o,N,K,P,B⟩:=x
 unfold Mn.act
 simp only
 by_cases h0:o=0
 ·subst h0
  rw [if_pos rfl]
  exact do_tick h hi.sv N K P bo B.length bc hi.n1 hcl
 rw [if_neg h0]
 by_cases h4:o=4
 ·subst h4
  rw [if_pos rfl]
  refine do_crash h (fun i hin=>?_) N K P hp.1 hp.2 bo B.length bc hi.n1
  cases hu:(S.at i).up with
  | true =>
   have h9:=(hi.up i hin hu).1
   refine ⟨h9.sf,?_⟩
   have:=h9.wf.tot;have:=h9.wf.room;omega
  | false =>
   have h9:=hi.dn i hin hu
   refine ⟨h9.sf,?_⟩
   have:=h9.tot;have:=h9.room;omega
 rw [if_neg h4]
 by_cases h5:o=5
 ·subst h5
  rw [if_pos rfl]
  exact do_back h (fun i hin hu=>⟨hi.dn i hin hu,(hi.sv.id i hin).2,(hi.liv i hin).1,by have:=(hi.liv i hin).2;omega⟩) N K P bo B.length bc hi.n1 hi.n5
 rw [if_neg h5]
 by_cases h6:o=6
 ·subst h6
  rw [if_pos rfl]
  exact do_submit h hi.sv N K P bo B.length bc B hb rfl (by have:B.length≤300:=hx;omega) (by have:=hi.gn;omega) hi.n1
 rw [if_neg h6]
 by_cases h1:o=1
 ·subst h1
  rw [if_pos rfl]
  exact do_fetch h hi.sv N K P bo B.length bc hi.n1
 rw [if_neg h1]
 by_cases h2:o=2
 ·subst h2
  rw [if_pos rfl]
  exact do_lose h hi.sv N K P bo B.length bc hi.n1
 rw [if_neg h2]
 by_cases h3:o=3
 ·subst h3
  rw [if_pos rfl]
  exact do_twice h hi.sv N K P bo B.length bc hi.n1
 rw [if_neg h3]
 exact (do_other h hi.sv o N K P bo B.length bc hi.n1 h0 h1 h2 h3 h4 h5 h6)
end
end Go.Proofs.Ytnicaicjgaoolaa
namespace Go.Proofs.Ytnicaicjgaoolaa
set_option maxRecDepth 100000
def aw1:Bool×Mn:=Mn.calm 1 60 (Mn.begun 1)
def aw2:Mn:=aw1.2.set 0 ⟨(leadsM (aw1.2.at 0).s (aw1.2.at 0).k).2,(aw1.2.at 0).k,true⟩
def aw3:Bool×Mn:=Mn.calm 1 1 (aw2.act 1 ⟨6,0,0,0,[120]⟩)
def awakeB:Bool:=aw1.1&&(aw1.2.at 0).up&&(leadsM (aw1.2.at 0).s (aw1.2.at 0).k).1&&aw3.1&&(aw3.2.look 1).1&&((aw3.2.look 1).2.long==[[120]])
theorem awakeB_true:awakeB=true:=by decide +kernel
end Go.Proofs.Ytnicaicjgaoolaa
namespace Go.Proofs.Ytnicaicjgaoolaa
open Go.RowKit Go.ChangeMaps Go.WideMaps Go.Maps
set_option maxRecDepth 20000
def Mn.leads (S:Mn) (i:Nat):Bool:=(leadsM (S.at i).s (S.at i).k).1
def Mn.leadsS (S:Mn) (i:Nat):Mn:=S.set i ⟨(leadsM (S.at i).s (S.at i).k).2,(S.at i).k,true⟩
/-- where a node is up its being done is known -/
theorem leads_same {s:Rp} {k:Dk} (h1:k.off=false) (h2:s.lives=k.lives):(leadsM s k).1=(s.leads && !s.done)∧(leadsM s k).2=s:=by
 have hd:doneM s k=s.done:=by
  unfold doneM
  rw [h1,h2];simp
 have he:doneS s k=s:=by unfold doneS;rw [hd]
 unfold leadsM
 by_cases hl:s.leads=true
 ·rw [if_pos hl]
  exact ⟨by rw [hd,hl];rfl,he⟩
 ·rw [if_neg hl]
  exact ⟨by simp at hl;rw [hl];rfl,rfl⟩
theorem set_same {n cl lv:Nat} {S:Mn} (h:BInv n cl lv S) (i:Nat) (hi:i<n) (hu:(S.at i).up=true):S.set i ⟨(S.at i).s,(S.at i).k,true⟩=S:=by
 have e:(⟨(S.at i).s,(S.at i).k,true⟩:Nod)=S.at i:=by rw [←hu]
 rw [e]
 have hl:i<S.nodes.length:=by rw [h.sv.nl];exact hi
 have e2:S.at i=S.nodes[i]:=by unfold Mn.at;simp [List.getD_eq_getElem?_getD,hl]
 unfold Mn.set
 rw [e2,List.set_getElem_self]
theorem leadsS_same {n cl lv:Nat} {S:Mn} (h:BInv n cl lv S) (i:Nat) (hi:i<n) (hu:(S.at i).up=true):S.leadsS i=S∧S.leads i=((S.at i).s.leads && !(S.at i).s.done):=by
 have h1:=h.up i hi hu
 have h2:=leads_same h1.1.off h1.2
 unfold Mn.leadsS Mn.leads
 rw [h2.2,h2.1]
 exact ⟨set_same h i hi hu,rfl⟩
section
variable {w w':World} {A A' Y Z Z':List Nat} {c n cl lv:Nat} {S:Mn} {rs ds ls:Nat→Nat} {Xs:Nat→List Nat} {vr vd:Value} {gu:Nat} {qv gv lgv:Value}
theorem leads_sy (h:SyC w A Y c n S rs ds ls Xs vr vd gu qv gv lgv) (hz:∀b,b∈Z↔b∈Y∨∃i,i<n∧b∈Xs i) (i:Nat) (hi:i<n) (hu:(S.at i).up=true) :
  Calls Try.prog 15 #[.pointer (some ⟨rs i,0,none⟩)] w fun e w'=>e = .returned (.bool (S.leads i))∧SyP w w' A Z c n (S.leadsS i):=by
 have hn:=(h.node i hi).up hu
 refine (leads_any hn).mono ?_
 rintro e w2 ⟨rfl,hn2,ho⟩
 refine ⟨rfl,?_⟩
 have hm:Mv A A (Xs i) (Xs i) w w2:=Mv.only ho (fun b hb=>by rw [List.mem_singleton.1 hb];exact hn.rX)
 obtain ⟨Z',hz',hmz⟩:=mv_call (Y:=Y) hi hz hm
 have hs:=h.call (nd:=⟨(leadsM (S.at i).s (S.at i).k).2,(S.at i).k,true⟩) hi hm ⟨fun _=>hn2,(fun e=>by cases e),hn2.xA⟩ hu.symm hn2.alt
 exact ⟨A,Z',⟨Y,rs,ds,ls,setF Xs i (Xs i),vr,vd,gu,qv,gv,lgv,hs,hz'⟩,hmz⟩
end
end Go.Proofs.Ytnicaicjgaoolaa
namespace Go.Proofs.Ytnicaicjgaoolaa
open Go.RowKit Go.ChangeMaps Go.WideMaps Go.Maps
set_option maxRecDepth 20000
section
variable {w:World}
set_option maxHeartbeats 4000000 in
theorem awake_any:Calls Try.prog 8 #[] w fun e w'=>e = .returned (.bool true)∧Below w.heap.size w w':=by
 have HA:=Lib.hid awakeB_true
 unfold awakeB at HA
 have hb0:=binv_begun 1 (Nat.le_refl _) (by omega)
 have hb1:BInv 1 (0+60*1) 1 aw1.2:=hb0.calm 60
 have HB0:=Lib.hid hb0
 have HB1:=Lib.hid hb1
 have HAS:Hid (aw1.1=true∧(aw1.2.at 0).up=true∧aw1.2.leads 0=true∧aw3.1=true∧(aw3.2.look 1).1=true∧(aw3.2.look 1).2.long=[[120]]):=Lib.hid (by
  have h:=HA.out
  simp only [Bool.and_eq_true,beq_iff_eq] at h
  obtain ⟨⟨⟨⟨⟨h1,h2⟩,h3⟩,h4⟩,h5⟩,h6⟩:=h
  exact ⟨h1,h2,h3,h4,h5,h6⟩)
 clear hb0 hb1 HA
 go_enter Try.func8,Try.ntmps8
 go_wp2_with fail
 refine (begun_any (A:=[]) 1 (by omega) (fun b hb=>by cases hb)).mono ?_
 rintro e w1 ⟨c,A1,Z1,rfl,hs1,hm1⟩
 have H1:=Lib.hid hs1
 have M1:=Lib.hid hm1
 clear hs1 hm1
 go_wp2_with fail
 refine (calm_any H1.out HB0.out.sv 60 (by omega) (by omega) (by omega)).mono ?_
 rintro e w2 ⟨he,hs2⟩
 rw [show (Mn.calm 1 60 (Mn.begun 1)).1=true from HAS.out.1] at he
 subst he
 obtain ⟨A2,Z2,⟨Y,rs,ds,ls,Xs,vr,vd,gu,qv,gv,lgv,hs,hz⟩,hm2⟩:=hs2
 obtain ⟨gr,kr,evr,hkr,hrow⟩:=ptr_cell hs.rr (by omega)
 subst evr
 have hc0:w2.cell? ⟨c,0,none⟩=some (.slice (some ⟨gr,0,none⟩) 1 kr):=by rw [cell_heap hs.cell];rfl
 have hr0:=hrow 0 (by omega)
 have HLD:=Lib.hid (leads_sy hs hz 0 (by omega) HAS.out.2.1)
 have HLE:Hid ((Mn.calm 1 60 (Mn.begun 1)).2.leads 0=true):=Lib.hid HAS.out.2.2.1
 have M2:=Lib.hid (M1.out.trans hm2)
 clear hs hz hm2 hrow
 go_wp2_with fail
 refine HLD.out.mono ?_
 rintro e w3 ⟨he,hs3⟩
 rw [HLE.out] at he
 subst he
 obtain ⟨A3,Z3,hs3,hm3⟩:=hs3
 have H3:Hid (Sy w3 A3 Z3 c 1 aw2):=Lib.hid hs3
 have M3:=Lib.hid (M2.out.trans hm3)
 clear hs3 hm3 HLD
 have kc:=fun (w:World) (C:Array Value) (n c:Nat)=>Lib.run_convert_bytes_const (P:=Try.prog) w 29 5 C n c Try.underlying29 Try.underlying5
 have hb4:Below w3.heap.size w3 (w3.alloc (.cells #[.int .u8 120] 5 (1,2))):=(Below.refl _ _).alloc (Nat.le_refl _) _
 have H4:=Lib.hid (H3.out.below hb4)
 have M4:=Lib.hid (M3.out.trans (Mv.below hb4))
 have HIB:Hid (Imm (w3.alloc (.cells #[.int .u8 120] 5 (1,2))) A3 (.slice (some ⟨w3.heap.size,0,none⟩) 1 1) [120]):=Lib.hid ⟨_,_,rfl,isB_new w3 [120] #[.int .u8 120] rfl 5 (1,2) w3.heap.size rfl 1 rfl 1,Nat.le_refl _,fun p hp=>by
  cases hp
  obtain ⟨Y,rs,ds,ls,Xs,vr,vd,gu,qv,gv,lgv,hs,hz⟩:=H3.out
  exact ⟨fun hm=>by have:=hs.alt _ hm;simp at this,by simp⟩⟩
 have hb2:BInv 1 (0+60*1) 1 aw2:=by
  have e:aw2=aw1.2.leadsS 0:=rfl
  rw [e,(leadsS_same HB1.out 0 (by omega) HAS.out.2.1).1]
  exact HB1.out
 have HB3:Hid (BInv 1 (0+60*1+1) (1+1) (aw2.act 1 ⟨6,0,0,0,[120]⟩)):=Lib.hid (hb2.act _)
 have HB2:=Lib.hid hb2
 have HB4:Hid (BInv 1 (0+60*1+1+1*1) (1+1) aw3.2):=Lib.hid (HB3.out.calm 1)
 clear hb4 hb2
 go_wp2_with fail
 refine (do_any H4.out HB2.out ⟨6,0,0,0,[120]⟩ _ _ (.inr HIB.out) (by decide) ⟨by decide,by decide⟩ (by omega) (by omega)).mono ?_
 rintro e w5 ⟨rfl,A5,Z5,hs5,hm5⟩
 have H5:=Lib.hid hs5
 have M5:=Lib.hid (M4.out.trans hm5)
 clear hs5 hm5
 go_wp2_with fail
 refine (calm_any H5.out HB3.out.sv 1 (by omega) (by omega) (by omega)).mono ?_
 rintro e w6 ⟨he,A6,Z6,hs6,hm6⟩
 rw [show (Mn.calm 1 1 (aw2.act 1 ⟨6,0,0,0,[120]⟩)).1=true from HAS.out.2.2.2.1] at he
 subst he
 have H6:Hid (Sy w6 A6 Z6 c 1 aw3.2):=Lib.hid hs6
 have M6:=Lib.hid (M5.out.trans hm6)
 clear hs6 hm6
 go_wp2_with fail
 refine (look_any H6.out (fun i hi hu=>(HB4.out.up i hi hu).1.wf) (by omega)).mono ?_
 rintro e w7 ⟨he,A7,Z7,⟨Y7,rs7,ds7,ls7,Xs7,vr7,vd7,gu7,qv7,gv7,lgv7,hs7,hz7⟩,hm7⟩
 rw [HAS.out.2.2.2.2.1] at he
 subst he
 have hlg:=hs7.long
 rw [HAS.out.2.2.2.2.2] at hlg
 obtain ⟨al,cal,e9,_,_,hatA⟩:=immL_at hlg
 obtain ⟨gl,e8,hatB⟩:=hatA 0 (by decide)
 subst e8
 subst e9
 obtain ⟨xa,xm,xk,hx1,hx2⟩:=hatB w7 (Below.refl _ _)
 have hc5:w7.cell? ⟨c,5,none⟩=some (.slice (some ⟨gl,0,none⟩) 1 cal):=by rw [cell_heap hs7.cell];rfl
 have hx1:w7.cell? ⟨gl,0,none⟩=some (.slice xa xm xk):=hx1
 have hcv:(convert 29 9 (.slice xa xm xk)).run Try.prog w7 = .ok (.string (strB [120])) w7:=conv_any _ _ _ _ _ hx2
 have heq:((strB [120]).toList==[120])=true:=by decide +kernel
 have HM7:Hid (Below w.heap.size w w7):=Lib.hid (((M6.out.trans hm7).mv.only).below (Nat.le_refl _) (fun k hk=>by cases hk))
 clear hs7 hz7 hm7 hlg hatA hatB hx2
 generalize strB [120]=sx at *
 go_wp2_with fail
 go_ret
 exact ⟨rfl,HM7.out⟩
end
end Go.Proofs.Ytnicaicjgaoolaa
namespace Go.Proofs.Ytnicaicjgaoolaa
open Go.RowKit Go.ChangeMaps Go.WideMaps Go.Maps
set_option maxRecDepth 20000
/-- all of it in a world behind w; blocks that stay -/
structure LsA (w wr:World) (A Z:List Nat) (c k:Nat) (S:Mn) (Ts:List (Nat×Obj)):Prop where
 sy:Sy wr A Z c k S
 bel:Below w.heap.size w wr
 age:∀b∈A,w.heap.size≤b
 ts:∀p∈Ts,p.1∈A∧p.1∉Z∧wr.heap[p.1]? = some p.2
structure Ls (w wr:World) (c k:Nat) (S:Mn) (Ts:List (Nat×Obj)):Prop where
 ex:∃A Z,LsA w wr A Z c k S Ts
section
variable {w wr w2:World} {A Z:List Nat} {c k:Nat} {S S':Mn} {Ts:List (Nat×Obj)}
theorem LsA.step (h:LsA w wr A Z c k S Ts) (hp:SyP wr w2 A Z c k S'):Ls w w2 c k S' Ts:=by
 obtain ⟨A2,Z2,h2,m2⟩:=hp
 have hz:=h.sy.zA
 refine ⟨A2,Z2,h2,h.bel.trans (m2.mv.only.below h.bel.size (fun b hb=>h.age b (hz b hb))),fun b hb=>?_,fun p hp=>?_⟩
 ·rcases m2.ext b hb with h1 | h1
  ·exact h.age b h1
  ·exact Nat.le_trans h.bel.size h1
 ·obtain ⟨h1,h3,h4⟩:=h.ts p hp
  refine ⟨m2.sub _ h1,fun hm=>?_,m2.mv.only.keeps h4 h3⟩
  rcases m2.mv.gr _ hm with h5 | h5
  ·exact h3 h5
  ·have:=lt_of_heap h4;omega
theorem LsA.ls (h:LsA w wr A Z c k S Ts):Ls w wr c k S Ts:=⟨A,Z,h⟩
theorem LsA.below (h:LsA w wr A Z c k S Ts) (hb:Below wr.heap.size wr w2):LsA w w2 A Z c k S Ts:=⟨h.sy.below hb,h.bel.trans (hb.mono h.bel.size),h.age,fun p hp=>⟨(h.ts p hp).1,(h.ts p hp).2.1,(Only.ofBelow hb []).keeps (h.ts p hp).2.2 (by simp)⟩⟩
/-- the law's own at the beginning -/
theorem LsA.begun {A2:List Nat} (hb:Below w.heap.size w wr) (h:Sy w2 A Z c k S) (hm:Mv [] A [] Z wr w2):LsA w w2 A Z c k S [] :=
 ⟨h,hb.trans ((hm.mv.only.below (Nat.le_refl _) (fun b hb=>by cases hb)).mono hb.size),fun b hb2=>by
  rcases hm.ext b hb2 with h1 | h1
  ·cases h1
  ·exact Nat.le_trans hb.size h1,fun p hp=>by cases hp⟩
end
end Go.Proofs.Ytnicaicjgaoolaa
