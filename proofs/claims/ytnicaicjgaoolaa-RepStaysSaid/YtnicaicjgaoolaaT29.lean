/-
  What the proof of the law leans on: contracts of the program's functions, one behind another. No condition.
-/
import Derived.Test.YtnicaicjgaoolaaT25
import Derived.Test.YtnicaicjgaoolaaT26
import Derived.Test.YtnicaicjgaoolaaT3
set_option linter.unusedVariables false
set_option linter.unusedSimpArgs false
namespace Go.Proofs.Ytnicaicjgaoolaa
open Go.RowKit Go.ChangeMaps Go.WideMaps Go.Maps
set_option maxRecDepth 20000
section
variable {w w':World} {A A' Y Z Z':List Nat} {c n cl:Nat} {S:Mn} {rs ds ls:Nat→Nat} {Xs:Nat→List Nat} {vr vd:Value} {gu:Nat} {qv gv lv:Value}
theorem SyC.newq {q:List Msg} {v':Value} (h:SyC w A Y c n S rs ds ls Xs vr vd gu qv gv lv) (hz:∀b,b∈Z↔b∈Y∨∃i,i<n∧b∈Xs i) (hq:IsQ w A Y v' q):SyP w (w.setCell ⟨c,3,none⟩ v') A Z c n { S with q:=q } :=
 h.setq hz ⟨A,Y,hq,Mv.refl _ _ _,h.alt,h.yA,fun b hb=>.inl hb,[],Only.refl _ _,fun b hb=>by cases hb⟩
theorem IsQ.head {m:Msg} {ms:List Msg} {v:Value} (h:IsQ w A Y v (m::ms)):∃g off k mv mu,v = .slice (some ⟨g,off,none⟩) (ms.length+1) k∧ms.length+1≤k∧w.cell? ⟨g,off,none⟩=some (.int .i64 m.frm)∧w.cell? ⟨g,off+1,none⟩=some (.int .i64 m.dst)∧w.cell? ⟨g,off+2,none⟩=some (.int .i64 m.kind)∧w.cell? ⟨g,off+3,none⟩=some mv∧w.cell? ⟨g,off+4,none⟩=some mu∧IsMsg w A m mv mu:=by
 rcases h with ⟨_,h⟩ | ⟨g,off,k,cur,h1,h2,h3,h4,h5,h6,h7⟩
 ·cases h
 ·obtain ⟨mv,mu,k0,k1,k2,k3,k4,hm⟩:=h7 0 (by simp)
  refine ⟨g,off*5,k,mv,mu,by rw [h1];rfl,by simpa using h2,?_,?_,?_,?_,?_,hm⟩<;>rw [cell_heap h5]
  ·exact k0
  ·exact k1
  ·exact k2
  ·exact k3
  ·exact k4
theorem ticks_succ (S:Mn) (i:Nat):S.ticks (i+1)=(S.ticks i).tick i:=by
 unfold Mn.ticks
 rw [List.range_succ,List.foldl_append]
 rfl
set_option maxHeartbeats 16000000 in
theorem calm_any (h:Sy w A Z c n S) (hi:SInv n cl S) (r:Nat) (hr:cl+r*n≤999999) (hr2:r≤1000) (hn1:1≤n) :
  Calls Try.prog 14 #[.pointer (some ⟨c,0,none⟩),.int .i64 (r:Int)] w fun e w'=>e = .returned (.bool (Mn.calm n r S).1)∧SyP w w' A Z c n (Mn.calm n r S).2:=by
 have H:=Lib.hid h
 have HI:=Lib.hid hi
 have HZA:=Lib.hid h.zA
 have HRB:=Lib.hid hr
 clear h hi hr
 go_enter Try.func14,Try.ntmps14
 go_wp2_with fail
 go_loopw [5] (fun i wr=>∃(t:Nat) (T:Mn),t≤r∧i = .int .i64 (t:Int)∧SyP w wr A Z c n T∧SInv n (cl+t*n) T∧Mn.calm n r S=Mn.calm n (r - t) T) (fun i _=>r - (intOf i).toNat)
 case atStart=>exact ⟨0,S,Nat.zero_le _,rfl,H.out.syp (Mv.refl _ _ _),by simpa using HI.out,rfl⟩
 case round =>
  obtain ⟨t,T,ht,rfl,hsy,hin,hcm⟩:=hrel
  have HSY:=Lib.hid hsy
  have HIN:=Lib.hid hin
  have HCM:=Lib.hid hcm
  clear hsy hin hcm
  have q6:IntKind.i64.wrap ((t:Int)+1)=(t:Int)+1:=IntWalk.i64_in _ (by omega)
  by_cases hlt:t<r
  ·have hlt2:(t:Int)<(r:Int):=by omega
   have HTN:Hid (cl+t*n+n≤999999):=Lib.hid (by
    have h1:t*n+n≤r*n:=by
     have:=Nat.mul_le_mul_right n (show t+1≤r by omega)
     rw [Nat.succ_mul] at this
     exact this
    have:=HRB.out
    omega)
   go_wp2_with fail
   go_loopw [6] (fun i w2=>∃j:Nat,j≤n∧i = .int .i64 (j:Int)∧SyP w w2 A Z c n (T.ticks j)) (fun i _=>n - (intOf i).toNat)
   case atStart=>exact ⟨0,Nat.zero_le _,rfl,HSY.out⟩
   case round =>
    obtain ⟨j,hj,rfl,A1,Z1,h1,m1⟩:=hrel
    have HT1:=Lib.hid (HIN.out.ticks j hj)
    have M1:=Lib.hid m1
    have hsx:=h1
    obtain ⟨Y,rs,ds,ls,Xs,vr,vd,gu,qv,gv,lv,hs,hz⟩:=h1
    have hn5:=hs.n5
    have q7:IntKind.i64.wrap ((j:Int)+1)=(j:Int)+1:=IntWalk.i64_in _ (by omega)
    obtain ⟨gr,kr,evr,hkr,hrow⟩:=ptr_cell hs.rr (by omega)
    subst evr
    rename World=>w2
    have hc0:w2.cell? ⟨c,0,none⟩=some (.slice (some ⟨gr,0,none⟩) n kr):=by rw [cell_heap hs.cell];rfl
    by_cases hjn:j<n
    ·have hup:=hs.upAt j hjn
     have hrj:=hrow j hjn
     have hc2:w2.cell? ⟨c,2,none⟩=some (.slice (some ⟨gu,0,none⟩) n n):=by rw [cell_heap hs.cell];rfl
     have hjn2:(j:Int)<(n:Int):=by omega
     cases hupj:((T.ticks j).at j).up with
     | false =>
      rw [hupj] at hup
      have HF:Hid (SyP w w2 A Z c n (T.ticks (j+1))):=Lib.hid (by
       rw [ticks_succ]
       unfold Mn.tick
       rw [hupj]
       exact hsx.syp m1)
      clear hs hz hsx m1 hrow
      go_wp2_with fail
      go_roundw
      case rel=>exact ⟨j+1,by omega,by simp,HF.out⟩
      case measure=>simp [intOf];omega
     | true =>
      rw [hupj] at hup
      obtain ⟨hwf,hck⟩:=HT1.out.wf j hjn hupj
      have HIDJ:=Lib.hid (HT1.out.id j hjn)
      have HOUT:=Lib.hid (out_tick hwf)
      have HQ:Hid ((T.ticks j).q.length≤2000):=Lib.hid HT1.out.ql
      have HTK:Hid (T.ticks (j+1)=((T.ticks j).set j ⟨(tickM ((T.ticks j).at j).s ((T.ticks j).at j).k).2.1,(tickM ((T.ticks j).at j).s ((T.ticks j).at j).k).2.2,true⟩).send (tickM ((T.ticks j).at j).s ((T.ticks j).at j).k).1):=Lib.hid (by
       rw [ticks_succ]
       unfold Mn.tick
       rw [hupj]
       rfl)
      have HTICK:=Lib.hid ((tick_any ((hs.node j hjn).up hupj) hwf (by have:=HTN.out;omega)).mono (fun e w' hp=>hs.msp hz hjn hupj hp))
      have HG3:Hid (∀x∈(tickM ((T.ticks j).at j).s ((T.ticks j).at j).k).1,x.frm=(j:Int)∧(x.dst==(j:Int))=false∧0≤x.dst∧x.dst<(n:Int)):=Lib.hid (by
       have h9:=HOUT.out.ms
       rw [HIDJ.out.1,HIDJ.out.2] at h9
       exact send_good h9)
      clear hs hz hsx m1 hrow hwf hck HOUT
      generalize tickM ((T.ticks j).at j).s ((T.ticks j).at j).k=p at *
      go_wp2_with fail
      refine HTICK.out.mono ?_
      rintro e w3 ⟨v3,A3,Z3,rfl,hs3,hr3,hm3⟩
      have HS3:=Lib.hid hs3
      have HR3:=Lib.hid hr3
      have HM3:=Lib.hid hm3
      clear hs3 hr3 hm3
      go_wp2_with fail
      refine (send_any HS3.out (by exact HQ.out) v3 _ HR3.out j HG3.out).mono ?_
      rintro e w4 ⟨rfl,hs4⟩
      have HF:Hid (SyP w w4 A Z c n (T.ticks (j+1))):=Lib.hid (by
       rw [HTK.out]
       exact SyP.trans (M1.out.trans HM3.out) hs4)
      clear hs4
      go_wp2_with fail
      go_roundw
      case rel=>exact ⟨j+1,by omega,by simp,HF.out⟩
      case measure=>simp [intOf];omega
    ·obtain rfl:j=n:=by omega
     have HSX:=Lib.hid (hsx.syp m1)
     have hrn:¬(j:Int)<(j:Int):=by omega
     clear hs hz hsx m1 hrow
     have HT1:Hid (SInv j (cl+t*j+j) (T.ticks j)):=HT1
     generalize hD0:(T.ticks j).drain 4000=D0 at *
     have HD0:=Lib.hid hD0
     clear hD0
     go_wp2_with fail
     go_loopw [7] (fun i w2=>∃(f:Nat) (D:Mn),f≤4000∧i = .int .i64 (f:Int)∧SyP w w2 A Z c j D∧SInv j (cl+t*j+j) D∧(T.ticks j).drain 4000=D.drain (4000 - f)) (fun i _=>4000 - (intOf i).toNat)
     case atStart=>exact ⟨0,T.ticks j,by omega,rfl,HSX.out,HT1.out,rfl⟩
     case round =>
      obtain ⟨f,D,hf,rfl,⟨A2,Z2,h2,m2⟩,hin2,hdr⟩:=hrel
      have HIN2:=Lib.hid hin2
      have HDR:=Lib.hid hdr
      have M2:=Lib.hid m2
      have HSY2:=Lib.hid h2
      obtain ⟨Y,rs,ds,ls,Xs,vr,vd,gu,qv,gv,lv,hs,hz⟩:=h2
      rename World=>w3
      have q8:IntKind.i64.wrap ((f:Int)+1)=(f:Int)+1:=IntWalk.i64_in _ (by omega)
      cases hDq:D.q with
      | nil =>
       have hq0:=hs.q
       rw [hDq] at hq0
       obtain ⟨aq,cq,eq9,_⟩:=hq0.shape
       subst eq9
       have hc3:w3.cell? ⟨c,3,none⟩=some (.slice aq 0 cq):=by rw [cell_heap hs.cell];rfl
       have HDD:Hid (D.drain (4000 - f)=D):=Lib.hid (by
        cases h9:4000 - f with
        | zero=>rfl
        | succ x=>unfold Mn.drain;rw [hDq])
       have HNX:Hid (Mn.calm j r S=Mn.calm j (r - (t+1)) D):=Lib.hid (by
        rw [HCM.out,show r - t=(r - (t+1))+1 by omega]
        show (if ((T.ticks j).drain 4000).q.length=0 then _ else _)=_
        rw [HDR.out,HDD.out,if_pos (by rw [hDq];rfl)])
       have HF:Hid (SyP w w3 A Z c j D):=Lib.hid (HSY2.out.syp M2.out)
       have HI9:Hid (SInv j (cl+(t+1)*j) D):=Lib.hid (by
        have h9:=HIN2.out
        rw [show cl+t*j+j=cl+(t+1)*j by rw [Nat.succ_mul];omega] at h9
        exact h9)
       clear hs hz m2 hin2 hdr hq0 hc0
       by_cases hf4:f<4000
       ·have hf5:(f:Int)<4000:=by omega
        go_wp2_with fail
        go_roundw
        case rel=>exact ⟨t+1,D,by omega,by simp,HF.out,HI9.out,HNX.out⟩
        case measure=>simp [intOf];omega
       ·have hf5:¬(f:Int)<4000:=by omega
        go_wp2_with fail
        go_roundw
        case rel=>exact ⟨t+1,D,by omega,by simp,HF.out,HI9.out,HNX.out⟩
        case measure=>simp [intOf];omega
      | cons m q =>
       have hq0:=hs.q
       rw [hDq] at hq0
       obtain ⟨g,off,k,mv,mu,evq,hk1,k0,k1,k2,k3,k4,hmsg⟩:=hq0.head
       subst evq
       obtain ⟨an,cn,e9,_⟩:=id hmsg.n
       subst e9
       obtain ⟨ub,bc,e9⟩:=bs_shape hmsg.b
       subst e9
       have htl:=hq0.tail
       have HTL:Hid (IsQ w3 A2 Y (.slice (if k=1 then some ⟨g,off,none⟩ else some ⟨g,off+5,none⟩) q.length (k - 1)) q):=Lib.hid (by
        have e:some (if k=1 then (⟨g,off,none⟩:Addr) else (⟨g,off,none⟩:Addr).add 5)=(if k=1 then some ⟨g,off,none⟩ else some ⟨g,off+5,none⟩):=by
         rw [Addr.add_lit];split<;>rfl
        rw [e] at htl
        exact htl)
       have hc3:w3.cell? ⟨c,3,none⟩=some (.slice (some ⟨g,off,none⟩) (q.length+1) k):=by rw [cell_heap hs.cell];rfl
       have hql:(0:Int)<(q.length:Int)+1:=by omega
       by_cases hf4:f<4000
       ·have hf5:(f:Int)<4000:=by omega
        have hk2:1≤k:=by omega
        have HS3:=Lib.hid hs
        have HZ3:=Lib.hid hz
        have HMG:=Lib.hid hmsg
        have hz3:=free_heap hs.cell 3
        have hlt3:=lt_of_heap hs.cell
        have HDS:Hid (D.drain (4000 - f)=(({ D with q:=q }:Mn).bring m).drain (4000 - (f+1))):=Lib.hid (by
         rw [show 4000 - f=(4000 - (f+1))+1 by omega]
         show (match D.q with | []=>D | m::q=>Mn.drain (4000 - (f+1)) (({ D with q:=q }:Mn).bring m))=_
         rw [hDq])
        clear hs hz m2 hin2 hdr hq0 hc0 htl hmsg
        go_upto_region 13 with (fail)
        have hbx:=Lib.hid (heap_new w3 (.cells #[.int .i64 m.frm,.int .i64 m.dst,.int .i64 m.kind,.slice an m.N.length cn,.slice ub m.B.length bc] 51))
        have hbw:Below w3.heap.size w3 (w3.alloc (.cells #[.int .i64 m.frm,.int .i64 m.dst,.int .i64 m.kind,.slice an m.N.length cn,.slice ub m.B.length bc] 51)):=(Below.refl _ _).alloc (Nat.le_refl _) _
        have HS4:=Lib.hid (HS3.out.below hbw)
        have HMG4:=Lib.hid (HMG.out.below hbw)
        have HTL4:=Lib.hid (HTL.out.keep (Only.ofBelow hbw []) (fun b hb=>by cases hb) (fun b hb cur hc hm=>by cases hm) (Ext.refl _ _) (fun b hb=>hb))
        have HBW:=Lib.hid hbw
        have hy3:=cell_later hbw hc3
        have hz4:(w3.alloc (.cells #[.int .i64 m.frm,.int .i64 m.dst,.int .i64 m.kind,.slice an m.N.length cn,.slice ub m.B.length bc] 51)).frozen? ⟨c,3,none⟩=false:=free_heap HS4.out.cell 3
        have hcM:c≠w3.heap.size:=by omega
        clear hbw hc3 hz3 k0 k1 k2 k3 k4
        generalize w3.alloc (.cells #[.int .i64 m.frm,.int .i64 m.dst,.int .i64 m.kind,.slice an m.N.length cn,.slice ub m.B.length bc] 51)=w4 at *
        go_upto_region 14 with (fail)
        generalize (if k=1 then (some ⟨g,off,none⟩:Option Addr) else some ⟨g,off+5,none⟩)=aq at *
        obtain ⟨A5,Z5,h5,m5⟩:=HS4.out.newq HZ3.out HTL4.out
        have hon:Only [c] w4 (w4.setCell ⟨c,3,none⟩ (.slice aq q.length (k - 1))):=(Only.refl _ _).setCell (by simp) _
        have hbx5:=hon.keeps hbx.out (by simpa using hcM.symm)
        have hZA2:=HSY2.out.zA
        have HMG5:=Lib.hid (HMG4.out.step m5.mv.only hZA2 m5.ext)
        have H5:=Lib.hid h5
        have M5:=Lib.hid ((M2.out.trans (Mv.below HBW.out)).trans m5)
        obtain ⟨fr,hfr,hgm⟩:=HIN2.out.q m (by rw [hDq];exact List.mem_cons_self)
        have hIN5:=HIN2.out.pop hDq
        have HIN6:Hid (SInv j (cl+t*j+j) (({ D with q:=q }:Mn).bring m)):=Lib.hid (hIN5.bring m hgm.d0 hgm.dn)
        have hton:m.dst.toNat<j:=by have:=hgm.d0;have:=hgm.dn;omega
        have HBR:Hid (Calls Try.prog 25 #[.pointer (some ⟨c,0,none⟩),.agg #[.int .i64 m.frm,.int .i64 m.dst,.int .i64 m.kind,.slice an m.N.length cn,.slice ub m.B.length bc]] (w4.setCell ⟨c,3,none⟩ (.slice aq q.length (k - 1))) fun e w'=>e = .returned (.tuple #[])∧SyP (w4.setCell ⟨c,3,none⟩ (.slice aq q.length (k - 1))) w' A5 Z5 c j (({ D with q:=q }:Mn).bring m)):=Lib.hid
         (bring_any H5.out hIN5.ql m _ _ HMG5.out m.dst.toNat (by have:=hgm.d0;omega) hton (fun hu=>(hIN5.wf _ hton hu).1) (hIN5.id _ hton).1 (hIN5.id _ hton).2 hgm.n1 (by have:=hgm.bl;omega) (by have:=hgm.nl;omega))
        have hk0:(w4.setCell ⟨c,3,none⟩ (.slice aq q.length (k - 1))).cell? ⟨w3.heap.size,0,none⟩=some (.int .i64 m.frm):=by rw [cell_heap hbx5];rfl
        have hk1':(w4.setCell ⟨c,3,none⟩ (.slice aq q.length (k - 1))).cell? ⟨w3.heap.size,1,none⟩=some (.int .i64 m.dst):=by rw [cell_heap hbx5];rfl
        have hk2':(w4.setCell ⟨c,3,none⟩ (.slice aq q.length (k - 1))).cell? ⟨w3.heap.size,2,none⟩=some (.int .i64 m.kind):=by rw [cell_heap hbx5];rfl
        have hk3:(w4.setCell ⟨c,3,none⟩ (.slice aq q.length (k - 1))).cell? ⟨w3.heap.size,3,none⟩=some (.slice an m.N.length cn):=by rw [cell_heap hbx5];rfl
        have hk4:(w4.setCell ⟨c,3,none⟩ (.slice aq q.length (k - 1))).cell? ⟨w3.heap.size,4,none⟩=some (.slice ub m.B.length bc):=by rw [cell_heap hbx5];rfl
        clear h5 m5 hon hbx5 hZA2 hgm hIN5 hy3 hz4 hcM
        generalize w4.setCell ⟨c,3,none⟩ (.slice aq q.length (k - 1))=w5 at *
        go_wp2_with fail
        refine HBR.out.mono ?_
        rintro e w6 ⟨rfl,hs6⟩
        have HF:=Lib.hid (SyP.trans M5.out hs6)
        have HDS2:=Lib.hid (HDR.out.trans HDS.out)
        clear hs6
        go_wp2_with fail
        go_roundw
        case rel=>exact ⟨f+1,_,by omega,by simp,HF.out,HIN6.out,HDS2.out⟩
        case measure=>simp [intOf];omega
       ·have hf6:f=4000:=by omega
        have hf5:¬(f:Int)<4000:=by omega
        have HNX:Hid (Mn.calm j r S=(false,D)):=Lib.hid (by
         rw [HCM.out,show r - t=(r - (t+1))+1 by omega]
         show (if ((T.ticks j).drain 4000).q.length=0 then _ else _)=_
         rw [HDR.out,hf6]
         show (if D.q.length=0 then _ else (false,D))=_
         rw [if_neg (by rw [hDq];simp)])
        have HF:Hid (SyP w w3 A Z c j D):=Lib.hid (HSY2.out.syp M2.out)
        clear hs hz m2 hin2 hdr hq0 hc0 htl hmsg
        go_wp2_with fail
        go_ret
        rw [HNX.out]
        exact ⟨rfl,HF.out⟩
  ·obtain rfl:t=r:=by omega
   have HE:Hid (Mn.calm n t S=(true,T)):=Lib.hid (by rw [HCM.out,Nat.sub_self];rfl)
   have hlt2:¬(t:Int)<(t:Int):=by omega
   go_wp2_with fail
   go_ret
   rw [HE.out]
   exact ⟨rfl,HSY.out⟩
end
end Go.Proofs.Ytnicaicjgaoolaa
namespace Go.Proofs.Ytnicaicjgaoolaa
open Go.RowKit Go.ChangeMaps Go.WideMaps Go.Maps
set_option maxRecDepth 20000
section
variable (p:String)
def z0ox0:Oper:=⟨some 201,.move (.tmp 0),25,p,#[],none⟩
def z0ox1:Oper:=⟨some 203,.move (.tmp 0),25,p,#[],none⟩
def z0ox2:Oper:=⟨some 204,.nilCheck (.tmp 203),0,p,#[⟨2,.data⟩],none⟩
def z0ox3:Oper:=⟨some 205,.fieldAddr 38 (.tmp 204) 3,0,p,#[⟨3,.data⟩],none⟩
def z0ox4:Oper:=⟨some 207,.move (.tmp 9),3,p,#[],none⟩
def z0ox5:Oper:=⟨some 210,.move (.tmp 0),25,p,#[],none⟩
def z0ox6:Oper:=⟨some 211,.nilCheck (.tmp 210),0,p,#[⟨9,.data⟩],none⟩
def z0ox7:Oper:=⟨some 212,.fieldAddr 38 (.tmp 211) 3,0,p,#[⟨10,.data⟩],none⟩
def z0ox8:Oper:=⟨some 214,.move (.tmp 9),3,p,#[],none⟩
def z0ox9:Oper:=⟨some 215,.binOp BinOp.add 3 (.tmp 214) (Operand.const (Value.int IntKind.i64 1)) 3,3,p,#[⟨13,.data⟩],none⟩
def z0ox10:Oper:=⟨some 202,.buildSlice 35 0 #[],35,p,#[],none⟩
def z0ox11:Oper:=⟨some 206,.load 35 (.tmp 205),35,p,#[⟨4,.data⟩],none⟩
def z0ox12:Oper:=⟨some 213,.load 35 (.tmp 212),35,p,#[⟨11,.data⟩],none⟩
def z0ox13:Oper:=⟨some 208,.slice 35 (.tmp 206) none (some (.tmp 207)) none,35,p,#[⟨5,.data⟩,⟨6,.data⟩],none⟩
def z0ox14:Oper:=⟨some 209,.call { callee:=Callee.builtin Builtin.append,args:=#[.tmp 202,.tmp 208],argTypes:=#[35,35]},35,p,#[⟨1,.data⟩,⟨7,.data⟩],none⟩
def z0ox15:Oper:=⟨some 216,.slice 35 (.tmp 213) (some (.tmp 215)) none none,35,p,#[⟨12,.data⟩,⟨14,.data⟩],none⟩
def z0ox16:Oper:=⟨some 217,.call { callee:=Callee.builtin Builtin.append,args:=#[.tmp 209,.tmp 216],argTypes:=#[35,35]},35,p,#[⟨8,.data⟩,⟨15,.data⟩,⟨8,.chain⟩],none⟩
def z0ox17:Oper:=⟨some 218,.nilCheck (.tmp 201),0,p,#[⟨0,.data⟩,⟨0,.phase⟩,⟨1,.phase⟩,⟨2,.phase⟩,⟨3,.phase⟩,⟨4,.phase⟩,⟨5,.phase⟩,⟨6,.phase⟩,⟨7,.phase⟩,⟨8,.phase⟩,⟨9,.phase⟩,⟨10,.phase⟩,⟨11,.phase⟩,⟨12,.phase⟩,⟨13,.phase⟩,⟨14,.phase⟩,⟨15,.phase⟩,⟨16,.phase⟩],none⟩
def z0ox18:Oper:=⟨some 219,.fieldAddr 38 (.tmp 218) 3,0,p,#[⟨17,.data⟩,⟨0,.phase⟩,⟨1,.phase⟩,⟨2,.phase⟩,⟨3,.phase⟩,⟨4,.phase⟩,⟨5,.phase⟩,⟨6,.phase⟩,⟨7,.phase⟩,⟨8,.phase⟩,⟨9,.phase⟩,⟨10,.phase⟩,⟨11,.phase⟩,⟨12,.phase⟩,⟨13,.phase⟩,⟨14,.phase⟩,⟨15,.phase⟩,⟨16,.phase⟩],none⟩
def z0ox19:Oper:=⟨none,.store 35 (.tmp 219) (.tmp 217),0,p,#[⟨18,.data⟩,⟨16,.data⟩,⟨16,.chain⟩,⟨0,.phase⟩,⟨1,.phase⟩,⟨2,.phase⟩,⟨3,.phase⟩,⟨4,.phase⟩,⟨5,.phase⟩,⟨6,.phase⟩,⟨7,.phase⟩,⟨8,.phase⟩,⟨9,.phase⟩,⟨10,.phase⟩,⟨11,.phase⟩,⟨12,.phase⟩,⟨13,.phase⟩,⟨14,.phase⟩,⟨15,.phase⟩,⟨16,.phase⟩],none⟩
end
attribute [go_sem,reducible] z0ox0 z0ox1 z0ox2 z0ox3 z0ox4 z0ox5 z0ox6 z0ox7 z0ox8 z0ox9 z0ox10 z0ox11 z0ox12 z0ox13 z0ox14 z0ox15 z0ox16 z0ox17 z0ox18 z0ox19
theorem z0oxm0 {p:Prop} (h:p:=by
 refine qr1 16 (z0ox16 _) rfl fun K hK=>?_
 unfold z0ox16
 refine step_of_list rfl fun Q' hQ=>?_
 refine wpList_app35 rfl (.tmp 209) (.tmp 216) rfl (by rfl) (by rfl) HR2.out ?_
 refine hQ _ _ ?_
 clear hQ Q'
 have hk6:=HO2.out.cell HC3V.out (by simp)
 refine hK.out _ _ trivial (fun hHeld=>?_)
 clear hK K
 refine qsp ?_
 have hc6:=HO2.out.keeps HV.out.cell (by simp)
 refine qtl 17 (z0ox17 _) rfl ?_
 refine qtl 18 (z0ox18 _) rfl ?_
 refine qr1 19 (z0ox19 _) rfl fun K hK=>?_
 unfold z0ox19
 have hz6:=free_heap hc6 3
 go_simp
 clear hz6 hk6
 refine hK.out _ _ trivial (fun hHeld=>?_)
 clear hK K
 refine qsp ?_
 refine qdn ?_
 clear hHeld
 go_wp2_with fail
 all_goals (go_meet;rw [HLE.out];exact HV.out.setq HZ.out HQP.out)):p:=h
theorem z0oxm1 {p:Prop} (h:p:=by
 refine qr1 8 (z0ox14 _) rfl fun K hK=>?_
 unfold z0ox14
 refine step_of_list rfl fun Q' hQ=>?_
 refine wpList_app35 rfl (.tmp 202) (.tmp 208) rfl (by rfl) (by rfl) hr1 ?_
 refine hQ _ _ ?_
 clear hQ Q'
 refine hK.out _ _ trivial (fun hHeld=>?_)
 clear hK K
 refine qsp ?_
 clear hr1 ho1
 exact z0oxm0):p:=h
theorem z0oxm2 {p:Prop} (h:p:=by
 refine qr2 8 12 (z0ox14 _) (z0ox12 _) rfl rfl (fun K hK=>?_) fun K hK=>?_
 ·unfold z0ox14
  refine step_of_list rfl fun Q' hQ=>?_
  refine wpList_app35 rfl (.tmp 202) (.tmp 208) rfl (by rfl) (by rfl) hr1 ?_
  refine hQ _ _ ?_
  clear hQ Q'
  refine hK.out _ _ trivial (fun hHeld=>?_)
  clear hK K
  refine qsp ?_
  clear hr1 ho1
  refine qr1 12 (z0ox12 _) rfl fun K hK=>?_
  unfold z0ox12
  have hyl:=HK5.out
  go_simp
  clear hyl
  refine hK.out _ _ trivial (fun hHeld=>?_)
  clear hK K
  refine qsp ?_
  refine qtl 15 (z0ox15 _) rfl ?_
  exact z0oxm0
 ·unfold z0ox12
  have hyl:=HC4.out
  go_simp
  clear hyl
  refine hK.out _ _ trivial (fun hHeld=>?_)
  clear hK K
  refine qsp ?_
  refine qtl 15 (z0ox15 _) rfl ?_
  exact z0oxm1):p:=h
theorem z0oxm3 {p:Prop} (h:p:=by
 refine qr1 1 (z0ox10 _) rfl fun K hK=>?_
 unfold z0ox10
 go_simp
 refine hK.out _ _ trivial (fun hHeld=>?_)
 clear hK K
 refine qsp ?_
 generalize hV4:V3.alloc (.cells #[] 51)=V4 at *
 clear hV4
 obtain ⟨p1,n1,c1,W5,hr1,ho1,p2,n2,c2,W6,hr2,ho2,hqp⟩:=HLP.out.ex
 have HQP:=Lib.hid hqp
 have HO2:=Lib.hid ho2
 rw [HE9.out] at hr2
 have HR2:=Lib.hid hr2
 have HK5:=Lib.hid (ho1.cell (HC4.out) HCV.out)
 clear hqp ho2 hr2
 exact z0oxm1):p:=h
theorem z0oxm4 {p:Prop} (h:p:=by
 refine qr1 5 (z0ox11 _) rfl fun K hK=>?_
 unfold z0ox11
 have hyl:=HC4.out
 go_simp
 clear hyl
 refine hK.out _ _ trivial (fun hHeld=>?_)
 clear hK K
 refine qsp ?_
 refine qtl 7 (z0ox13 _) rfl ?_
 exact z0oxm1):p:=h
section
variable {w w':World} {A A' Y Z Z':List Nat} {c n cl:Nat} {S:Mn} {rs ds ls:Nat→Nat} {Xs:Nat→List Nat} {vr vd:Value} {gu:Nat} {qv gv lv:Value}
set_option maxHeartbeats 4000000 in
theorem do_lose (h:Sy w A Z c n S) (hi:SInv n cl S) (N K P:Int) (ba:Option Addr) (bl bc:Nat) (hn:1≤n) :
  Calls Try.prog 11 #[.pointer (some ⟨c,0,none⟩),.agg #[.int .i64 2,.int .i64 N,.int .i64 K,.int .i64 P,.slice ba bl bc]] w fun e w'=>e = .returned (.tuple #[])∧SyP w w' A Z c n (S.lose K):=by
 have HZA:=Lib.hid h.zA
 have hbw:Below w.heap.size w (w.alloc (.cells #[.int .i64 2,.int .i64 N,.int .i64 K,.int .i64 P,.slice ba bl bc] 31)):=(Below.refl _ _).alloc (Nat.le_refl _) _
 have hbx:=heap_new w (.cells #[.int .i64 2,.int .i64 N,.int .i64 K,.int .i64 P,.slice ba bl bc] 31)
 have hs1:=h.below hbw
 have HM0:Hid (Mv A A Z Z w (w.alloc (.cells #[.int .i64 2,.int .i64 N,.int .i64 K,.int .i64 P,.slice ba bl bc] 31))):=Lib.hid (Mv.below hbw)
 have HMA:Hid (w.heap.size∉A):=Lib.hid (fun hb=>by have:=h.alt _ hb;omega)
 obtain ⟨hq1,hq2⟩:=actI_ok N n hn
 have HQ1:=Lib.hid hq1
 obtain ⟨Y,rs,ds,ls,Xs,vr,vd,gu,qv,gv,lv,hs,hz⟩:=hs1
 obtain ⟨gr,kr,evr,hkr,hrow⟩:=ptr_cell hs.rr (by omega)
 subst evr
 obtain ⟨gd,kd,evd,hkd,hrowd⟩:=ptr_cell hs.dr (by omega)
 subst evd
 have hc0:(w.alloc (.cells #[.int .i64 2,.int .i64 N,.int .i64 K,.int .i64 P,.slice ba bl bc] 31)).cell? ⟨c,0,none⟩=some (.slice (some ⟨gr,0,none⟩) n kr):=by rw [cell_heap hs.cell];rfl
 have hc1:(w.alloc (.cells #[.int .i64 2,.int .i64 N,.int .i64 K,.int .i64 P,.slice ba bl bc] 31)).cell? ⟨c,1,none⟩=some (.slice (some ⟨gd,0,none⟩) n kd):=by rw [cell_heap hs.cell];rfl
 have hc2:(w.alloc (.cells #[.int .i64 2,.int .i64 N,.int .i64 K,.int .i64 P,.slice ba bl bc] 31)).cell? ⟨c,2,none⟩=some (.slice (some ⟨gu,0,none⟩) n n):=by rw [cell_heap hs.cell];rfl
 have hk0:(w.alloc (.cells #[.int .i64 2,.int .i64 N,.int .i64 K,.int .i64 P,.slice ba bl bc] 31)).cell? ⟨w.heap.size,0,none⟩=some (.int .i64 2):=by rw [cell_heap hbx];rfl
 have hk1:(w.alloc (.cells #[.int .i64 2,.int .i64 N,.int .i64 K,.int .i64 P,.slice ba bl bc] 31)).cell? ⟨w.heap.size,1,none⟩=some (.int .i64 N):=by rw [cell_heap hbx];rfl
 have hk2:(w.alloc (.cells #[.int .i64 2,.int .i64 N,.int .i64 K,.int .i64 P,.slice ba bl bc] 31)).cell? ⟨w.heap.size,2,none⟩=some (.int .i64 K):=by rw [cell_heap hbx];rfl
 have hk3:(w.alloc (.cells #[.int .i64 2,.int .i64 N,.int .i64 K,.int .i64 P,.slice ba bl bc] 31)).cell? ⟨w.heap.size,3,none⟩=some (.int .i64 P):=by rw [cell_heap hbx];rfl
 have hk4:(w.alloc (.cells #[.int .i64 2,.int .i64 N,.int .i64 K,.int .i64 P,.slice ba bl bc] 31)).cell? ⟨w.heap.size,4,none⟩=some (.slice ba bl bc):=by rw [cell_heap hbx];rfl
 have hrd:=hrowd _ hq2
 have hrq:=hrow _ hq2
 have HS:=Lib.hid hs
 have HZ:=Lib.hid hz
 have HI:=Lib.hid hi
 have HML:Hid (w.heap.size<(w.alloc (.cells #[.int .i64 2,.int .i64 N,.int .i64 K,.int .i64 P,.slice ba bl bc] 31)).heap.size):=Lib.hid (by simp)
 clear hs hz h hi hbw hbx hrow hrowd
 generalize actI N n=q at *
 go_enter Try.func11,Try.ntmps11
 go_upto_region 1 with (fail)
 generalize w.alloc (.cells #[.int .i64 2,.int .i64 N,.int .i64 K,.int .i64 P,.slice ba bl bc] 31)=W at *
 generalize w.heap.size=M at *
 go_cut [4] (fun v wx=>v = .int .i64 (q:Int)∧∃nq,wx=W.drewN nq)
 case first =>
  go_quiet (fail)
  go_wp2_with fail
  go_meet
  exact ⟨by rw [←HQ1.out],nq,rfl⟩
 case rest =>
 obtain ⟨rfl,nq,rfl⟩:=hcut
 have hb1:=below_drewN W nq
 have HS1:=Lib.hid (HS.out.below hb1)
 have M1:Hid (Mv A A Z Z w (W.drewN nq)):=Lib.hid (HM0.out.trans (Mv.below hb1))
 have hup:=HS1.out.upAt q hq2
 have hc0:(W.drewN nq).cell? ⟨c,0,none⟩=some (.slice (some ⟨gr,0,none⟩) n kr):=hc0
 have hc1:(W.drewN nq).cell? ⟨c,1,none⟩=some (.slice (some ⟨gd,0,none⟩) n kd):=hc1
 have hc2:(W.drewN nq).cell? ⟨c,2,none⟩=some (.slice (some ⟨gu,0,none⟩) n n):=hc2
 have hk0:(W.drewN nq).cell? ⟨M,0,none⟩=some (.int .i64 2):=hk0
 have hk1:(W.drewN nq).cell? ⟨M,1,none⟩=some (.int .i64 N):=hk1
 have hk2:(W.drewN nq).cell? ⟨M,2,none⟩=some (.int .i64 K):=hk2
 have hk3:(W.drewN nq).cell? ⟨M,3,none⟩=some (.int .i64 P):=hk3
 have hk4:(W.drewN nq).cell? ⟨M,4,none⟩=some (.slice ba bl bc):=hk4
 have hrd:(W.drewN nq).cell? ⟨gd,q,none⟩=some (.pointer (some ⟨ds q,0,none⟩)):=hrd
 have hrq:(W.drewN nq).cell? ⟨gr,q,none⟩=some (.pointer (some ⟨rs q,0,none⟩)):=hrq
 have HML:Hid (M<(W.drewN nq).heap.size):=Lib.hid HML.out
 have hq3:(q:Int)<(n:Int):=by omega
 clear hb1 HS HM0 hq1 HQ1
 generalize W.drewN nq=W1 at *
 have hq0:=HS1.out.q
 obtain ⟨aq,cq,eq9,hcq,_⟩:=hq0.shape
 subst eq9
 have hc3:W1.cell? ⟨c,3,none⟩=some (.slice aq S.q.length cq):=by rw [cell_heap HS1.out.cell];rfl
 have HSY:Hid (Sy W1 A Z c n S):=Lib.hid ⟨_,_,_,_,_,_,_,_,_,_,_,HS1.out,HZ.out⟩
 clear hup hrd hrq hc0 hc1 hc2
 by_cases hl0:S.q.length=0
 ·have HF:Hid (SyP w W1 A Z c n (S.lose K)):=Lib.hid (by
   rw [lose_nil K hl0]
   exact HSY.out.syp M1.out)
  rw [hl0] at hc3
  clear hq0 hq3
  go_wp2_with fail
  (try simp only [Exit.inBlock,Exit.then])
  refine bodyPost_ret (results_none rfl _ _ _) rfl ?_
  exact ⟨rfl,HF.out⟩
 ·have hl1:1≤S.q.length:=by omega
  have HL2:Hid (S.q.length≤2000):=Lib.hid HI.out.ql
  obtain ⟨hj1,hj2⟩:=actK_ok K S.q.length hl1
  have HQJ:=Lib.hid hj1
  have HJE:Hid (actK K S.q.length=actK K S.q.length):=Lib.hid rfl
  generalize hj:actK K S.q.length=j at HQJ hj1 hj2
  have HJ:=Lib.hid hj
  obtain ⟨g,off,cc,mv,mu,e9,_,k0,k1,k2,k3,k4,hmsg⟩:=hq0.at j hj2
  cases e9
  generalize hmm:S.q[j]=m at *
  have HMM:=Lib.hid hmm
  obtain ⟨an,cn,e9,_⟩:=id hmsg.n
  subst e9
  obtain ⟨ub,bb,e9⟩:=bs_shape hmsg.b
  subst e9
  have HMG:=Lib.hid hmsg
  have HQ0:=Lib.hid hq0
  have hl2:¬(S.q.length:Int)=0:=by omega
  have hj3:(j:Int)<(S.q.length:Int):=by omega
  clear hmm hj hj1 HJE hmsg hq0 hq3 hl0
  go_upto_region 27 with (fail)
  go_cut [9] (fun v wx=>v = .int .i64 (j:Int)∧∃nq,wx=W1.drewN nq)
  case first =>
   go_quiet (fail)
   go_wp2_with fail
   go_meet
   exact ⟨by rw [←HQJ.out],nq,rfl⟩
  case rest =>
  obtain ⟨rfl,nq,rfl⟩:=hcut
  go_upto_region 28 with (fail)
  have hb2:=below_drewN W1 nq
  have HS2:=Lib.hid (HS1.out.below hb2)
  have HMG2:=Lib.hid (HMG.out.below hb2)
  have M2:Hid (Mv A A Z Z w (W1.drewN nq)):=Lib.hid (M1.out.trans (Mv.below hb2))
  have HML2:Hid (M<(W1.drewN nq).heap.size):=Lib.hid HML.out
  have hc3:(W1.drewN nq).cell? ⟨c,3,none⟩=some (.slice (some ⟨g,off,none⟩) S.q.length cq):=hc3
  have k0:(W1.drewN nq).cell? ⟨g,off+j*5,none⟩=some (.int .i64 m.frm):=k0
  have k1:(W1.drewN nq).cell? ⟨g,off+j*5+1,none⟩=some (.int .i64 m.dst):=k1
  have k2:(W1.drewN nq).cell? ⟨g,off+j*5+2,none⟩=some (.int .i64 m.kind):=k2
  have k3:(W1.drewN nq).cell? ⟨g,off+j*5+3,none⟩=some (.slice an m.N.length cn):=k3
  have k4:(W1.drewN nq).cell? ⟨g,off+j*5+4,none⟩=some (.slice ub m.B.length bb):=k4
  have hk0:(W1.drewN nq).cell? ⟨M,0,none⟩=some (.int .i64 2):=hk0
  clear hb2 HS1 HMG HQ0 M1 HML
  generalize W1.drewN nq=W2 at *
  go_upto_region 29 with (fail)
  have hbw2:Below W2.heap.size W2 (W2.alloc (.cells #[.int .i64 m.frm,.int .i64 m.dst,.int .i64 m.kind,.slice an m.N.length cn,.slice ub m.B.length bb] 51)):=(Below.refl _ _).alloc (Nat.le_refl _) _
  have HBX:=Lib.hid (heap_new W2 (.cells #[.int .i64 m.frm,.int .i64 m.dst,.int .i64 m.kind,.slice an m.N.length cn,.slice ub m.B.length bb] 51))
  have HS3:=Lib.hid (HS2.out.below hbw2)
  have HMG3:=Lib.hid (HMG2.out.below hbw2)
  have M3:Hid (Mv A A Z Z w (W2.alloc (.cells #[.int .i64 m.frm,.int .i64 m.dst,.int .i64 m.kind,.slice an m.N.length cn,.slice ub m.B.length bb] 51))):=Lib.hid (M2.out.trans (Mv.below hbw2))
  have hc3:(W2.alloc (.cells #[.int .i64 m.frm,.int .i64 m.dst,.int .i64 m.kind,.slice an m.N.length cn,.slice ub m.B.length bb] 51)).cell? ⟨c,3,none⟩=some (.slice (some ⟨g,off,none⟩) S.q.length cq):=cell_later hbw2 hc3
  have hk0:(W2.alloc (.cells #[.int .i64 m.frm,.int .i64 m.dst,.int .i64 m.kind,.slice an m.N.length cn,.slice ub m.B.length bb] 51)).cell? ⟨M,0,none⟩=some (.int .i64 2):=cell_later hbw2 hk0
  have HHA:Hid (W2.heap.size∉A):=Lib.hid (fun hb=>by have:=HS2.out.alt _ hb;omega)
  have HMH:Hid (M≠W2.heap.size):=Lib.hid (by have:=HML2.out;omega)
  clear hbw2 k0 k1 k2 k3 k4 HS2 HMG2 M2 HML2
  generalize W2.alloc (.cells #[.int .i64 m.frm,.int .i64 m.dst,.int .i64 m.kind,.slice an m.N.length cn,.slice ub m.B.length bb] 51)=W3 at *
  generalize W2.heap.size=H at *
  have HV:Hid (SyC W3.drew A Y c n S _ _ _ _ _ _ _ _ _ _):=Lib.hid (HS3.out.below (below_drewN W3 1))
  have HC3V:Hid (W3.drew.cell? ⟨c,3,none⟩=some (.slice (some ⟨g,off,none⟩) S.q.length cq)):=Lib.hid hc3
  have HC4:Hid ((W3.drew.alloc (.cells #[] 51)).cell? ⟨c,3,none⟩=some (.slice (some ⟨g,off,none⟩) S.q.length cq)):=Lib.hid (cell_later ((Below.refl _ _).alloc (Nat.le_refl _) _) HC3V.out)
  have HLP:=Lib.hid (lose_q HV.out.q HV.out.yA HV.out.alt j hj2 HL2.out 35 35 #[])
  have HCV:Hid (c∉[W3.drew.heap.size]):=Lib.hid (fun hm=>by have:=HV.out.alt c (HV.out.yA c HV.out.cY);rw [List.mem_singleton.1 hm] at this;omega)
  have hjc:j≤cq:=by omega
  have hlb:=HL2.out
  have q8:IntKind.i64.wrap ((j:Int)+1)=(j:Int)+1:=IntWalk.i64_in _ (by omega)
  have q9:((j:Int)+1).toNat=j+1:=by omega
  have q10:(0:Int)≤(j:Int)+1:=by omega
  have q11:j+1≤S.q.length:=by omega
  have q13:(j:Int)+1≤(S.q.length:Int):=by omega
  have q12:S.q.length≤cq:=hcq
  have HLE:Hid (S.lose K={ S with q:=S.q.take j++S.q.drop (j+1)}):=Lib.hid (by unfold Mn.lose;rw [HJ.out])
  have HE9:Hid (some (if cq=j+1 then (⟨g,off,none⟩:Addr) else (⟨g,off,none⟩:Addr).add ((j+1)*5))=(if cq=j+1 then some ⟨g,off,none⟩ else some ⟨g,off+(j+1)*5,none⟩)):=Lib.hid (by split<;>simp [Addr.add_lit])
  clear hc3 hlb
  go_upto_region 32 with (fail)
  go_cut [] (fun wx=>SyP W3.drew wx A Z c n (S.lose K))
  case first =>
   as_aux_lemma =>
   refine wp_region_held_drew (S:=fun _=>True) (by kernel_rfl) trivial (fun hHeld=>?_)
   refine qtl 0 (z0ox0 _) rfl ?_
   refine qtl 2 (z0ox1 _) rfl ?_
   refine qtl 3 (z0ox2 _) rfl ?_
   refine qtl 4 (z0ox3 _) rfl ?_
   refine qtl 6 (z0ox4 _) rfl ?_
   refine qtl 9 (z0ox5 _) rfl ?_
   refine qtl 10 (z0ox6 _) rfl ?_
   refine qtl 11 (z0ox7 _) rfl ?_
   refine qtl 13 (z0ox8 _) rfl ?_
   refine qtl 14 (z0ox9 _) rfl ?_
   generalize W3.drew=V3 at *
   refine wpAnyH_ready (rs:=[1,5,12]) (by kernel_rfl) (by simp) ?_
   refine AllReadyH.cons (o:=(z0ox10 _)) rfl (fun K hK=>?_) (AllReadyH.cons (o:=(z0ox11 _)) rfl (fun K hK=>?_) (AllReadyH.cons (o:=(z0ox12 _)) rfl (fun K hK=>?_) AllReadyH.nil))
   ·unfold z0ox10
    go_simp
    refine hK.out _ _ trivial (fun hHeld=>?_)
    clear hK K
    refine qsp ?_
    generalize hV4:V3.alloc (.cells #[] 51)=V4 at *
    clear hV4
    obtain ⟨p1,n1,c1,W5,hr1,ho1,p2,n2,c2,W6,hr2,ho2,hqp⟩:=HLP.out.ex
    have HQP:=Lib.hid hqp
    have HO2:=Lib.hid ho2
    rw [HE9.out] at hr2
    have HR2:=Lib.hid hr2
    have HK5:=Lib.hid (ho1.cell (HC4.out) HCV.out)
    clear hqp ho2 hr2
    refine qr2 5 12 (z0ox11 _) (z0ox12 _) rfl rfl (fun K hK=>?_) fun K hK=>?_
    ·unfold z0ox11
     have hyl:=HC4.out
     go_simp
     clear hyl
     refine hK.out _ _ trivial (fun hHeld=>?_)
     clear hK K
     refine qsp ?_
     refine qtl 7 (z0ox13 _) rfl ?_
     exact z0oxm2
    ·unfold z0ox12
     have hyl:=HC4.out
     go_simp
     clear hyl
     refine hK.out _ _ trivial (fun hHeld=>?_)
     clear hK K
     refine qsp ?_
     refine qtl 15 (z0ox15 _) rfl ?_
     exact z0oxm4
   ·unfold z0ox11
    have hyl:=HC3V.out
    go_simp
    clear hyl
    refine hK.out _ _ trivial (fun hHeld=>?_)
    clear hK K
    refine qsp ?_
    refine qtl 7 (z0ox13 _) rfl ?_
    refine qr2 1 12 (z0ox10 _) (z0ox12 _) rfl rfl (fun K hK=>?_) fun K hK=>?_
    ·unfold z0ox10
     go_simp
     refine hK.out _ _ trivial (fun hHeld=>?_)
     clear hK K
     refine qsp ?_
     generalize hV4:V3.alloc (.cells #[] 51)=V4 at *
     clear hV4
     obtain ⟨p1,n1,c1,W5,hr1,ho1,p2,n2,c2,W6,hr2,ho2,hqp⟩:=HLP.out.ex
     have HQP:=Lib.hid hqp
     have HO2:=Lib.hid ho2
     rw [HE9.out] at hr2
     have HR2:=Lib.hid hr2
     have HK5:=Lib.hid (ho1.cell (HC4.out) HCV.out)
     clear hqp ho2 hr2
     exact z0oxm2
    ·unfold z0ox12
     have hyl:=HC3V.out
     go_simp
     clear hyl
     refine hK.out _ _ trivial (fun hHeld=>?_)
     clear hK K
     refine qsp ?_
     refine qtl 15 (z0ox15 _) rfl ?_
     exact z0oxm3
   ·unfold z0ox12
    have hyl:=HC3V.out
    go_simp
    clear hyl
    refine hK.out _ _ trivial (fun hHeld=>?_)
    clear hK K
    refine qsp ?_
    refine qtl 15 (z0ox15 _) rfl ?_
    refine qr2 1 5 (z0ox10 _) (z0ox11 _) rfl rfl (fun K hK=>?_) fun K hK=>?_
    ·unfold z0ox10
     go_simp
     refine hK.out _ _ trivial (fun hHeld=>?_)
     clear hK K
     refine qsp ?_
     generalize hV4:V3.alloc (.cells #[] 51)=V4 at *
     clear hV4
     obtain ⟨p1,n1,c1,W5,hr1,ho1,p2,n2,c2,W6,hr2,ho2,hqp⟩:=HLP.out.ex
     have HQP:=Lib.hid hqp
     have HO2:=Lib.hid ho2
     rw [HE9.out] at hr2
     have HR2:=Lib.hid hr2
     have HK5:=Lib.hid (ho1.cell (HC4.out) HCV.out)
     clear hqp ho2 hr2
     exact z0oxm4
    ·unfold z0ox11
     have hyl:=HC3V.out
     go_simp
     clear hyl
     refine hK.out _ _ trivial (fun hHeld=>?_)
     clear hK K
     refine qsp ?_
     refine qtl 7 (z0ox13 _) rfl ?_
     exact z0oxm3
  case rest =>
  obtain ⟨A7,Z7,h7,m7⟩:=hcut
  rename World=>W7
  have hk0:W7.cell? ⟨M,0,none⟩=some (.int .i64 2):=m7.mv.only.cell (show W3.drew.cell? _=_ from hk0) (fun hm=>HMA.out (HZA.out _ hm))
  have MD:Hid (Mv A A Z Z w W3.drew):=Lib.hid (M3.out.trans (Mv.below (below_drewN W3 1)))
  have HF:Hid (SyP w W7 A Z c n (S.lose K)):=Lib.hid (SyP.trans MD.out ⟨A7,Z7,h7,m7⟩)
  clear h7 m7
  go_wp2_with fail
  go_end0
  exact ⟨rfl,HF.out⟩
end
end Go.Proofs.Ytnicaicjgaoolaa
