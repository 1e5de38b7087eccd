/-
  What the proof of the law leans on: contracts of the program's functions, one behind another. No condition.
-/
import Derived.Test.YtnicaicjgaoolaaT15
import Derived.Test.YtnicaicjgaoolaaT3
set_option linter.unusedVariables false
set_option linter.unusedSimpArgs false
namespace Go.Proofs.Ytnicaicjgaoolaa
open Go.RowKit Go.ChangeMaps Go.WideMaps Go.Maps
set_option maxRecDepth 20000
section
variable (p:String)
def z0hx0:Oper:=⟨some 34,.move (.tmp 0),39,p,#[],none⟩
def z0hx1:Oper:=⟨some 35,.move (.tmp 0),39,p,#[],none⟩
def z0hx2:Oper:=⟨some 36,.nilCheck (.tmp 35),0,p,#[⟨1,.data⟩],none⟩
def z0hx3:Oper:=⟨some 37,.fieldAddr 66 (.tmp 36) 6,0,p,#[⟨2,.data⟩],none⟩
def z0hx4:Oper:=⟨some 39,.move (.tmp 1),29,p,#[],none⟩
def z0hx5:Oper:=⟨some 38,.load 2 (.tmp 37),2,p,#[⟨3,.data⟩],none⟩
def z0hx6:Oper:=⟨some 40,.call { callee:=Callee.value (Operand.func 26),args:=#[.tmp 39],argTypes:=#[29]},29,p,#[⟨5,.data⟩],none⟩
def z0hx7:Oper:=⟨some 41,.build 68 #[(0,.tmp 38),(1,.tmp 40)],68,p,#[⟨4,.data⟩,⟨6,.data⟩],none⟩
def z0hx8:Oper:=⟨some 42,.call { callee:=Callee.value (Operand.func 28),args:=#[.tmp 34,.tmp 41],argTypes:=#[39,68]},4,p,#[⟨0,.data⟩,⟨7,.data⟩,⟨6,.chain⟩],none⟩
def z0hx9:Oper:=⟨some 43,.unOp UnOp.not 4 (.tmp 42),4,p,#[⟨8,.data⟩],none⟩
end
attribute [go_sem,reducible] z0hx0 z0hx1 z0hx2 z0hx3 z0hx4 z0hx5 z0hx6 z0hx7 z0hx8 z0hx9
theorem z0hxm0 {p:Prop} (h:p:=by
 refine hK.out _ _ trivial (fun hHeld=>?_)
 clear hK K
 refine qsp ?_
 refine qtl 7 (z0hx7 _) rfl ?_
 refine qr1 8 (z0hx8 _) rfl fun K hK=>?_
 unfold z0hx8
 go_simp
 refine (HP.out _ HB4.out _ HI4.out).mono ?_
 rintro e w5 ⟨rfl,hn5⟩
 have HN5:=Lib.hid hn5
 clear hn5
 go_wp2_with fail
 refine hK.out _ _ trivial (fun hHeld=>?_)
 clear hK K
 refine qsp ?_
 refine qtl 9 (z0hx9 _) rfl ?_
 refine qdn ?_
 go_wp2_with fail
 go_meet
 exact ⟨by rfl,HN5.out⟩):p:=h
/-- messages, an error, and the node -/
structure SbP (w w':World) (A X:List Nat) (r d l:Nat) (e:Ending) (p:List Msg×Int×Rp×Dk):Prop where
 ex:∃v A' X',e = .returned (.tuple #[v,.int .i64 p.2.1])∧Nd w' A' X' r d l p.2.2.1 p.2.2.2∧OwnMs w' A' w.heap.size v p.1∧Mv A A' X X' w w'∧∀b,v.ownBlock=some b→b∉A'
section
variable {w w':World} {A A' X X':List Nat} {r d l:Nat} {s s':Rp} {k k':Dk}
theorem SbP.none {z:Int} (h:NdP w w' A X r d l s' k'):SbP w w' A X r d l (.returned (.tuple #[.slice none 0 0,.int .i64 z])) ([],z,s',k'):=by
 obtain ⟨A',X',h,m⟩:=h
 exact ⟨_,A',X',rfl,h,OwnMs.nil _ _ _,m,(fun b hb=>by cases hb)⟩
set_option maxHeartbeats 4000000 in
theorem submit_any (h:Nd w A X r d l s k) (hw:Wf s k) (ao:Option Addr) (n c:Nat) (rec:List UInt8) (hi:Imm w A (.slice ao n c) rec) (hn:n=rec.length) (hnb:n≤1000000):Calls Try.prog 16 #[.pointer (some ⟨r,0,none⟩),.slice ao n c] w fun e w'=>SbP w w' A X r d l e (submitM s k rec):=by
 have HD:=Lib.hid (done_any h)
 have HXR:=Lib.hid h.rX
 have HRL:Hid (rec.length=n):=Lib.hid hn.symm
 have HXA:=Lib.hid (h.xA r h.rX)
 have HW:=Lib.hid (wf_doneS hw)
 have HIM:=Lib.hid hi
 have H:=Lib.hid h
 by_cases h0:n=0
 ·have HE:Hid (submitM s k rec=([],1,s,k)):=Lib.hid (by unfold submitM;rw [if_pos (by omega)])
  clear h hw hi
  go_enter Try.func16,Try.ntmps16
  go_wp2_with fail
  go_ret2
  rw [HE.out]
  exact SbP.none (H.out.ndp (Mv.refl _ _ _))
 ·by_cases h8:8000<n
  ·have HE:Hid (submitM s k rec=([],2,s,k)):=Lib.hid (by unfold submitM;rw [if_neg (by omega),if_pos (by omega)])
   have g8:(8000:Int)<(n:Int):=by omega
   have g0:((n:Int)==0)=false:=by simp;omega
   clear h hw hi
   go_enter Try.func16,Try.ntmps16
   go_wp2_with fail
   go_ret2
   rw [HE.out]
   exact SbP.none (H.out.ndp (Mv.refl _ _ _))
  ·have HE:Hid (submitM s k rec=(let s1:=doneS s k
    if s1.done then ([],10,s1,k) else if !s1.leads then ([],15,s1,k) else if 200≤openM s1∨2000≤s1.many then ([],9,s1,k) else
    let p:=putM s1 k ⟨s1.term,rec⟩
    if p.1 then (let s2:=(settleM p.2.1).2;(othersM s2 (layingM s2),0,s2,p.2.2)) else ([],10,p.2))):=Lib.hid (by unfold submitM;rw [if_neg (by omega),if_neg (by omega)])
   have g8:¬(8000:Int)<(n:Int):=by omega
   have g0:((n:Int)==0)=false:=by simp;omega
   (try simp only at HE)
   have hdd:(doneS s k).done=doneM s k:=rfl
   clear h hw hi hn
   generalize doneS s k=s1 at *
   go_enter Try.func16,Try.ntmps16
   go_wp2_with fail
   refine HD.out.mono ?_
   rintro e w2 ⟨rfl,hn2,ho2⟩
   have H2:=Lib.hid hn2
   have M2:=Lib.hid (Mv.only (A:=A) ho2 (by simpa using HXR.out))
   have HI2:=Lib.hid (HIM.out.step ho2 (by simpa using HXA.out) (Ext.refl _ _))
   obtain ⟨vl,gv,gn,gm,gh,hcell⟩:=hn2.cells
   have hc11:w2.cell? ⟨r,11,none⟩=some (.bool s1.leads):=by rw [cell_heap hcell];rfl
   have hc10:w2.cell? ⟨r,10,none⟩=some (.int .i64 (s1.many:Int)):=by rw [cell_heap hcell];rfl
   have hc6:w2.cell? ⟨r,6,none⟩=some (.int .i64 s1.term):=by rw [cell_heap hcell];rfl
   clear hn2 ho2 hcell
   cases hdn:doneM s k with
   | true =>
    rw [if_pos (by rw [hdd,hdn])] at HE
    go_wp2_with fail
    go_ret2
    rw [HE.out]
    exact SbP.none (H2.out.ndp M2.out)
   | false =>
    rw [if_neg (by rw [hdd,hdn];decide)] at HE
    cases hld:s1.leads with
    | false =>
     rw [hld] at hc11 HE
     rw [if_pos (by decide)] at HE
     go_wp2_with fail
     go_ret2
     rw [HE.out]
     exact SbP.none (H2.out.ndp M2.out)
    | true =>
     rw [hld] at hc11 HE
     rw [if_neg (by decide)] at HE
     have HOP:=Lib.hid (open_any H2.out HW.out.agr (by have:=HW.out.logb;omega))
     generalize openM s1=om at *
     by_cases hfull:200≤om∨2000≤s1.many
     ·rw [if_pos hfull] at HE
      by_cases ho:200≤om
      ·have g2:(200:Int)≤(om:Int):=by omega
       clear hfull
       go_wp2_with fail
       refine HOP.out.mono ?_
       rintro e w3 ⟨rfl,hb3⟩
       have HB3:=Lib.hid hb3
       clear hb3
       go_wp2_with fail
       go_ret2
       rw [HE.out]
       exact SbP.none ((H2.out.below HB3.out).ndp (M2.out.trans (Mv.below HB3.out)))
      ·have g2:¬(200:Int)≤(om:Int):=by omega
       have g3:(2000:Int)≤(s1.many:Int):=by omega
       clear hfull
       go_wp2_with fail
       refine HOP.out.mono ?_
       rintro e w3 ⟨rfl,hb3⟩
       have HB3:=Lib.hid hb3
       have hk10:=cell_later hb3 hc10
       clear hb3
       go_wp2_with fail
       go_ret2
       rw [HE.out]
       exact SbP.none ((H2.out.below HB3.out).ndp (M2.out.trans (Mv.below HB3.out)))
     ·rw [if_neg hfull] at HE
      have g2:¬(200:Int)≤(om:Int):=by omega
      have g3:¬(2000:Int)≤(s1.many:Int):=by omega
      clear hfull
      have HNB:=Lib.hid hnb
      go_wp2_with fail
      refine HOP.out.mono ?_
      rintro e W3 ⟨rfl,hb3⟩
      have h3:Nd W3.drew A X r d l s1 k:=(H2.out.below hb3).below (below_drewN W3 1)
      have M3:Hid (Mv A A X X w W3.drew):=Lib.hid (M2.out.trans ((Mv.below hb3).trans (Mv.below (below_drewN W3 1))))
      have hi3:Imm W3.drew A (.slice ao n c) rec:=(HI2.out.below hb3).below (below_drewN W3 1)
      have hk10:=cell_later hb3 hc10
      have hk6:=cell_later hb3 hc6
      have hkv6:W3.drew.cell? ⟨r,6,none⟩=some (.int .i64 s1.term):=hk6
      have HIB:Hid (IsB W3.drew ao n c rec):=Lib.hid (by
       obtain ⟨ao',c',e,h1,_⟩:=hi3
       rw [HRL.out] at e h1
       cases e
       exact h1)
      have HAD:=Lib.hid h3.alt
      have hrl8:rec.length≤8000:=by rw [HRL.out];omega
      have HP:Hid (∀W',Below W3.drew.heap.size W3.drew W'→∀u,Imm W' A u rec→Calls Try.prog 28 #[.pointer (some ⟨r,0,none⟩),.agg #[.int .i64 s1.term,u]] W' fun e w'=>e = .returned (.bool (putM s1 k ⟨s1.term,rec⟩).1)∧NdP w w' A X r d l (putM s1 k ⟨s1.term,rec⟩).2.1 (putM s1 k ⟨s1.term,rec⟩).2.2):=Lib.hid (fun W' hb u hu =>
       (put_any (h3.below hb) HW.out ⟨s1.term,rec⟩ hrl8 u hu).mono (by rintro e w' ⟨q1,q2⟩;exact ⟨q1,q2.trans (M3.out.trans (Mv.below hb))⟩))
      have HWP:=Lib.hid (wf_put HW.out ⟨s1.term,rec⟩ hrl8)
      have HSP:=Lib.hid (same_put (s:=s1) (k:=k) ⟨s1.term,rec⟩)
      have hld2:s1.leads=true:=hld
      have HLD:=Lib.hid hld2
      clear hb3 hi3 h3 hrl8 hc10 hc11 hc6
      (try simp only at HE)
      generalize putM s1 k ⟨s1.term,rec⟩=p at *
      obtain ⟨ok,s2,k2⟩:=p
      (try simp only at HE);(try simp only at HP);(try simp only at HWP);(try simp only at HSP)
      go_upto_region 11 with (fail)
      go_cut [43] (fun v wx=>v = .bool (!ok)∧NdP w wx A X r d l s2 k2)
      case first =>
       as_aux_lemma =>
       refine wp_region_held_drew (S:=fun _=>True) (by kernel_rfl) trivial (fun hHeld=>?_)
       refine qtl 0 (z0hx0 _) rfl ?_
       refine qtl 1 (z0hx1 _) rfl ?_
       refine qtl 2 (z0hx2 _) rfl ?_
       refine qtl 3 (z0hx3 _) rfl ?_
       refine qtl 5 (z0hx4 _) rfl ?_
       generalize W3.drew=V3 at *
       refine qr2 4 6 (z0hx5 _) (z0hx6 _) rfl rfl (fun K hK=>?_) fun K hK=>?_
       ·unfold z0hx5
        go_simp
        refine hK.out _ _ trivial (fun hHeld=>?_)
        clear hK K
        refine qsp ?_
        refine qr1 6 (z0hx6 _) rfl fun K hK=>?_
        unfold z0hx6
        go_simp
        refine (F.clone_any ao n c rec _ HIB.out (by have:=HNB.out;omega)).mono ?_
        rintro e w4 ⟨v4,rfl,ho4,hb4⟩
        have HI4:=Lib.hid (Imm.new ho4 HAD.out)
        have HB4:=Lib.hid hb4
        have hk4:=cell_later hb4 hkv6
        obtain ⟨a4,c4,e4,_⟩:=id HI4.out
        rw [HRL.out] at e4
        subst e4
        clear ho4 hb4
        go_wp2_with fail
        exact z0hxm0
       ·unfold z0hx6
        go_simp
        refine (F.clone_any ao n c rec _ HIB.out (by have:=HNB.out;omega)).mono ?_
        rintro e w4 ⟨v4,rfl,ho4,hb4⟩
        have HI4:=Lib.hid (Imm.new ho4 HAD.out)
        have HB4:=Lib.hid hb4
        have hk4:=cell_later hb4 hkv6
        obtain ⟨a4,c4,e4,_⟩:=id HI4.out
        rw [HRL.out] at e4
        subst e4
        clear ho4 hb4
        go_wp2_with fail
        refine hK.out _ _ trivial (fun hHeld=>?_)
        clear hK K
        refine qsp ?_
        refine qr1 4 (z0hx5 _) rfl fun K hK=>?_
        unfold z0hx5
        go_simp
        exact z0hxm0
      case rest =>
      obtain ⟨rfl,hn5⟩:=hcut
      have HN5:=Lib.hid hn5
      clear hn5
      cases ok with
      | false =>
       rw [if_neg (by simp)] at HE
       go_wp2_with fail
       go_ret2
       rw [HE.out]
       exact SbP.none HN5.out
      | true =>
       rw [if_pos rfl] at HE
       obtain ⟨A2,X2,h5,m5⟩:=HN5.out
       have H5:=Lib.hid h5
       have M5:=Lib.hid m5
       clear h5 m5
       go_wp2_with fail
       refine (settle_any H5.out HWP.out).mono ?_
       rintro e w6 ⟨rfl,A3,X3,h6,m6⟩
       have H6:=Lib.hid h6
       have M6:=Lib.hid (M5.out.trans m6)
       have HW6:=Lib.hid (wf_settle HWP.out)
       have HL6:Hid ((settleM s2).2.leads=true):=Lib.hid (by
         obtain ⟨w0,d0,l0,e0⟩:=HSP.out
         rw [settle_leads,e0]
         exact HLD.out)
       clear h6 m6
       generalize (settleM s2).1=ob at *
       generalize (settleM s2).2=s3 at *
       go_wp2_with fail
       refine (others_laying H6.out HW6.out.n5 HW6.out (fun i _=>(HW6.out.lead HL6.out i).1)).mono ?_
       rintro e w7 ⟨v7,rfl,ho7,hb7⟩
       have HF:Hid (SbP w w7 A X r d l (.returned (.tuple #[v7,.int .i64 0])) (othersM s3 (layingM s3),0,s3,k2)):=Lib.hid ⟨v7,A3,X3,rfl,H6.out.below hb7,ho7.mono M6.out.mv.only.size,M6.out.trans (Mv.below hb7),fun b hb8 hm8=>by have:=(ho7.lt b (by simp [hb8])).1;have:=H6.out.alt b hm8;omega⟩
       clear ho7 hb7
       go_wp2_with fail
       go_ret2
       rw [HE.out]
       exact HF.out
end
end Go.Proofs.Ytnicaicjgaoolaa
namespace Go.Proofs.Ytnicaicjgaoolaa
open Go.RowKit Go.ChangeMaps Go.WideMaps Go.Maps
set_option maxRecDepth 20000
section
variable (p:String)
def z0ax0:Oper:=⟨some 94,.move (.tmp 0),39,p,#[],none⟩
def z0ax1:Oper:=⟨some 95,.fieldAddr 51 (.tmp 3) 0,0,p,#[],none⟩
def z0ax2:Oper:=⟨some 96,.load 3 (.tmp 95),3,p,#[⟨1,.data⟩],none⟩
def z0ax3:Oper:=⟨some 97,.move (.tmp 0),39,p,#[],none⟩
def z0ax4:Oper:=⟨some 98,.nilCheck (.tmp 97),0,p,#[⟨3,.data⟩],none⟩
def z0ax5:Oper:=⟨some 99,.fieldAddr 66 (.tmp 98) 6,0,p,#[⟨4,.data⟩],none⟩
def z0ax6:Oper:=⟨some 100,.load 2 (.tmp 99),2,p,#[⟨5,.data⟩],none⟩
def z0ax7:Oper:=⟨some 101,.buildSlice 49 2 #[(0,.tmp 100),(1,Operand.const (Value.int IntKind.i64 0))],49,p,#[⟨6,.data⟩],none⟩
def z0ax8:Oper:=⟨some 102,.call { callee:=Callee.value (Operand.func 44),args:=#[.tmp 94,.tmp 96,Operand.const (Value.int IntKind.i64 2),.tmp 101],argTypes:=#[39,3,3,49]},51,p,#[⟨0,.data⟩,⟨2,.data⟩,⟨7,.data⟩],none⟩
def z0ax9:Oper:=⟨some 103,.buildSlice 35 1 #[(0,.tmp 102)],35,p,#[⟨8,.data⟩],none⟩
def z0ax10:Oper:=⟨some 4,.assign (.tmp 103),35,p,#[⟨9,.data⟩,⟨8,.chain⟩,⟨0,.phase⟩,⟨1,.phase⟩,⟨2,.phase⟩,⟨3,.phase⟩,⟨4,.phase⟩,⟨5,.phase⟩,⟨6,.phase⟩,⟨7,.phase⟩,⟨8,.phase⟩,⟨9,.phase⟩],none⟩
def z0ax11:Oper:=⟨some 73,.move (.tmp 7),4,p,#[],none⟩
def z0ax12:Oper:=⟨some 74,.move (.tmp 73),4,p,#[⟨0,.data⟩],none⟩
def z0ax13:Oper:=⟨some 75,.move (.tmp 0),39,p,#[⟨1,.guard⟩],some (1,true)⟩
def z0ax14:Oper:=⟨some 76,.nilCheck (.tmp 75),0,p,#[⟨2,.data⟩,⟨1,.guard⟩],some (1,true)⟩
def z0ax15:Oper:=⟨some 77,.fieldAddr 66 (.tmp 76) 7,0,p,#[⟨3,.data⟩,⟨1,.guard⟩],some (1,true)⟩
def z0ax16:Oper:=⟨some 78,.load 3 (.tmp 77),3,p,#[⟨4,.data⟩,⟨1,.guard⟩],some (1,true)⟩
def z0ax17:Oper:=⟨some 79,.binOp BinOp.eql 3 (.tmp 78) (Operand.const (Value.int IntKind.i64 (-1))) 3,4,p,#[⟨5,.data⟩,⟨1,.guard⟩],some (1,true)⟩
def z0ax18:Oper:=⟨some 80,.pick (.tmp 74) (.tmp 79) (Operand.const (Value.bool false)),4,p,#[⟨1,.data⟩,⟨6,.data⟩],none⟩
def z0ax19:Oper:=⟨some 81,.move (.tmp 80),4,p,#[⟨7,.data⟩,⟨1,.chain⟩],none⟩
def z0ax20:Oper:=⟨some 82,.move (.tmp 0),39,p,#[⟨8,.guard⟩],some (8,true)⟩
def z0ax21:Oper:=⟨some 83,.move (.tmp 0),39,p,#[⟨8,.guard⟩],some (8,true)⟩
def z0ax22:Oper:=⟨some 84,.nilCheck (.tmp 83),0,p,#[⟨10,.data⟩,⟨8,.guard⟩],some (8,true)⟩
def z0ax23:Oper:=⟨some 85,.fieldAddr 66 (.tmp 84) 6,0,p,#[⟨11,.data⟩,⟨8,.guard⟩],some (8,true)⟩
def z0ax24:Oper:=⟨some 87,.fieldAddr 51 (.tmp 3) 0,0,p,#[⟨8,.guard⟩],some (8,true)⟩
def z0ax25:Oper:=⟨some 88,.load 3 (.tmp 87),3,p,#[⟨14,.data⟩,⟨8,.guard⟩],some (8,true)⟩
def z0ax26:Oper:=⟨some 86,.load 2 (.tmp 85),2,p,#[⟨12,.data⟩,⟨8,.guard⟩],some (8,true)⟩
def z0ax27:Oper:=⟨some 89,.call { callee:=Callee.value (Operand.func 34),args:=#[.tmp 82,.tmp 86,.tmp 88],argTypes:=#[39,2,3]},4,p,#[⟨9,.data⟩,⟨13,.data⟩,⟨15,.data⟩,⟨8,.chain⟩,⟨8,.guard⟩],some (8,true)⟩
def z0ax28:Oper:=⟨some 90,.unOp UnOp.not 4 (.tmp 89),4,p,#[⟨16,.data⟩,⟨8,.guard⟩],some (8,true)⟩
def z0ax29:Oper:=⟨some 91,.pick (.tmp 81) (.tmp 90) (Operand.const (Value.bool false)),4,p,#[⟨8,.data⟩,⟨17,.data⟩],none⟩
def z0ax30:Oper:=⟨some 107,.move (.tmp 0),39,p,#[],none⟩
def z0ax31:Oper:=⟨some 108,.fieldAddr 51 (.tmp 3) 0,0,p,#[],none⟩
def z0ax32:Oper:=⟨some 109,.load 3 (.tmp 108),3,p,#[⟨1,.data⟩],none⟩
def z0ax33:Oper:=⟨some 110,.move (.tmp 0),39,p,#[],none⟩
def z0ax34:Oper:=⟨some 111,.nilCheck (.tmp 110),0,p,#[⟨3,.data⟩],none⟩
def z0ax35:Oper:=⟨some 112,.fieldAddr 66 (.tmp 111) 6,0,p,#[⟨4,.data⟩],none⟩
def z0ax36:Oper:=⟨some 113,.load 2 (.tmp 112),2,p,#[⟨5,.data⟩],none⟩
def z0ax37:Oper:=⟨some 114,.buildSlice 49 2 #[(0,.tmp 113),(1,Operand.const (Value.int IntKind.i64 1))],49,p,#[⟨6,.data⟩],none⟩
def z0ax38:Oper:=⟨some 115,.call { callee:=Callee.value (Operand.func 44),args:=#[.tmp 107,.tmp 109,Operand.const (Value.int IntKind.i64 2),.tmp 114],argTypes:=#[39,3,3,49]},51,p,#[⟨0,.data⟩,⟨2,.data⟩,⟨7,.data⟩],none⟩
def z0ax39:Oper:=⟨some 116,.buildSlice 35 1 #[(0,.tmp 115)],35,p,#[⟨8,.data⟩],none⟩
def z0ax40:Oper:=⟨some 4,.assign (.tmp 116),35,p,#[⟨9,.data⟩,⟨8,.chain⟩,⟨0,.phase⟩,⟨1,.phase⟩,⟨2,.phase⟩,⟨3,.phase⟩,⟨4,.phase⟩,⟨5,.phase⟩,⟨6,.phase⟩,⟨7,.phase⟩,⟨8,.phase⟩,⟨9,.phase⟩],none⟩
end
attribute [go_sem,reducible] z0ax0 z0ax1 z0ax2 z0ax3 z0ax4 z0ax5 z0ax6 z0ax7 z0ax8 z0ax9 z0ax10 z0ax11 z0ax12 z0ax13 z0ax14 z0ax15 z0ax16 z0ax17 z0ax18 z0ax19 z0ax20 z0ax21 z0ax22 z0ax23 z0ax24 z0ax25 z0ax26 z0ax27 z0ax28 z0ax29 z0ax30 z0ax31 z0ax32 z0ax33 z0ax34 z0ax35 z0ax36 z0ax37 z0ax38 z0ax39 z0ax40
section
variable {w w':World} {A A' X X':List Nat} {r d l:Nat} {s s':Rp} {k k':Dk}
def msgC (m:Msg) (v u:Value):Array Value:=#[.int .i64 m.frm,.int .i64 m.dst,.int .i64 m.kind,v,u]
theorem drewN_drewN (w:World) (a b:Nat):(w.drewN a).drewN b=w.drewN (a+b):=by
 simp
/-- one message in a row of its own -/
theorem one_ms (h:Nd w A X r d l s k) {w2:World} (hb:Below w.heap.size w w2) (m:Msg) (v u:Value) (hm:IsMsg w2 A m v u):MsP w (w2.alloc (.cells (msgC m v u) 51)) A X r d l (.returned (.slice (some ⟨w2.heap.size,0,none⟩) 1 1)) ([m],s,k):=by
 have hbb:Below w2.heap.size w2 (w2.alloc (.cells (msgC m v u) 51)):=(Below.refl _ _).alloc (Nat.le_refl _) _
 have hb2:=hb.trans (hbb.mono hb.size)
 refine ⟨_,A,X,rfl,h.below hb2,⟨[⟨m,v,u⟩],rfl,?_,fun x hx=>?_⟩,Mv.below hb2,fun b hb3 hm3=>by have h9:=h.alt b hm3;have h8:=hb.size;simp [Value.ownBlock] at hb3;omega⟩
 ·refine ⟨by simp [row5,cells5],.inr ⟨w2.heap.size,1,msgC m v u,rfl,hb.size,heap_new _ _,Nat.le_refl _,by unfold maxLen;omega,rfl,?_⟩⟩
  simp [row5,cells5,msgC]
 ·obtain rfl:=List.mem_singleton.1 hx
  have ho:=Only.ofBelow hbb []
  refine hm.step ho (fun b hb=>by cases hb) (fun b hb=>?_)
  rcases List.mem_append.1 hb with hb | hb
  ·exact .inl hb
  ·refine .inr ?_
   have:b=w2.heap.size:=by simpa [Value.ownBlock] using hb
   omega
/-- a message's numbers -/
structure NumC (w:World) (v:Value) (N:List Int) (b off c:Nat):Prop where
 v:v = .slice (some ⟨b,off,none⟩) N.length c
 at_:∀i,i<N.length→w.cell? ⟨b,off+i,none⟩=some (.int .i64 (N.getD i 0))
theorem numC {v:Value} {N:List Int} (h:ImmI w A v N) (hn:0<N.length):∃b off c,NumC w v N b off c:=by
 obtain ⟨ao,c,rfl,⟨_,_,h3⟩,_⟩:=h
 rcases h3 with h3 | ⟨b,off,h4,h5⟩
 ·omega
 ·subst h4
  exact ⟨b,off,c,rfl,fun i hi=>by rw [h5 i hi]⟩
theorem NumC.below {v:Value} {N:List Int} {b off c:Nat} (h:NumC w v N b off c) (hb:Below w.heap.size w w'):NumC w' v N b off c:=⟨h.v,fun i hi=>cell_later hb (h.at_ i hi)⟩
set_option maxHeartbeats 4000000 in
theorem asked_any (h:Nd w A X r d l s k) (hw:Wf s k) (m:Msg) (v u:Value) (hm:IsMsg w A m v u) (hf:0≤m.frm) (hf2:m.frm<s.n):Calls Try.prog 35 #[.pointer (some ⟨r,0,none⟩),msgV m v u] w fun e w'=>MsP w w' A X r d l e (askedM s k m):=by
 have hbw:Below w.heap.size w (w.alloc (.cells (msgC m v u) 51)):=(Below.refl _ _).alloc (Nat.le_refl _) _
 have hbx:=heap_new w (.cells (msgC m v u) 51)
 have h1:=h.below hbw
 have HM0:Hid (Mv A A X X w (w.alloc (.cells (msgC m v u) 51))):=Lib.hid (Mv.below hbw)
 have hM0:(w.alloc (.cells (msgC m v u) 51)).cell? ⟨w.heap.size,0,none⟩=some (.int .i64 m.frm):=by rw [cell_heap hbx];rfl
 have hM3:(w.alloc (.cells (msgC m v u) 51)).cell? ⟨w.heap.size,3,none⟩=some v:=by rw [cell_heap hbx];rfl
 have HPN:Hid (∀b∈X,b≠w.heap.size):=Lib.hid (fun b hb e=>by have:=h.alt b (h.xA b hb);omega)
 have hPW:w.heap.size<(w.alloc (.cells (msgC m v u) 51)).heap.size:=by simp
 have ho1:=hm.one
 obtain ⟨ao,cN,ev,hIs,hcN,hcN2,_⟩:=id hm.n
 by_cases h3:m.N.length=3
 ·obtain ⟨b,off,c,hc⟩:=numC hm.n (by omega)
  have hcW:=hc.below hbw
  have hv:=hc.v
  rw [h3] at hv
  subst hv
  have hN0:=hcW.at_ 0 (by omega)
  have hN1:=hcW.at_ 1 (by omega)
  have hN2:=hcW.at_ 2 (by omega)
  rw [Nat.add_zero] at hN0
  obtain ⟨al,cl,hc8,hl1,hl2⟩:=h1.loglen
  obtain ⟨vl,gv,gn,gm,gh,hcell⟩:=h1.cells
  have hc6:(w.alloc (.cells (msgC m (.slice (some ⟨b,off,none⟩) 3 c) u) 51)).cell? ⟨r,6,none⟩=some (.int .i64 s.term):=by rw [cell_heap hcell];rfl
  have hc7:(w.alloc (.cells (msgC m (.slice (some ⟨b,off,none⟩) 3 c) u) 51)).cell? ⟨r,7,none⟩=some (.int .i64 s.choice):=by rw [cell_heap hcell];rfl
  have hlb:=hw.logb
  have HLT:=Lib.hid (fun W' (hb:Below (w.alloc (.cells (msgC m (.slice (some ⟨b,off,none⟩) 3 c) u) 51)).heap.size (w.alloc (.cells (msgC m (.slice (some ⟨b,off,none⟩) 3 c) u) 51)) W')=>lastTerm_any (h1.below hb) s.log.length (Nat.le_refl _) (by omega))
  have HEN:=Lib.hid (fun W' (hb:Below (w.alloc (.cells (msgC m (.slice (some ⟨b,off,none⟩) 3 c) u) 51)).heap.size (w.alloc (.cells (msgC m (.slice (some ⟨b,off,none⟩) 3 c) u) 51)) W')=>(enter_any (h1.below hb) hw s.term m.frm).mono (R':=fun e w'=>e = .returned (.bool (enterM s k s.term m.frm).1)∧NdP (w.alloc (.cells (msgC m (.slice (some ⟨b,off,none⟩) 3 c) u) 51)) w' A X r d l (enterM s k s.term m.frm).2.1 (enterM s k s.term m.frm).2.2) (by rintro e w' ⟨h1,h2⟩;exact ⟨h1,h2.trans (Mv.below hb)⟩))
  have HKM:Hid (∀w2 s2 k2,NdP (w.alloc (.cells (msgC m (.slice (some ⟨b,off,none⟩) 3 c) u) 51)) w2 A X r d l s2 k2→w2.cell? ⟨w.heap.size,0,none⟩=some (.int .i64 m.frm)):=Lib.hid (fun w2 s2 k2 hn=>by
   obtain ⟨A2,X2,h2,m2⟩:=hn
   exact m2.mv.only.cell hM0 (fun hm=>HPN.out _ hm rfl))
  have HE:Hid (askedM s k m=(
   let own:=lastTermM s.log s.log.length
   let behind:=decide (own<m.N.getD 2 0)||(m.N.getD 2 0==own&&decide ((s.log.length:Int)≤m.N.getD 1 0))
   let yes:=(m.N.getD 0 0==s.term)&&behind&&(s.choice == -1||s.choice==m.frm)
   if yes then
    if s.choice == -1 then
     let p:=enterM s k s.term m.frm
     if p.1 then (let s1:={ p.2.1 with ticks:=0 };([sayM s1 m.frm 2 [s1.term,1]],s1,p.2.2)) else ([],p.2)
    else (let s1:={ s with ticks:=0 };([sayM s1 m.frm 2 [s1.term,1]],s1,k))
   else ([sayM s m.frm 2 [s.term,0]],s,k))):=Lib.hid (by unfold askedM;rw [if_pos h3])
  (try simp only at HE)
  have HN1:=Lib.hid h1
  clear h h1 hw hm hIs hcell hbw hbx ev hc hcW ho1
  unfold msgV msgC at *
  generalize lastTermM s.log s.log.length=lt at *
  generalize s.log.length=sl at *
  generalize m.N.getD 0 0=n0 at *
  generalize m.N.getD 1 0=n1 at *
  generalize m.N.getD 2 0=n2 at *
  go_enter Try.func35,Try.ntmps35
  go_wp2_with fail
  generalize w.alloc (.cells #[.int .i64 m.frm,.int .i64 m.dst,.int .i64 m.kind,.slice (some ⟨b,off,none⟩) 3 c,u] 51)=W at *
  generalize w.heap.size=M at *
  refine (HLT.out W (Below.refl _ _)).mono ?_
  rintro e w1 ⟨rfl,rfl⟩
  go_upto_region 4 with (fail)
  go_cut [6] (fun v wx=>v = .bool (decide (lt<n2)||(n2==lt&&decide ((sl:Int)≤n1)))∧∃q,wx=W.drewN q)
  case first =>
   cases b1:decide (lt<n2) with
   | true =>
    go_quiet (fail)
    go_wp2_with fail
    go_meet
    exact ⟨by rw [b1];rfl,nq,rfl⟩
   | false =>
    cases b2:n2==lt with
    | false =>
     go_quiet (fail)
     go_wp2_with fail
     go_meet
     exact ⟨by rw [b1,b2];rfl,nq,rfl⟩
    | true =>
     go_quiet (fail)
     go_wp2_with fail
     go_meet
     exact ⟨by rw [b1,b2];rfl,nq,rfl⟩
  case rest =>
  obtain ⟨rfl,q4,rfl⟩:=hcut
  generalize (decide (lt<n2)||(n2==lt&&decide ((sl:Int)≤n1)))=bh at *
  go_upto_region 5 with (fail)
  go_cut [7] (fun v wx=>v = .bool ((n0==s.term)&&bh&&(s.choice == -1||s.choice==m.frm))∧∃q,wx=W.drewN q)
  case first =>
   cases y1:n0==s.term with
   | false =>
    go_quiet (fail)
    go_wp2_with fail
    go_meet
    exact ⟨by rw [y1];rfl,_,drewN_drewN W q4 nq⟩
   | true =>
    cases bh with
    | false =>
     go_quiet (fail)
     go_wp2_with fail
     go_meet
     exact ⟨by rw [y1];rfl,_,drewN_drewN W q4 nq⟩
    | true =>
     cases c1:s.choice == -1 with
     | true =>
      go_quiet (fail)
      go_wp2_with fail
      go_meet
      exact ⟨by rw [y1,c1];rfl,_,drewN_drewN W q4 nq⟩
     | false =>
      go_quiet (fail)
      go_wp2_with fail
      go_meet
      exact ⟨by rw [y1,c1];rfl,_,drewN_drewN W q4 nq⟩
  case rest =>
  obtain ⟨rfl,q5,rfl⟩:=hcut
  generalize ((n0==s.term)&&bh&&(s.choice == -1||s.choice==m.frm))=yes at *
  have HBQ5:Hid (Below W.heap.size W (W.drewN q5)):=Lib.hid (below_drewN W q5)
  have HSAYG:Hid (∀(W8:World) A8 X8 s8 k8,Nd W8 A8 X8 r d l s8 k8→∀W9,Below W8.heap.size W8 W9→∀dst kind N ao n c,Calls Try.prog 44 #[.pointer (some ⟨r,0,none⟩),.int .i64 dst,.int .i64 kind,.slice ao n c] W9 fun e w2=>e = .returned (msgV (sayM s8 dst kind N) (.slice ao n c) (.slice none 0 0))∧Below W9.heap.size W9 w2):=Lib.hid (fun W8 A8 X8 s8 k8 h W9 hb dst kind N ao n c=>say_any (h.below hb) dst kind N ao n c)
  clear HLT hN0 hN1 hN2 hM3 hc8
  cases yes with
  | false =>
   rw [if_neg (by simp)] at HE
   go_upto_region 6 with (fail)
   go_quiet (fail)
   go_upto_region 9 with (fail)
   obtain ⟨st8,hst8⟩:∃st8,st8=s.term:=⟨_,rfl⟩
   obtain ⟨s8,hs8⟩:∃s8,s8=s:=⟨_,rfl⟩
   obtain ⟨k8,hk8⟩:∃k8,k8=k:=⟨_,rfl⟩
   obtain ⟨A8,hA8⟩:∃A8,A8=A:=⟨_,rfl⟩
   obtain ⟨X8,hX8⟩:∃X8,X8=X:=⟨_,rfl⟩
   have h8:Nd (W.drewN (q5+nq)).drew A8 X8 r d l s8 k8:=by rw [hs8,hk8,hA8,hX8];exact (HN1.out.below (below_drewN W (q5+nq))).below (below_drewN _ 1)
   have M8:Hid (Mv A A8 X X8 w (W.drewN (q5+nq)).drew):=Lib.hid (by rw [hA8,hX8];exact (HM0.out.trans (Mv.below (below_drewN W (q5+nq)))).trans (Mv.below (below_drewN _ 1)))
   have hMV:(W.drewN (q5+nq)).drew.cell? ⟨M,0,none⟩=some (.int .i64 m.frm):=hM0
   have hr6:(W.drewN (q5+nq)).drew.cell? ⟨r,6,none⟩=some (.int .i64 st8):=by rw [hst8];exact hc6
   have HE:Hid (askedM s k m=([sayM s8 m.frm 2 [st8,0]],s8,k8)):=Lib.hid (by rw [hs8,hk8,hst8];exact HE.out)
   clear hc6 hc7 hM0 hst8 hs8 hk8 hA8 hX8
   generalize W.drewN (q5+nq)=W8 at *
   have HK8:Hid (∀W',Below W8.drew.heap.size W8.drew W'→W'.cell? ⟨M,0,none⟩=some (.int .i64 m.frm)∧W'.cell? ⟨r,6,none⟩=some (.int .i64 st8)):=Lib.hid (fun W' hb=>⟨cell_later hb hMV,cell_later hb hr6⟩)
   have HSAY:=Lib.hid (HSAYG.out _ _ _ _ _ h8)
   have HA8:=Lib.hid h8.alt
   have HBV:Hid (∀o,Below W8.drew.heap.size W8.drew (W8.drew.alloc o)):=Lib.hid (fun o=>(Below.refl _ _).alloc (Nat.le_refl _) o)
   have HF8:Hid (∀V10 vv N,Below W8.drew.heap.size W8.drew V10→ImmI V10 A8 vv N→MsP w (V10.alloc (.cells (msgC (sayM s8 m.frm 2 N) vv (.slice none 0 0)) 51)) A X r d l (.returned (.slice (some ⟨V10.heap.size,0,none⟩) 1 1)) ([sayM s8 m.frm 2 N],s8,k8)):=Lib.hid (fun V10 vv N hb hi=>MsP.trans M8.out (one_ms h8 hb (sayM s8 m.frm 2 N) vv (.slice none 0 0) ⟨hi,.inl ⟨rfl,rfl⟩⟩))
   unfold msgC at HF8
   refine wp_region_held_drew (S:=fun w'=>w'.cell? ⟨M,0,none⟩=some (.int .i64 m.frm)∧w'.cell? ⟨r,6,none⟩=some (.int .i64 st8)) (by kernel_rfl) (HK8.out _ (Below.refl _ _)) (fun hHeld=>?_)
   refine qtl 0 (z0ax0 _) rfl ?_
   refine qtl 1 (z0ax1 _) rfl ?_
   refine qtl 2 (z0ax2 _) rfl ?_
   refine qtl 3 (z0ax3 _) rfl ?_
   refine qtl 4 (z0ax4 _) rfl ?_
   refine qtl 5 (z0ax5 _) rfl ?_
   refine qtl 6 (z0ax6 _) rfl ?_
   generalize W8.drew=V8 at *
   refine qr1 7 (z0ax7 _) rfl fun K hK=>?_
   unfold z0ax7
   go_simp
   refine hK.out _ _ (HK8.out _ (HBV.out (.cells #[.int .i64 st8,.int .i64 0] 2))) (fun hHeld=>?_)
   clear hK K
   refine qsp ?_
   have HI8:Hid (ImmI (V8.alloc (.cells #[.int .i64 st8,.int .i64 0] 2)) A8 (.slice (some ⟨V8.heap.size,0,none⟩) 2 2) [st8,0]):=Lib.hid (ImmI.fresh [st8,0] _ rfl 2 2 rfl (by omega) HA8.out)
   have HB8:=Lib.hid (HBV.out (.cells #[.int .i64 st8,.int .i64 0] 2))
   generalize V8.alloc (.cells #[.int .i64 st8,.int .i64 0] 2)=V9 at *
   refine qr1 8 (z0ax8 _) rfl fun K hK=>?_
   unfold z0ax8
   go_simp
   refine (HSAY.out _ HB8.out _ _ [st8,0] _ _ _).mono ?_
   rintro e V10 ⟨rfl,hb10⟩
   have HB10:=Lib.hid (HB8.out.trans (hb10.mono HB8.out.size))
   have HI10:=Lib.hid (HI8.out.below hb10)
   clear hb10
   go_wp2_with fail
   refine hK.out _ _ (HK8.out _ HB10.out) (fun hHeld=>?_)
   clear hK K
   refine qsp ?_
   refine qr1 9 (z0ax9 _) rfl fun K hK=>?_
   unfold z0ax9
   unfold msgV
   go_simp
   refine hK.out _ _ (HK8.out _ (HB10.out.alloc HB10.out.size _)) (fun hHeld=>?_)
   clear hK K
   refine qsp ?_
   refine qtl 10 (z0ax10 _) rfl ?_
   refine qdn ?_
   clear hHeld
   go_wp2_with fail
   go_ret
   rw [HE.out]
   exact HF8.out _ _ _ HB10.out HI10.out
  | true =>
   rw [if_pos rfl] at HE
   go_upto_region 6 with (fail)
   have HQ6:Hid (∀n,(W.drewN q5).drewN n=W.drewN (q5+n)):=Lib.hid (fun n=>drewN_drewN W q5 n)
   cases hfail:(s.choice == -1) && !(enterM s k s.term m.frm).1 with
   | true =>
    have hc1:(s.choice == -1)=true:=by revert hfail;cases (s.choice == -1)<;>simp
    have hok:(enterM s k s.term m.frm).1=false:=by revert hfail;rw [hc1];simp
    rw [if_pos hc1,if_neg (by rw [hok];simp)] at HE
    have HEN2:=Lib.hid (HEN.out (W.drewN (q5+1)) (below_drewN W (q5+1)))
    rw [hok] at HEN2
    have hM6:(W.drewN q5).drew.cell? ⟨M,0,none⟩=some (.int .i64 m.frm):=hM0
    have HKM:=Lib.hid (fun w2=>HKM.out w2 (enterM s k s.term m.frm).2.1 (enterM s k s.term m.frm).2.2)
    generalize (enterM s k s.term m.frm).2=p2 at *
    refine wp_region_held_drew (S:=fun w'=>w'.cell? ⟨M,0,none⟩=some (.int .i64 m.frm)) (by kernel_rfl) hM6 (fun hHeld=>?_)
    refine qtl 0 (z0ax11 _) rfl ?_
    refine qtl 1 (z0ax12 _) rfl ?_
    refine qtl 2 (z0ax13 _) rfl ?_
    refine qtl 3 (z0ax14 _) rfl ?_
    refine qtl 4 (z0ax15 _) rfl ?_
    refine qr1 5 (z0ax16 _) rfl fun K hK=>?_
    unfold z0ax16
    go_simp
    refine hK.out _ _ hHeld (fun hHeld=>?_)
    clear hK K
    refine qsp ?_
    refine qtl 6 (z0ax17 _) rfl ?_
    refine qtl 7 (z0ax18 _) rfl ?_
    refine qtl 8 (z0ax19 _) rfl ?_
    refine qtl 9 (z0ax20 _) rfl ?_
    refine qtl 10 (z0ax21 _) rfl ?_
    refine qtl 11 (z0ax22 _) rfl ?_
    refine qtl 12 (z0ax23 _) rfl ?_
    refine qtl 14 (z0ax24 _) rfl ?_
    refine qtl 15 (z0ax25 _) rfl ?_
    refine qr1 13 (z0ax26 _) rfl fun K hK=>?_
    unfold z0ax26
    go_simp
    refine hK.out _ _ hHeld (fun hHeld=>?_)
    clear hK K
    refine qsp ?_
    refine qr1 16 (z0ax27 _) rfl fun K hK=>?_
    unfold z0ax27
    go_simp
    refine HEN2.out.mono ?_
    rintro e w2 ⟨rfl,hn2⟩
    have HN2:=Lib.hid hn2
    have hk2:=HKM.out w2 hn2
    clear hn2
    go_wp2_with fail
    refine hK.out _ _ hk2 (fun hHeld=>?_)
    clear hK K
    refine qsp ?_
    refine qtl 17 (z0ax28 _) rfl ?_
    refine qtl 18 (z0ax29 _) rfl ?_
    refine qdn ?_
    clear hHeld
    go_wp2_with fail
    go_ret
    rw [HE.out]
    exact MsP.none (NdP.trans HM0.out HN2.out)
   | false =>
    go_cut [91] (fun v wx=>v = .bool false∧wx.cell? ⟨M,0,none⟩=some (.int .i64 m.frm)∧∃s8 k8,NdP W wx A X r d l s8 k8∧askedM s k m=([sayM { s8 with ticks:=0 } m.frm 2 [s8.term,1]],{ s8 with ticks:=0 },k8))
    case first =>
     cases c1:s.choice == -1 with
     | true =>
      have hok:(enterM s k s.term m.frm).1=true:=by revert hfail;rw [c1];simp
      rw [if_pos c1,if_pos hok] at HE
      have HEN2:=Lib.hid (HEN.out (W.drewN (q5+1)) (below_drewN W (q5+1)))
      rw [hok] at HEN2
      have hM6:(W.drewN q5).drew.cell? ⟨M,0,none⟩=some (.int .i64 m.frm):=hM0
      have HKM:=Lib.hid (fun w2=>HKM.out w2 (enterM s k s.term m.frm).2.1 (enterM s k s.term m.frm).2.2)
      generalize (enterM s k s.term m.frm).2=p2 at *
      refine wp_region_held_drew (S:=fun w'=>w'.cell? ⟨M,0,none⟩=some (.int .i64 m.frm)) (by kernel_rfl) hM6 (fun hHeld=>?_)
      refine qtl 0 (z0ax11 _) rfl ?_
      refine qtl 1 (z0ax12 _) rfl ?_
      refine qtl 2 (z0ax13 _) rfl ?_
      refine qtl 3 (z0ax14 _) rfl ?_
      refine qtl 4 (z0ax15 _) rfl ?_
      refine qr1 5 (z0ax16 _) rfl fun K hK=>?_
      unfold z0ax16
      go_simp
      refine hK.out _ _ hHeld (fun hHeld=>?_)
      clear hK K
      refine qsp ?_
      refine qtl 6 (z0ax17 _) rfl ?_
      refine qtl 7 (z0ax18 _) rfl ?_
      refine qtl 8 (z0ax19 _) rfl ?_
      refine qtl 9 (z0ax20 _) rfl ?_
      refine qtl 10 (z0ax21 _) rfl ?_
      refine qtl 11 (z0ax22 _) rfl ?_
      refine qtl 12 (z0ax23 _) rfl ?_
      refine qtl 14 (z0ax24 _) rfl ?_
      refine qtl 15 (z0ax25 _) rfl ?_
      refine qr1 13 (z0ax26 _) rfl fun K hK=>?_
      unfold z0ax26
      go_simp
      refine hK.out _ _ hHeld (fun hHeld=>?_)
      clear hK K
      refine qsp ?_
      refine qr1 16 (z0ax27 _) rfl fun K hK=>?_
      unfold z0ax27
      go_simp
      refine HEN2.out.mono ?_
      rintro e w2 ⟨rfl,hn2⟩
      have HN2:=Lib.hid hn2
      have hk2:=HKM.out w2 hn2
      clear hn2
      go_wp2_with fail
      refine hK.out _ _ hk2 (fun hHeld=>?_)
      clear hK K
      refine qsp ?_
      refine qtl 17 (z0ax28 _) rfl ?_
      refine qtl 18 (z0ax29 _) rfl ?_
      refine qdn ?_
      clear hHeld
      go_wp2_with fail
      go_meet
      exact ⟨rfl,hk2,_,_,HN2.out,HE.out⟩
     | false =>
      rw [if_neg (by rw [c1];simp)] at HE
      go_quiet (fail)
      go_wp2_with fail
      go_meet
      exact ⟨rfl,hM0,s,k,((HN1.out.below (below_drewN W q5)).below (below_drewN _ nq)).ndp ((Mv.below (below_drewN W q5)).trans (Mv.below (below_drewN _ nq))),HE.out⟩
    case rest =>
    obtain ⟨rfl,hM7,s7,k7,hn7,he7⟩:=hcut
    rename World=>W7
    obtain ⟨A7,X7,h7,m7⟩:=hn7
    have H7:=Lib.hid h7
    have M7:=Lib.hid (HM0.out.trans m7)
    have HPX7:Hid (M∉X7):=Lib.hid (fun hm=>by
     rcases m7.mv.gr M hm with h9 | h9
     ·exact HPN.out M h9 rfl
     ·omega)
    obtain ⟨vl,gv,gn,gm,gh,hcell⟩:=h7.cells
    have hz15:=free_heap hcell 15
    have hc15:W7.cell? ⟨r,15,none⟩=some (.int .i64 (s7.ticks:Int)):=by rw [cell_heap hcell];rfl
    have hrM:r≠M:=fun e=>HPX7.out (e ▸ h7.rX)
    have HT:Hid (NdP W7 (W7.setCell ⟨r,15,none⟩ (.int .i64 0)) A7 X7 r d l { s7 with ticks:=0 } k7):=Lib.hid (by
     refine Nd.scal h7 ((Only.refl _ _).setCell (by simp) _) ?_ rfl rfl rfl rfl rfl rfl
     intro vl gv gn gm gh hc
     rw [heap_set hc]
     rfl)
    have HE:Hid (askedM s k m=([sayM { s7 with ticks:=0 } m.frm 2 [s7.term,1]],{ s7 with ticks:=0 },k7)):=Lib.hid he7
    have hM8:(W7.setCell ⟨r,15,none⟩ (.int .i64 0)).cell? ⟨M,0,none⟩=some (.int .i64 m.frm):=((Only.refl [r] _).setCell (p:=⟨r,15,none⟩) (by simp) _).cell hM7 (by simpa using hrM.symm)
    clear h7 m7 hcell he7 hc6 hc7 hM0 hfail HEN
    go_upto_region 11 with (fail)
    generalize W7.setCell ⟨r,15,none⟩ (.int .i64 0)=W8 at *
    obtain ⟨A8,X8,h8,m8⟩:=HT.out
    have M8:=Lib.hid ((M7.out.trans m8).trans (Mv.below (A:=A8) (X:=X8) (below_drewN W8 1)))
    have h8:=h8.below (below_drewN W8 1)
    change Nd W8.drew A8 X8 r d l { s7 with ticks:=0 } k7 at h8
    change Hid (Mv A A8 X X8 w W8.drew) at M8
    have hMV:W8.drew.cell? ⟨M,0,none⟩=some (.int .i64 m.frm):=hM8
    generalize hs8:({ s7 with ticks:=0 }:Rp)=s8 at *
    have hst:s7.term=s8.term:=by rw [←hs8]
    obtain ⟨st8,hst8⟩:∃st8,st8=s8.term:=⟨_,rfl⟩
    have hr6:W8.drew.cell? ⟨r,6,none⟩=some (.int .i64 st8):=by
     obtain ⟨vl,gv,gn,gm,gh,hcell⟩:=h8.cells
     rw [cell_heap hcell,hst8];rfl
    rw [hst,←hst8] at HE
    clear hs8 hst
    obtain ⟨k8,hk8⟩:∃k8,k8=k7:=⟨_,rfl⟩
    rw [←hk8] at HE h8
    clear hst8 hk8 m8 hM7 hM8 hz15 hc15 HT
    have HK8:Hid (∀W',Below W8.drew.heap.size W8.drew W'→W'.cell? ⟨M,0,none⟩=some (.int .i64 m.frm)∧W'.cell? ⟨r,6,none⟩=some (.int .i64 st8)):=Lib.hid (fun W' hb=>⟨cell_later hb hMV,cell_later hb hr6⟩)
    have HSAY:=Lib.hid (HSAYG.out _ _ _ _ _ h8)
    have HA8:=Lib.hid h8.alt
    have HBV:Hid (∀o,Below W8.drew.heap.size W8.drew (W8.drew.alloc o)):=Lib.hid (fun o=>(Below.refl _ _).alloc (Nat.le_refl _) o)
    have HF8:Hid (∀V10 vv N,Below W8.drew.heap.size W8.drew V10→ImmI V10 A8 vv N→MsP w (V10.alloc (.cells (msgC (sayM s8 m.frm 2 N) vv (.slice none 0 0)) 51)) A X r d l (.returned (.slice (some ⟨V10.heap.size,0,none⟩) 1 1)) ([sayM s8 m.frm 2 N],s8,k8)):=Lib.hid (fun V10 vv N hb hi=>MsP.trans M8.out (one_ms h8 hb (sayM s8 m.frm 2 N) vv (.slice none 0 0) ⟨hi,.inl ⟨rfl,rfl⟩⟩))
    unfold msgC at HF8
    refine wp_region_held_drew (S:=fun w'=>w'.cell? ⟨M,0,none⟩=some (.int .i64 m.frm)∧w'.cell? ⟨r,6,none⟩=some (.int .i64 st8)) (by kernel_rfl) (HK8.out _ (Below.refl _ _)) (fun hHeld=>?_)
    refine qtl 0 (z0ax30 _) rfl ?_
    refine qtl 1 (z0ax31 _) rfl ?_
    refine qtl 2 (z0ax32 _) rfl ?_
    refine qtl 3 (z0ax33 _) rfl ?_
    refine qtl 4 (z0ax34 _) rfl ?_
    refine qtl 5 (z0ax35 _) rfl ?_
    refine qtl 6 (z0ax36 _) rfl ?_
    generalize W8.drew=V8 at *
    refine qr1 7 (z0ax37 _) rfl fun K hK=>?_
    unfold z0ax37
    go_simp
    refine hK.out _ _ (HK8.out _ (HBV.out (.cells #[.int .i64 st8,.int .i64 1] 2))) (fun hHeld=>?_)
    clear hK K
    refine qsp ?_
    have HI8:Hid (ImmI (V8.alloc (.cells #[.int .i64 st8,.int .i64 1] 2)) A8 (.slice (some ⟨V8.heap.size,0,none⟩) 2 2) [st8,1]):=Lib.hid (ImmI.fresh [st8,1] _ rfl 2 2 rfl (by omega) HA8.out)
    have HB8:=Lib.hid (HBV.out (.cells #[.int .i64 st8,.int .i64 1] 2))
    generalize V8.alloc (.cells #[.int .i64 st8,.int .i64 1] 2)=V9 at *
    refine qr1 8 (z0ax38 _) rfl fun K hK=>?_
    unfold z0ax38
    go_simp
    refine (HSAY.out _ HB8.out _ _ [st8,1] _ _ _).mono ?_
    rintro e V10 ⟨rfl,hb10⟩
    have HB10:=Lib.hid (HB8.out.trans (hb10.mono HB8.out.size))
    have HI10:=Lib.hid (HI8.out.below hb10)
    clear hb10
    go_wp2_with fail
    refine hK.out _ _ (HK8.out _ HB10.out) (fun hHeld=>?_)
    clear hK K
    refine qsp ?_
    refine qr1 9 (z0ax39 _) rfl fun K hK=>?_
    unfold z0ax39
    unfold msgV
    go_simp
    refine hK.out _ _ (HK8.out _ (HB10.out.alloc HB10.out.size _)) (fun hHeld=>?_)
    clear hK K
    refine qsp ?_
    refine qtl 10 (z0ax40 _) rfl ?_
    refine qdn ?_
    clear hHeld
    go_wp2_with fail
    go_ret
    rw [HE.out]
    exact HF8.out _ _ _ HB10.out HI10.out
 ·have HE:Hid (askedM s k m=([],s,k)):=Lib.hid (by unfold askedM;rw [if_neg h3])
  subst ev
  have g1:((m.N.length:Int) != 3)=true:=by rw [bne_iff_ne];omega
  have HF:Hid (NdP w (w.alloc (.cells (msgC m (.slice ao m.N.length cN) u) 51)) A X r d l s k):=Lib.hid (h1.ndp HM0.out)
  clear h h1 hw hm hIs
  unfold msgV msgC at *
  go_enter Try.func35,Try.ntmps35
  go_wp2_with fail
  go_ret
  rw [HE.out]
  exact MsP.none HF.out
end
end Go.Proofs.Ytnicaicjgaoolaa
namespace Go.Proofs.Ytnicaicjgaoolaa
open Go.RowKit Go.ChangeMaps Go.WideMaps Go.Maps
set_option maxRecDepth 20000
section
variable (p:String)
def z0bx0:Oper:=⟨some 38,.move (.tmp 0),39,p,#[],none⟩
def z0bx1:Oper:=⟨some 39,.nilCheck (.tmp 38),0,p,#[⟨0,.data⟩],none⟩
def z0bx2:Oper:=⟨some 40,.fieldAddr 66 (.tmp 39) 12,0,p,#[⟨1,.data⟩],none⟩
def z0bx3:Oper:=⟨some 41,.load 34 (.tmp 40),34,p,#[⟨2,.data⟩],none⟩
def z0bx4:Oper:=⟨some 42,.fieldAddr 51 (.tmp 3) 0,0,p,#[],none⟩
def z0bx5:Oper:=⟨some 43,.load 3 (.tmp 42),3,p,#[⟨4,.data⟩],none⟩
def z0bx6:Oper:=⟨some 44,.indexAddr 34 (.tmp 41) (.tmp 43),0,p,#[⟨3,.data⟩,⟨5,.data⟩,⟨0,.phase⟩,⟨1,.phase⟩,⟨2,.phase⟩,⟨3,.phase⟩,⟨4,.phase⟩,⟨5,.phase⟩],none⟩
def z0bx7:Oper:=⟨none,.store 4 (.tmp 44) (Operand.const (Value.bool true)),0,p,#[⟨6,.data⟩,⟨0,.phase⟩,⟨1,.phase⟩,⟨2,.phase⟩,⟨3,.phase⟩,⟨4,.phase⟩,⟨5,.phase⟩],none⟩
end
attribute [go_sem,reducible] z0bx0 z0bx1 z0bx2 z0bx3 z0bx4 z0bx5 z0bx6 z0bx7
section
variable {w w':World} {A A' X X':List Nat} {r d l:Nat} {s s':Rp} {k k':Dk}
set_option maxHeartbeats 4000000 in
theorem voted_any (h:Nd w A X r d l s k) (hw:Wf s k) (m:Msg) (v u:Value) (hm:IsMsg w A m v u) (fr:Nat) (hfr:m.frm=(fr:Int)) (hf2:fr<s.n) (hlen:2≤m.N.length):Calls Try.prog 36 #[.pointer (some ⟨r,0,none⟩),msgV m v u] w fun e w'=>MsP w w' A X r d l e (votedM s k m):=by
 have hbw:Below w.heap.size w (w.alloc (.cells (msgC m v u) 51)):=(Below.refl _ _).alloc (Nat.le_refl _) _
 have hbx:=heap_new w (.cells (msgC m v u) 51)
 have h1:=h.below hbw
 have HM0:Hid (Mv A A X X w (w.alloc (.cells (msgC m v u) 51))):=Lib.hid (Mv.below hbw)
 have hM0:(w.alloc (.cells (msgC m v u) 51)).cell? ⟨w.heap.size,0,none⟩=some (.int .i64 m.frm):=by rw [cell_heap hbx];rfl
 have hM3:(w.alloc (.cells (msgC m v u) 51)).cell? ⟨w.heap.size,3,none⟩=some v:=by rw [cell_heap hbx];rfl
 have HPN:Hid (∀b∈X,b≠w.heap.size):=Lib.hid (fun b hb e=>by have:=h.alt b (h.xA b hb);omega)
 obtain ⟨b,off,c,hc⟩:=numC hm.n (by omega)
 have hcW:=hc.below hbw
 have hv:=hc.v
 subst hv
 have hN0:=hcW.at_ 0 (by omega)
 have hN1:=hcW.at_ 1 (by omega)
 rw [Nat.add_zero] at hN0
 obtain ⟨vl,gv0,gn,gm,gh,hcell⟩:=h1.cells
 have hc6:(w.alloc (.cells (msgC m (.slice (some ⟨b,off,none⟩) m.N.length c) u) 51)).cell? ⟨r,6,none⟩=some (.int .i64 s.term):=by rw [cell_heap hcell];rfl
 have hc7:(w.alloc (.cells (msgC m (.slice (some ⟨b,off,none⟩) m.N.length c) u) 51)).cell? ⟨r,7,none⟩=some (.int .i64 s.choice):=by rw [cell_heap hcell];rfl
 have hc0:(w.alloc (.cells (msgC m (.slice (some ⟨b,off,none⟩) m.N.length c) u) 51)).cell? ⟨r,0,none⟩=some (.int .i64 (s.own:Int)):=by rw [cell_heap hcell];rfl
 have hc11:(w.alloc (.cells (msgC m (.slice (some ⟨b,off,none⟩) m.N.length c) u) 51)).cell? ⟨r,11,none⟩=some (.bool s.leads):=by rw [cell_heap hcell];rfl
 have HE:Hid (votedM s k m=if s.leads || !(m.N.getD 0 0==s.term) || !(s.choice==(s.own:Int)) || !(m.N.getD 1 0==1) then ([],s,k) else
  if chosenM { s with votes:=s.votes.set fr true } then leadM { s with votes:=s.votes.set fr true } k else ([],{ s with votes:=s.votes.set fr true },k)):=Lib.hid (by
   unfold votedM
   rw [hfr,Int.toNat_natCast])
 have HN1:=Lib.hid h1
 have HW:=Lib.hid hw
 have hl0:(0:Int)<(m.N.length:Int):=by omega
 have hl1:(1:Int)<(m.N.length:Int):=by omega
 rw [hfr] at hM0
 clear h h1 hw hm hcell hbw hbx hc hcW
 unfold msgV msgC at *
 rw [hfr] at *
 generalize m.N.getD 0 0=n0 at *
 generalize m.N.getD 1 0=n1 at *
 generalize m.N.length=nl at *
 go_enter Try.func36,Try.ntmps36
 go_upto_region 1 with (fail)
 generalize w.alloc (.cells #[.int .i64 (fr:Int),.int .i64 m.dst,.int .i64 m.kind,.slice (some ⟨b,off,none⟩) nl c,u] 51)=W at *
 generalize w.heap.size=M at *
 go_cut [37] (fun v wx=>v = .bool (s.leads || !(n0==s.term) || !(s.choice==(s.own:Int)) || !(n1==1))∧∃q,wx=W.drewN q)
 case first =>
  cases b1:s.leads with
  | true =>
   rw [b1] at hc11
   go_quiet (fail)
   go_wp2_with fail
   go_meet
   exact ⟨by rw [b1];rfl,nq,rfl⟩
  | false =>
   rw [b1] at hc11
   cases b2:n0==s.term with
   | false =>
    have g2:(n0 != s.term)=true:=by rw [bne,b2];rfl
    go_quiet (fail)
    go_wp2_with fail
    go_meet
    exact ⟨by rw [b1,b2];rfl,nq,rfl⟩
   | true =>
    have g2:(n0 != s.term)=false:=by rw [bne,b2];rfl
    cases b3:s.choice==(s.own:Int) with
    | false =>
     have g3:(s.choice != (s.own:Int))=true:=by rw [bne,b3];rfl
     go_quiet (fail)
     go_wp2_with fail
     go_meet
     exact ⟨by rw [b1,b2,b3];rfl,nq,rfl⟩
    | true =>
     have g3:(s.choice != (s.own:Int))=false:=by rw [bne,b3];rfl
     go_quiet (fail)
     go_wp2_with fail
     go_meet
     exact ⟨by rw [b1,b2,b3];rfl,nq,rfl⟩
 case rest =>
 obtain ⟨rfl,q1,rfl⟩:=hcut
 generalize (s.leads || !(n0==s.term) || !(s.choice==(s.own:Int)) || !(n1==1))=no at *
 cases no with
 | true =>
  rw [if_pos rfl] at HE
  go_wp2_with fail
  go_ret
  rw [HE.out]
  exact MsP.none (NdP.trans (HM0.out.trans (Mv.below (below_drewN W q1))) ((HN1.out.below (below_drewN W q1)).ndp (Mv.refl _ _ _)))
 | false =>
  rw [if_neg (by simp)] at HE
  go_upto_region 3 with (fail)
  have h3:=(HN1.out.below (below_drewN W q1)).below (below_drewN _ 1)
  change Nd (W.drewN q1).drew A X r d l s k at h3
  have M3:Hid (Mv A A X X w (W.drewN q1).drew):=Lib.hid ((HM0.out.trans (Mv.below (below_drewN W q1))).trans (Mv.below (below_drewN _ 1)))
  have hkM:(W.drewN q1).drew.cell? ⟨M,0,none⟩=some (.int .i64 (fr:Int)):=hM0
  clear hM0 hM3 hN0 hN1 hc0 hc6 hc7 hc11
  obtain ⟨D,L,R,vl,gv,gn,gm,gh,h4,hX4⟩:=h3
  have hk12:(W.drewN q1).drew.cell? ⟨r,12,none⟩=some (.slice (some ⟨gv,0,none⟩) s.n s.n):=by rw [cell_heap h4.cell];rfl
  have hkv:(W.drewN q1).drew.cell? ⟨gv,fr,none⟩=some (.bool (s.votes.getD fr false)):=by rw [cell_heap h4.votes];exact boolsA_at _ _ (by rw [HW.out.vl];exact hf2)
  have hzv:=free_heap h4.votes fr
  have hf3:(fr:Int)<(s.n:Int):=by omega
  have hMgv:M≠gv:=fun e=>HPN.out gv ((hX4 gv).2 (.inr (.inr h4.vR))) e.symm
  have hrgv:r≠gv:=heap_ne h4.cell h4.votes (by decide)
  have HK3:Hid (∀v,((W.drewN q1).drew.setCell ⟨gv,fr,none⟩ v).cell? ⟨r,12,none⟩=some (.slice (some ⟨gv,0,none⟩) s.n s.n)∧((W.drewN q1).drew.setCell ⟨gv,fr,none⟩ v).cell? ⟨M,0,none⟩=some (.int .i64 (fr:Int))):=Lib.hid (fun v=>by
   have ho:Only [gv] (W.drewN q1).drew ((W.drewN q1).drew.setCell ⟨gv,fr,none⟩ v):=(Only.refl _ _).setCell (by simp) _
   exact ⟨ho.cell hk12 (by simpa using hrgv),ho.cell hkM (by simpa using hMgv)⟩)
  have H4:Hid (NdP (W.drewN q1).drew ((W.drewN q1).drew.setCell ⟨gv,fr,none⟩ (.bool true)) A X r d l { s with votes:=s.votes.set fr true } k):=Lib.hid ((h4.set_votes fr true).ndpR hX4 (S:=[gv]) ((Only.refl _ _).setCell (by simp) _) (fun b hb=>by rw [List.mem_singleton.1 hb];exact h4.vR))
  have HWV:Hid (Wf { s with votes:=s.votes.set fr true } k):=Lib.hid (wf_scal HW.out s.lives s.ticks s.clock (s.votes.set fr true) HW.out.tick (by rw [List.length_set];exact HW.out.vl) (Nat.le_refl _))
  clear h4 hX4 hMgv hrgv
  generalize s.votes.getD fr false=vo at *
  refine wp_region_held_drew (S:=fun w'=>w'.cell? ⟨r,12,none⟩=some (.slice (some ⟨gv,0,none⟩) s.n s.n)∧w'.cell? ⟨M,0,none⟩=some (.int .i64 (fr:Int))) (by kernel_rfl) ⟨hk12,hkM⟩ (fun hHeld=>?_)
  refine qtl 0 (z0bx0 _) rfl ?_
  refine qtl 1 (z0bx1 _) rfl ?_
  refine qtl 2 (z0bx2 _) rfl ?_
  refine qtl 3 (z0bx3 _) rfl ?_
  refine qtl 4 (z0bx4 _) rfl ?_
  refine qtl 5 (z0bx5 _) rfl ?_
  refine qtl 6 (z0bx6 _) rfl ?_
  generalize (W.drewN q1).drew=V3 at *
  refine qr1 7 (z0bx7 _) rfl fun K hK=>?_
  unfold z0bx7
  go_simp
  refine hK.out _ _ (HK3.out _) (fun hHeld=>?_)
  clear hK K
  refine qsp ?_
  refine qdn ?_
  clear hHeld
  generalize V3.setCell ⟨gv,fr,none⟩ (.bool true)=W4 at *
  go_wp2_with fail
  obtain ⟨A5,X5,h5,m5⟩:=H4.out
  have H5:=Lib.hid h5
  have M5:=Lib.hid (M3.out.trans m5)
  have HCH:=Lib.hid (chosen_any h5 HWV.out.n5 HWV.out.vl)
  clear h5 m5 hk12 hkM hkv hzv HK3 H4
  generalize ({ s with votes:=s.votes.set fr true }:Rp)=s5 at *
  refine HCH.out.mono ?_
  rintro e w9 ⟨rfl,rfl⟩
  cases hch:chosenM s5 with
  | true =>
   rw [hch,if_pos rfl] at HE
   go_wp2_with fail
   refine (lead_any H5.out HWV.out).mono ?_
   rintro e w9 ⟨v9,A9,X9,rfl,h9,ho9,m9⟩
   have HF:=Lib.hid (MsP.trans M5.out ⟨v9,A9,X9,rfl,h9,ho9,m9⟩)
   clear h9 ho9 m9
   go_wp2_with fail
   go_ret
   rw [HE.out]
   exact HF.out
  | false =>
   rw [hch,if_neg (by simp)] at HE
   go_wp2_with fail
   go_ret
   rw [HE.out]
   exact MsP.none (H5.out.ndp M5.out)
end
end Go.Proofs.Ytnicaicjgaoolaa
