/-
  What the proof of the law leans on: contracts of the program's functions, one behind another. No condition.
-/
import Derived.Test.YtnicaicjgaoolaaT19
import Derived.Test.YtnicaicjgaoolaaT3
set_option linter.unusedVariables false
set_option linter.unusedSimpArgs false
namespace Go.Proofs.Ytnicaicjgaoolaa
open Go.RowKit Go.ChangeMaps Go.WideMaps Go.Maps
set_option maxRecDepth 20000
section
variable (p:String)
def z0cx0:Oper:=⟨some 68,.move (.tmp 0),39,p,#[],none⟩
def z0cx1:Oper:=⟨some 69,.nilCheck (.tmp 68),0,p,#[⟨0,.data⟩],none⟩
def z0cx2:Oper:=⟨some 70,.fieldAddr 66 (.tmp 69) 13,0,p,#[⟨1,.data⟩],none⟩
def z0cx3:Oper:=⟨some 71,.load 27 (.tmp 70),27,p,#[⟨2,.data⟩],none⟩
def z0cx4:Oper:=⟨some 72,.move (.tmp 5),3,p,#[],none⟩
def z0cx5:Oper:=⟨some 73,.move (.tmp 6),3,p,#[],none⟩
def z0cx6:Oper:=⟨some 74,.move (.tmp 0),39,p,#[],none⟩
def z0cx7:Oper:=⟨some 75,.nilCheck (.tmp 74),0,p,#[⟨6,.data⟩],none⟩
def z0cx8:Oper:=⟨some 76,.fieldAddr 66 (.tmp 75) 14,0,p,#[⟨7,.data⟩],none⟩
def z0cx9:Oper:=⟨some 77,.load 27 (.tmp 76),27,p,#[⟨8,.data⟩],none⟩
def z0cx10:Oper:=⟨some 78,.move (.tmp 5),3,p,#[],none⟩
def z0cx11:Oper:=⟨some 79,.indexAddr 27 (.tmp 77) (.tmp 78),0,p,#[⟨9,.data⟩,⟨10,.data⟩],none⟩
def z0cx12:Oper:=⟨some 80,.load 3 (.tmp 79),3,p,#[⟨11,.data⟩],none⟩
def z0cx13:Oper:=⟨some 81,.call { callee:=Callee.builtin Builtin.max,args:=#[.tmp 73,.tmp 80],argTypes:=#[3,3]},3,p,#[⟨5,.data⟩,⟨12,.data⟩],none⟩
def z0cx14:Oper:=⟨some 82,.indexAddr 27 (.tmp 71) (.tmp 72),0,p,#[⟨3,.data⟩,⟨4,.data⟩,⟨0,.phase⟩,⟨1,.phase⟩,⟨2,.phase⟩,⟨3,.phase⟩,⟨4,.phase⟩,⟨5,.phase⟩,⟨6,.phase⟩,⟨7,.phase⟩,⟨8,.phase⟩,⟨9,.phase⟩,⟨10,.phase⟩,⟨11,.phase⟩,⟨12,.phase⟩,⟨13,.phase⟩],none⟩
def z0cx15:Oper:=⟨none,.store 3 (.tmp 82) (.tmp 81),0,p,#[⟨14,.data⟩,⟨13,.data⟩,⟨0,.phase⟩,⟨1,.phase⟩,⟨2,.phase⟩,⟨3,.phase⟩,⟨4,.phase⟩,⟨5,.phase⟩,⟨6,.phase⟩,⟨7,.phase⟩,⟨8,.phase⟩,⟨9,.phase⟩,⟨10,.phase⟩,⟨11,.phase⟩,⟨12,.phase⟩,⟨13,.phase⟩],none⟩
def z0cx16:Oper:=⟨some 96,.move (.tmp 0),39,p,#[],none⟩
def z0cx17:Oper:=⟨some 97,.nilCheck (.tmp 96),0,p,#[⟨0,.data⟩],none⟩
def z0cx18:Oper:=⟨some 98,.fieldAddr 66 (.tmp 97) 14,0,p,#[⟨1,.data⟩],none⟩
def z0cx19:Oper:=⟨some 99,.load 27 (.tmp 98),27,p,#[⟨2,.data⟩],none⟩
def z0cx20:Oper:=⟨some 100,.move (.tmp 5),3,p,#[],none⟩
def z0cx21:Oper:=⟨some 101,.move (.tmp 0),39,p,#[],none⟩
def z0cx22:Oper:=⟨some 102,.nilCheck (.tmp 101),0,p,#[⟨5,.data⟩],none⟩
def z0cx23:Oper:=⟨some 103,.fieldAddr 66 (.tmp 102) 13,0,p,#[⟨6,.data⟩],none⟩
def z0cx24:Oper:=⟨some 104,.load 27 (.tmp 103),27,p,#[⟨7,.data⟩],none⟩
def z0cx25:Oper:=⟨some 105,.move (.tmp 5),3,p,#[⟨21,.gcOnly Departure.lateStores⟩],none⟩
def z0cx26:Oper:=⟨some 106,.move (.tmp 6),3,p,#[],none⟩
def z0cx27:Oper:=⟨some 107,.move (.tmp 6),3,p,#[],none⟩
def z0cx28:Oper:=⟨some 108,.move (.tmp 0),39,p,#[],none⟩
def z0cx29:Oper:=⟨some 109,.nilCheck (.tmp 108),0,p,#[⟨12,.data⟩],none⟩
def z0cx30:Oper:=⟨some 110,.fieldAddr 66 (.tmp 109) 13,0,p,#[⟨13,.data⟩],none⟩
def z0cx31:Oper:=⟨some 111,.load 27 (.tmp 110),27,p,#[⟨14,.data⟩],none⟩
def z0cx32:Oper:=⟨some 112,.move (.tmp 5),3,p,#[],none⟩
def z0cx33:Oper:=⟨some 113,.indexAddr 27 (.tmp 111) (.tmp 112),0,p,#[⟨15,.data⟩,⟨16,.data⟩],none⟩
def z0cx34:Oper:=⟨some 114,.load 3 (.tmp 113),3,p,#[⟨17,.data⟩],none⟩
def z0cx35:Oper:=⟨some 115,.call { callee:=Callee.builtin Builtin.max,args:=#[.tmp 107,.tmp 114],argTypes:=#[3,3]},3,p,#[⟨11,.data⟩,⟨18,.data⟩],none⟩
def z0cx36:Oper:=⟨some 116,.indexAddr 27 (.tmp 99) (.tmp 100),0,p,#[⟨3,.data⟩,⟨4,.data⟩,⟨0,.phase⟩,⟨1,.phase⟩,⟨2,.phase⟩,⟨3,.phase⟩,⟨4,.phase⟩,⟨5,.textOnly Departure.lateStores⟩,⟨6,.textOnly Departure.lateStoresUnsure⟩,⟨7,.textOnly Departure.lateStoresUnsure⟩,⟨8,.phase⟩,⟨9,.textOnly Departure.lateStores⟩,⟨10,.phase⟩,⟨11,.textOnly Departure.lateStores⟩,⟨12,.textOnly Departure.lateStores⟩,⟨13,.textOnly Departure.lateStoresUnsure⟩,⟨14,.textOnly Departure.lateStoresUnsure⟩,⟨15,.phase⟩,⟨16,.textOnly Departure.lateStores⟩,⟨17,.textOnly Departure.lateStoresUnsure⟩,⟨18,.phase⟩,⟨19,.textOnly Departure.lateStoresUnsure⟩],none⟩
def z0cx37:Oper:=⟨none,.store 3 (.tmp 116) (.tmp 106),0,p,#[⟨20,.data⟩,⟨10,.data⟩,⟨0,.phase⟩,⟨1,.phase⟩,⟨2,.phase⟩,⟨3,.phase⟩,⟨4,.phase⟩,⟨5,.textOnly Departure.lateStores⟩,⟨6,.textOnly Departure.lateStoresUnsure⟩,⟨7,.textOnly Departure.lateStoresUnsure⟩,⟨8,.phase⟩,⟨9,.textOnly Departure.lateStores⟩,⟨10,.phase⟩,⟨11,.textOnly Departure.lateStores⟩,⟨12,.textOnly Departure.lateStores⟩,⟨13,.textOnly Departure.lateStoresUnsure⟩,⟨14,.textOnly Departure.lateStoresUnsure⟩,⟨15,.phase⟩,⟨16,.textOnly Departure.lateStores⟩,⟨17,.textOnly Departure.lateStoresUnsure⟩,⟨18,.phase⟩,⟨19,.textOnly Departure.lateStoresUnsure⟩],none⟩
def z0cx38:Oper:=⟨some 117,.indexAddr 27 (.tmp 104) (.tmp 105),0,p,#[⟨8,.data⟩,⟨9,.data⟩,⟨0,.phase⟩,⟨1,.phase⟩,⟨2,.phase⟩,⟨3,.phase⟩,⟨4,.phase⟩,⟨5,.phase⟩,⟨6,.phase⟩,⟨7,.phase⟩,⟨8,.phase⟩,⟨9,.phase⟩,⟨10,.phase⟩,⟨11,.phase⟩,⟨12,.phase⟩,⟨13,.phase⟩,⟨14,.phase⟩,⟨15,.phase⟩,⟨16,.phase⟩,⟨17,.phase⟩,⟨18,.phase⟩,⟨19,.phase⟩,⟨20,.phase⟩,⟨21,.phase⟩],none⟩
def z0cx39:Oper:=⟨none,.store 3 (.tmp 117) (.tmp 115),0,p,#[⟨22,.data⟩,⟨19,.data⟩,⟨21,.chain⟩,⟨0,.phase⟩,⟨1,.phase⟩,⟨2,.phase⟩,⟨3,.phase⟩,⟨4,.phase⟩,⟨5,.phase⟩,⟨6,.phase⟩,⟨7,.phase⟩,⟨8,.phase⟩,⟨9,.phase⟩,⟨10,.phase⟩,⟨11,.phase⟩,⟨12,.phase⟩,⟨13,.phase⟩,⟨14,.phase⟩,⟨15,.phase⟩,⟨16,.phase⟩,⟨17,.phase⟩,⟨18,.phase⟩,⟨19,.phase⟩,⟨20,.phase⟩,⟨21,.phase⟩],none⟩
end
attribute [go_sem,reducible] z0cx0 z0cx1 z0cx2 z0cx3 z0cx4 z0cx5 z0cx6 z0cx7 z0cx8 z0cx9 z0cx10 z0cx11 z0cx12 z0cx13 z0cx14 z0cx15 z0cx16 z0cx17 z0cx18 z0cx19 z0cx20 z0cx21 z0cx22 z0cx23 z0cx24 z0cx25 z0cx26 z0cx27 z0cx28 z0cx29 z0cx30 z0cx31 z0cx32 z0cx33 z0cx34 z0cx35 z0cx36 z0cx37 z0cx38 z0cx39
section
variable {w w':World} {A A' X X':List Nat} {r d l:Nat} {s s':Rp} {k k':Dk}
def ansBad (s:Rp) (m:Msg):Bool := !s.leads || !(m.N.getD 0 0==s.term) || !(m.N.length==3)||decide (m.N.getD 2 0<0)||decide ((s.log.length:Int)<m.N.getD 2 0)
theorem answered_bad (m:Msg) (h:ansBad s m=true):answeredM s m=([],s):=by unfold answeredM;rw [if_pos (by exact h)]
theorem answered_eq (m:Msg) (fr kk:Nat) (h:ansBad s m=false) (hf:m.frm=(fr:Int)) (hk:m.N.getD 2 0=(kk:Int)):answeredM s m =
  if m.N.getD 1 0=0 then (if s.next.getD fr 0≤kk then ([],s) else ([layingM { s with next:=s.next.set fr (max kk (s.mat.getD fr 0))} fr],{ s with next:=s.next.set fr (max kk (s.mat.getD fr 0))}))
  else if kk≤s.mat.getD fr 0 then ([],s) else
   (let p:=settleM { s with mat:=s.mat.set fr kk,next:=s.next.set fr (max kk (s.next.getD fr 0))}
    if p.1 then (othersM p.2 (layingM p.2),p.2) else if p.2.next.getD fr 0<p.2.log.length then ([layingM p.2 fr],p.2) else ([],p.2)):=by
 unfold answeredM
 rw [if_neg (by show ¬ansBad s m=true;rw [h];decide)]
 rw [hf,hk,Int.toNat_natCast,Int.toNat_natCast]
theorem max_cast (a b:Nat):max (a:Int) (b:Int)=((max a b:Nat):Int):=by omega
set_option maxHeartbeats 4000000 in
theorem answered_any (h:Nd w A X r d l s k) (hw:Wf s k) (m:Msg) (v u:Value) (hm:IsMsg w A m v u) (fr:Nat) (hfr:m.frm=(fr:Int)) (hf2:fr<s.n) (hlen:2≤m.N.length):Calls Try.prog 38 #[.pointer (some ⟨r,0,none⟩),msgV m v u] w fun e w'=>MsP w w' A X r d l e ((answeredM s m).1,(answeredM s m).2,k):=by
 have hbw:Below w.heap.size w (w.alloc (.cells (msgC m v u) 51)):=(Below.refl _ _).alloc (Nat.le_refl _) _
 have hbx:=heap_new w (.cells (msgC m v u) 51)
 have h1:=h.below hbw
 have HM0:Hid (Mv A A X X w (w.alloc (.cells (msgC m v u) 51))):=Lib.hid (Mv.below hbw)
 have hM0:(w.alloc (.cells (msgC m v u) 51)).cell? ⟨w.heap.size,0,none⟩=some (.int .i64 m.frm):=by rw [cell_heap hbx];rfl
 have hM3:(w.alloc (.cells (msgC m v u) 51)).cell? ⟨w.heap.size,3,none⟩=some v:=by rw [cell_heap hbx];rfl
 obtain ⟨b,off,c,hc⟩:=numC hm.n (by omega)
 have hcW:=hc.below hbw
 have hv:=hc.v
 subst hv
 have hN0:=hcW.at_ 0 (by omega)
 have hN1:=hcW.at_ 1 (by omega)
 rw [Nat.add_zero] at hN0
 have hN2:=fun (h3:m.N.length=3)=>hcW.at_ 2 (by omega)
 obtain ⟨al,cl,hc8,hl1,hl2⟩:=h1.loglen
 obtain ⟨vl,gv0,gn0,gm0,gh0,hcell⟩:=h1.cells
 have hc6:(w.alloc (.cells (msgC m (.slice (some ⟨b,off,none⟩) m.N.length c) u) 51)).cell? ⟨r,6,none⟩=some (.int .i64 s.term):=by rw [cell_heap hcell];rfl
 have hc11:(w.alloc (.cells (msgC m (.slice (some ⟨b,off,none⟩) m.N.length c) u) 51)).cell? ⟨r,11,none⟩=some (.bool s.leads):=by rw [cell_heap hcell];rfl
 have HBAD:=Lib.hid (answered_bad (s:=s) m)
 have HEQ:=Lib.hid (fun kk h hk=>answered_eq (s:=s) m fr kk h hfr hk)
 have HBE:Hid (ansBad s m=(!s.leads || !(m.N.getD 0 0==s.term) || !(m.N.length==3)||decide (m.N.getD 2 0<0)||decide ((s.log.length:Int)<m.N.getD 2 0))):=Lib.hid rfl
 have HN1:=Lib.hid h1
 have HW:=Lib.hid hw
 have hl0:(0:Int)<(m.N.length:Int):=by omega
 have hl1':(1:Int)<(m.N.length:Int):=by omega
 rw [hfr] at hM0
 clear h h1 hw hm hcell hbw hbx hc hcW
 unfold msgV msgC at *
 rw [hfr] at *
 generalize m.N.getD 0 0=n0 at *
 generalize m.N.getD 1 0=n1 at *
 generalize m.N.getD 2 0=n2 at *
 generalize m.N.length=nl at *
 generalize hsl:s.log.length=sl at *
 go_enter Try.func38,Try.ntmps38
 go_upto_region 1 with (fail)
 generalize w.alloc (.cells #[.int .i64 (fr:Int),.int .i64 m.dst,.int .i64 m.kind,.slice (some ⟨b,off,none⟩) nl c,u] 51)=W at *
 generalize w.heap.size=M at *
 go_cut [47] (fun v wx=>v = .bool (!s.leads || !(n0==s.term) || !(nl==3)||decide (n2<0)||decide ((sl:Int)<n2))∧∃q,wx=W.drewN q)
 case first =>
  cases b1:s.leads with
  | false =>
   rw [b1] at hc11
   go_quiet (fail)
   go_wp2_with fail
   go_meet
   exact ⟨by rw [b1];rfl,nq,rfl⟩
  | true =>
   rw [b1] at hc11
   cases b2:n0==s.term with
   | false =>
    have g2:(n0 != s.term)=true:=by rw [bne,b2];rfl
    go_quiet (fail)
    go_wp2_with fail
    go_meet
    exact ⟨by rw [b1,b2];rfl,nq,rfl⟩
   | true =>
    have g2:(n0 != s.term)=false:=by rw [bne,b2];rfl
    by_cases h3:nl=3
    ·subst h3
     have hN2:=hN2 rfl
     cases b4:decide (n2<0) with
     | true =>
      go_quiet (fail)
      go_wp2_with fail
      go_meet
      exact ⟨by rw [b1,b2,b4];rfl,nq,rfl⟩
     | false =>
      go_quiet (fail)
      go_wp2_with fail
      go_meet
      exact ⟨by rw [b1,b2,b4];rfl,nq,rfl⟩
    ·have g3:((nl:Int) != 3)=true:=by rw [bne_iff_ne];omega
     have e3:(nl==3)=false:=by simpa using h3
     go_quiet (fail)
     go_wp2_with fail
     go_meet
     exact ⟨by rw [b1,b2,e3];rfl,nq,rfl⟩
 case rest =>
 obtain ⟨rfl,q1,rfl⟩:=hcut
 cases hno:(!s.leads || !(n0==s.term) || !(nl==3)||decide (n2<0)||decide ((sl:Int)<n2)) with
 | true =>
  have HE:=Lib.hid (HBAD.out (HBE.out.trans hno))
  go_wp2_with fail
  go_ret
  rw [HE.out]
  exact MsP.none (NdP.trans (HM0.out.trans (Mv.below (below_drewN W q1))) ((HN1.out.below (below_drewN W q1)).ndp (Mv.refl _ _ _)))
 | false =>
  have hnb:=HBE.out.trans hno
  simp only [Bool.or_eq_false_iff,Bool.not_eq_false',decide_eq_false_iff_not,beq_iff_eq] at hno
  obtain ⟨⟨⟨⟨hld,_⟩,h3⟩,h4⟩,h5⟩:=hno
  subst h3
  obtain ⟨kk,rfl⟩:∃kk:Nat,n2=(kk:Int):=⟨n2.toNat,by omega⟩
  have HE:=Lib.hid (HEQ.out kk hnb rfl)
  have hkl:kk≤sl:=by omega
  have hN2:=hN2 rfl
  go_upto_region 3 with (fail)
  go_quiet (fail)
  go_upto_region 4 with (fail)
  have hlb:=HW.out.logb
  rw [hsl] at hlb
  have H3:=Lib.hid ((HN1.out.below (below_drewN W (q1+nq))).below (below_drewN _ 1))
  have M3:=Lib.hid ((HM0.out.trans (Mv.below (below_drewN W (q1+nq)))).trans (Mv.below (A:=A) (X:=X) (below_drewN _ 1)))
  have HW3:Hid (Nd (W.drewN (q1+nq)) A X r d l s k∧Mv A A X X w (W.drewN (q1+nq))):=Lib.hid ⟨HN1.out.below (below_drewN W (q1+nq)),HM0.out.trans (Mv.below (below_drewN W (q1+nq)))⟩
  obtain ⟨D,L,R,vl,gv,gn,gm,gh,h4,hX4⟩:=HW3.out.1
  have hj13:(W.drewN (q1+nq)).cell? ⟨r,13,none⟩=some (.slice (some ⟨gn,0,none⟩) s.n s.n):=by rw [cell_heap h4.cell];rfl
  have hj14:(W.drewN (q1+nq)).cell? ⟨r,14,none⟩=some (.slice (some ⟨gm,0,none⟩) s.n s.n):=by rw [cell_heap h4.cell];rfl
  have hjn:(W.drewN (q1+nq)).cell? ⟨gn,fr,none⟩=some (.int .i64 (s.next.getD fr 0:Int)):=by rw [cell_heap h4.next];exact natsA_at _ _ (by rw [HW.out.nl];exact hf2)
  have hjm:(W.drewN (q1+nq)).cell? ⟨gm,fr,none⟩=some (.int .i64 (s.mat.getD fr 0:Int)):=by rw [cell_heap h4.mat];exact natsA_at _ _ (by rw [HW.out.ml];exact hf2)
  have hkN1:(W.drewN (q1+nq)).cell? ⟨b,off+1,none⟩=some (.int .i64 n1):=hN1
  have hkM3:(W.drewN (q1+nq)).cell? ⟨M,3,none⟩=some (.slice (some ⟨b,off,none⟩) 3 c):=hM3
  have hf3:(fr:Int)<(s.n:Int):=by omega
  have hMT:s.mat.getD fr 0≤sl:=by rw [←hsl];exact (HW.out.lead hld fr).2
  have hNT:s.next.getD fr 0≤sl:=by rw [←hsl];exact (HW.out.lead hld fr).1
  have HW7:Hid (Wf { s with next:=s.next.set fr (max kk (s.mat.getD fr 0))} k):=Lib.hid (wf_next HW.out fr _ (fun _=>by rw [hsl];omega))
  have HW11:Hid (Wf { s with mat:=s.mat.set fr kk,next:=s.next.set fr (max kk (s.next.getD fr 0))} k):=Lib.hid (wf_next (wf_mat HW.out fr kk (fun _=>by rw [hsl];omega)) fr _ (fun _=>by show _≤s.log.length;rw [hsl];omega))
  have HH4:=Lib.hid h4
  have HX4:=Lib.hid hX4
  clear hc6 hc8 hc11 hM0 hM3 hN0 hN1 hN2 hnb h4 hX4 h5
  generalize hmt:s.mat.getD fr 0=mt at *
  generalize hnt:s.next.getD fr 0=nt at *
  (try rw [drewN_drewN W q1 nq])
  generalize W.drewN (q1+nq)=W3 at *
  by_cases hn1:n1=0
  ·rw [if_pos hn1] at HE
   have g1:(n1==0)=true:=by simpa using hn1
   by_cases hge:nt≤kk
   ·have g2:(nt:Int)≤(kk:Int):=by omega
    rw [if_pos hge] at HE
    go_wp2_with fail
    go_ret
    rw [HE.out]
    exact MsP.none (HW3.out.1.ndp HW3.out.2)
   ·have g2:¬(nt:Int)≤(kk:Int):=by omega
    rw [if_neg hge] at HE
    go_upto_region 7 with (fail)
    have h4:=HH4.out.below (below_drewN W3 1)
    change NdC W3.drew A D L R r d l s k vl gv gn gm gh at h4
    have hX4:=HX4.out
    have hmx:=max_cast kk mt
    have hk13:W3.drew.cell? ⟨r,13,none⟩=some (.slice (some ⟨gn,0,none⟩) s.n s.n):=hj13
    have hk14:W3.drew.cell? ⟨r,14,none⟩=some (.slice (some ⟨gm,0,none⟩) s.n s.n):=hj14
    have hkm:W3.drew.cell? ⟨gm,fr,none⟩=some (.int .i64 (mt:Int)):=hjm
    have hkn:W3.drew.cell? ⟨gn,fr,none⟩=some (.int .i64 (nt:Int)):=hjn
    have hzn:=free_heap h4.next fr
    have hrn:r≠gn:=heap_ne h4.cell h4.next (by decide)
    have HK7:Hid (∀v,(W3.drew.setCell ⟨gn,fr,none⟩ v).cell? ⟨r,13,none⟩=some (.slice (some ⟨gn,0,none⟩) s.n s.n)∧(W3.drew.setCell ⟨gn,fr,none⟩ v).cell? ⟨r,14,none⟩=some (.slice (some ⟨gm,0,none⟩) s.n s.n)∧(W3.drew.setCell ⟨gn,fr,none⟩ v).cell? ⟨gm,fr,none⟩=some (.int .i64 (mt:Int))):=Lib.hid (fun v=>by
     have ho:Only [gn] W3.drew (W3.drew.setCell ⟨gn,fr,none⟩ v):=(Only.refl _ _).setCell (by simp) _
     exact ⟨ho.cell hk13 (by simpa using hrn),ho.cell hk14 (by simpa using hrn),ho.cell hkm (by simpa using h4.nm.symm)⟩)
    have H4:Hid (NdP W3.drew (W3.drew.setCell ⟨gn,fr,none⟩ (.int .i64 ((max kk mt:Nat):Int))) A X r d l { s with next:=s.next.set fr (max kk mt)} k):=Lib.hid ((h4.set_next fr (max kk mt)).ndpR hX4 (S:=[gn]) ((Only.refl _ _).setCell (by simp) _) (fun b hb=>by rw [List.mem_singleton.1 hb];exact h4.nR))
    have M4:Hid (Mv A A X X w W3.drew):=Lib.hid (HW3.out.2.trans (Mv.below (below_drewN _ 1)))
    clear h4 hX4 hrn hj13 hj14 hjn hjm hkN1 hkM3
    refine wp_region_held_drew (S:=fun w'=>w'.cell? ⟨r,13,none⟩=some (.slice (some ⟨gn,0,none⟩) s.n s.n)∧w'.cell? ⟨r,14,none⟩=some (.slice (some ⟨gm,0,none⟩) s.n s.n)∧w'.cell? ⟨gm,fr,none⟩=some (.int .i64 (mt:Int))) (by kernel_rfl) ⟨hk13,hk14,hkm⟩ (fun hHeld=>?_)
    refine qtl 0 (z0cx0 _) rfl ?_
    refine qtl 1 (z0cx1 _) rfl ?_
    refine qtl 2 (z0cx2 _) rfl ?_
    refine qtl 3 (z0cx3 _) rfl ?_
    refine qtl 4 (z0cx4 _) rfl ?_
    refine qtl 5 (z0cx5 _) rfl ?_
    refine qtl 6 (z0cx6 _) rfl ?_
    refine qtl 7 (z0cx7 _) rfl ?_
    refine qtl 8 (z0cx8 _) rfl ?_
    refine qtl 9 (z0cx9 _) rfl ?_
    refine qtl 10 (z0cx10 _) rfl ?_
    refine qtl 11 (z0cx11 _) rfl ?_
    refine qtl 12 (z0cx12 _) rfl ?_
    refine qtl 13 (z0cx13 _) rfl ?_
    refine qtl 14 (z0cx14 _) rfl ?_
    generalize W3.drew=V3 at *
    refine qr1 15 (z0cx15 _) rfl fun K hK=>?_
    unfold z0cx15
    go_simp
    refine hK.out _ _ (HK7.out _) (fun hHeld=>?_)
    clear hK K
    refine qsp ?_
    refine qdn ?_
    clear hHeld
    generalize V3.setCell ⟨gn,fr,none⟩ (.int .i64 ((max kk mt:Nat):Int))=W4 at *
    go_wp2_with fail
    obtain ⟨A5,X5,h5,m5⟩:=H4.out
    have H5:=Lib.hid h5
    have M5:=Lib.hid (M4.out.trans m5)
    have HLY:=Lib.hid (laying_any h5 HW7.out fr hf2 (by
     have h9:=(HW7.out.lead hld fr).1
     exact h9))
    clear h5 m5 hk13 hk14 hkm hkn hzn HK7 H4
    generalize ({ s with next:=s.next.set fr (max kk mt)}:Rp)=s5 at *
    refine HLY.out.mono ?_
    rintro e W6 ⟨v6,u6,rfl,hm6,hb6⟩
    have HF:=Lib.hid (MsP.trans M5.out (one_ms H5.out hb6 _ _ _ hm6))
    unfold msgC at HF
    unfold msgV
    clear hm6 hb6
    go_wp2_with fail
    go_ret
    rw [HE.out]
    exact HF.out
  ·rw [if_neg hn1] at HE
   have g1:(n1==0)=false:=by simpa using hn1
   by_cases hge:kk≤mt
   ·have g2:(kk:Int)≤(mt:Int):=by omega
    rw [if_pos hge] at HE
    go_wp2_with fail
    go_ret
    rw [HE.out]
    exact MsP.none (HW3.out.1.ndp HW3.out.2)
   ·have g2:¬(kk:Int)≤(mt:Int):=by omega
    rw [if_neg hge] at HE
    go_upto_region 11 with (fail)
    have h4:=HH4.out.below (below_drewN W3 1)
    change NdC W3.drew A D L R r d l s k vl gv gn gm gh at h4
    have hX4:=HX4.out
    have hmx:=max_cast kk nt
    have hk13:W3.drew.cell? ⟨r,13,none⟩=some (.slice (some ⟨gn,0,none⟩) s.n s.n):=hj13
    have hk14:W3.drew.cell? ⟨r,14,none⟩=some (.slice (some ⟨gm,0,none⟩) s.n s.n):=hj14
    have hkm:W3.drew.cell? ⟨gm,fr,none⟩=some (.int .i64 (mt:Int)):=hjm
    have hkn:W3.drew.cell? ⟨gn,fr,none⟩=some (.int .i64 (nt:Int)):=hjn
    have hzn:=free_heap h4.next fr
    have hzm:=free_heap h4.mat fr
    have hrn:r≠gn:=heap_ne h4.cell h4.next (by decide)
    have hrm:r≠gm:=heap_ne h4.cell h4.mat (by decide)
    have o1:∀v,Only [gm] W3.drew (W3.drew.setCell ⟨gm,fr,none⟩ v):=fun v=>(Only.refl _ _).setCell (by simp) _
    have hkn2:(W3.drew.setCell ⟨gm,fr,none⟩ (.int .i64 (kk:Int))).cell? ⟨gn,fr,none⟩=some (.int .i64 (nt:Int)):=(o1 _).cell hkn (by simpa using h4.nm)
    have hzn2:=free_heap ((o1 (.int .i64 (kk:Int))).keeps h4.next (by simpa using h4.nm)) fr
    have HK11:Hid (∀v w5,(w5=W3.drew.setCell ⟨gm,fr,none⟩ (.int .i64 (kk:Int))∨w5=(W3.drew.setCell ⟨gm,fr,none⟩ (.int .i64 (kk:Int))).setCell ⟨gn,fr,none⟩ v)→w5.cell? ⟨r,13,none⟩=some (.slice (some ⟨gn,0,none⟩) s.n s.n)∧w5.cell? ⟨r,14,none⟩=some (.slice (some ⟨gm,0,none⟩) s.n s.n)):=Lib.hid (fun v w5 e=>by
     have ho:Only [gn,gm] W3.drew w5:=by
      rcases e with rfl | rfl
      ·exact (Only.refl _ _).setCell (by simp) _
      ·exact ((Only.refl _ _).setCell (by simp) _).setCell (by simp) _
     exact ⟨ho.cell hk13 (by simp [hrn,hrm]),ho.cell hk14 (by simp [hrn,hrm])⟩)
    have H4:Hid (NdP W3.drew ((W3.drew.setCell ⟨gm,fr,none⟩ (.int .i64 (kk:Int))).setCell ⟨gn,fr,none⟩ (.int .i64 ((max kk nt:Nat):Int))) A X r d l { s with mat:=s.mat.set fr kk,next:=s.next.set fr (max kk nt)} k):=Lib.hid (((h4.set_mat fr kk).set_next fr (max kk nt)).ndpR hX4 (S:=[gn,gm]) (((Only.refl _ _).setCell (by simp) _).setCell (by simp) _) (fun b hb=>by
     simp at hb
     rcases hb with rfl | rfl
     ·exact h4.nR
     ·exact h4.mR))
    have M4:Hid (Mv A A X X w W3.drew):=Lib.hid (HW3.out.2.trans (Mv.below (below_drewN _ 1)))
    clear h4 hX4 hrn hrm o1 hj13 hj14 hjn hjm hkN1 hkM3
    refine wp_region_held_drew (S:=fun w'=>w'.cell? ⟨r,13,none⟩=some (.slice (some ⟨gn,0,none⟩) s.n s.n)∧w'.cell? ⟨r,14,none⟩=some (.slice (some ⟨gm,0,none⟩) s.n s.n)) (by kernel_rfl) ⟨hk13,hk14⟩ (fun hHeld=>?_)
    refine qtl 0 (z0cx16 _) rfl ?_
    refine qtl 1 (z0cx17 _) rfl ?_
    refine qtl 2 (z0cx18 _) rfl ?_
    refine qtl 3 (z0cx19 _) rfl ?_
    refine qtl 4 (z0cx20 _) rfl ?_
    refine qtl 5 (z0cx21 _) rfl ?_
    refine qtl 6 (z0cx22 _) rfl ?_
    refine qtl 7 (z0cx23 _) rfl ?_
    refine qtl 8 (z0cx24 _) rfl ?_
    refine qtl 9 (z0cx25 _) rfl ?_
    refine qtl 10 (z0cx26 _) rfl ?_
    refine qtl 11 (z0cx27 _) rfl ?_
    refine qtl 12 (z0cx28 _) rfl ?_
    refine qtl 13 (z0cx29 _) rfl ?_
    refine qtl 14 (z0cx30 _) rfl ?_
    refine qtl 15 (z0cx31 _) rfl ?_
    refine qtl 16 (z0cx32 _) rfl ?_
    refine qtl 17 (z0cx33 _) rfl ?_
    generalize W3.drew=V3 at *
    refine qr1 18 (z0cx34 _) rfl fun K hK=>?_
    unfold z0cx34
    go_simp
    refine hK.out _ _ hHeld (fun hHeld=>?_)
    clear hK K
    refine qsp ?_
    refine qtl 19 (z0cx35 _) rfl ?_
    refine qtl 20 (z0cx36 _) rfl ?_
    refine qr1 21 (z0cx37 _) rfl fun K hK=>?_
    unfold z0cx37
    go_simp
    refine hK.out _ _ (HK11.out undef _ (.inl rfl)) (fun hHeld=>?_)
    clear hK K
    refine qsp ?_
    refine qtl 22 (z0cx38 _) rfl ?_
    refine qr1 23 (z0cx39 _) rfl fun K hK=>?_
    unfold z0cx39
    go_simp
    refine hK.out _ _ (HK11.out _ _ (.inr rfl)) (fun hHeld=>?_)
    clear hK K
    refine qsp ?_
    refine qdn ?_
    clear hHeld
    generalize (V3.setCell ⟨gm,fr,none⟩ (.int .i64 (kk:Int))).setCell ⟨gn,fr,none⟩ (.int .i64 ((max kk nt:Nat):Int))=W4 at *
    go_wp2_with fail
    obtain ⟨A5,X5,h5,m5⟩:=H4.out
    have H5:=Lib.hid h5
    have M5:=Lib.hid (M4.out.trans m5)
    clear h5 m5 hk13 hk14 hkm hkn hzn hzm hkn2 hzn2 HK11 H4
    have hl5:({ s with mat:=s.mat.set fr kk,next:=s.next.set fr (max kk nt)}:Rp).leads=true:=hld
    have hn5:({ s with mat:=s.mat.set fr kk,next:=s.next.set fr (max kk nt)}:Rp).n=s.n:=rfl
    (try simp only at HE)
    generalize ({ s with mat:=s.mat.set fr kk,next:=s.next.set fr (max kk nt)}:Rp)=s5 at *
    refine (settle_any H5.out HW11.out).mono ?_
    rintro e W6 ⟨rfl,A6,X6,h6,m6⟩
    have H6:=Lib.hid h6
    have M6:=Lib.hid (M5.out.trans m6)
    have HW6:=Lib.hid (wf_settle HW11.out)
    have HL6:Hid ((settleM s5).2.leads=true):=Lib.hid (by rw [settle_leads];exact hl5)
    have HN6:Hid ((settleM s5).2.n=s.n):=Lib.hid (by rw [settle_n];exact hn5)
    clear h6 m6 hl5 hn5
    generalize settleM s5=q6 at *
    obtain ⟨ob,s6⟩:=q6
    (try simp only at HE);(try simp only at H6);(try simp only at HW6);(try simp only at HL6);(try simp only at HN6)
    cases ob with
    | true =>
     rw [if_pos rfl] at HE
     go_wp2_with fail
     refine (others_laying H6.out HW6.out.n5 HW6.out (fun i _=>(HW6.out.lead HL6.out i).1)).mono ?_
     rintro e w4 ⟨v4,rfl,ho4,hb4⟩
     have HF:=Lib.hid (MsP.trans M6.out (others_fin H6.out ho4 hb4))
     clear ho4 hb4
     go_wp2_with fail
     go_ret
     rw [HE.out]
     exact HF.out
    | false =>
     rw [if_neg (by simp)] at HE
     go_upto_region 14 with (fail)
     obtain ⟨D,L,R,vl,gv,gn,gm,gh,h7,hX7⟩:=H6.out
     obtain ⟨al,cl,hy8,hyl,hyc⟩:=H6.out.loglen
     have hy13:W6.cell? ⟨r,13,none⟩=some (.slice (some ⟨gn,0,none⟩) s6.n s6.n):=by rw [cell_heap h7.cell];rfl
     have hyn:W6.cell? ⟨gn,fr,none⟩=some (.int .i64 (s6.next.getD fr 0:Int)):=by rw [cell_heap h7.next];exact natsA_at _ _ (by rw [HW6.out.nl,HN6.out];exact hf2)
     rw [HN6.out] at hy13
     clear h7 hX7
     have HLY:=Lib.hid (fun q=>laying_any (H6.out.below (below_drewN W6 q)) HW6.out fr (by rw [HN6.out];exact hf2) (HW6.out.lead HL6.out fr).1)
     by_cases hlt:s6.next.getD fr 0<s6.log.length
     ·have g3:decide (s6.next.getD fr 0<s6.log.length)=true:=decide_eq_true hlt
      rw [if_pos hlt] at HE
      clear hlt
      generalize s6.next.getD fr 0=x6 at *
      generalize s6.log.length=y6 at *
      go_quiet (fail)
      go_wp2_with fail
      refine (HLY.out nq).mono ?_
      rintro e W7 ⟨v7,u7,rfl,hm7,hb7⟩
      have HF:=Lib.hid (MsP.trans (M6.out.trans (Mv.below (below_drewN W6 nq))) (one_ms (H6.out.below (below_drewN W6 nq)) hb7 _ _ _ hm7))
      unfold msgC at HF
      unfold msgV
      clear hm7 hb7
      go_wp2_with fail
      go_ret
      rw [HE.out]
      exact HF.out
     ·have g3:decide (s6.next.getD fr 0<s6.log.length)=false:=decide_eq_false hlt
      rw [if_neg hlt] at HE
      clear hlt
      generalize s6.next.getD fr 0=x6 at *
      generalize s6.log.length=y6 at *
      go_quiet (fail)
      go_wp2_with fail
      go_ret
      rw [HE.out]
      exact MsP.none ((H6.out.below (below_drewN W6 nq)).ndp (M6.out.trans (Mv.below (below_drewN W6 nq))))
end
end Go.Proofs.Ytnicaicjgaoolaa
namespace Go.Proofs.Ytnicaicjgaoolaa
open Go.RowKit Go.ChangeMaps Go.WideMaps Go.Maps
set_option maxRecDepth 20000
/-- a message in a block of its own, and what it holds -/
structure LayC (w:World) (A:List Nat) (M:Nat) (m:Msg) (b off c:Nat) (u:Value):Prop where
 cell:w.heap[M]? = some (.cells (msgC m (.slice (some ⟨b,off,none⟩) m.N.length c) u) 51 (0,0))
 nums:∀i,i<m.N.length→w.cell? ⟨b,off+i,none⟩=some (.int .i64 (m.N.getD i 0))
 bs:ImmL w A u m.B
 nM:M∉A
 nb:b∉A
 lb:b<w.heap.size
section
variable {w w':World} {A A' X X':List Nat} {r d l:Nat} {s s':Rp} {k k':Dk}
theorem LayC.step {M b off c:Nat} {m:Msg} {u:Value} {S:List Nat} (h:LayC w A M m b off c u) (ho:Only S w w') (hS:∀x∈S,x∈A) (he:Ext A A' w):LayC w' A' M m b off c u:=by
 have hlt:=lt_of_heap h.cell
 refine ⟨ho.keeps h.cell (fun hm=>h.nM (hS _ hm)),fun i hi=>ho.cell (h.nums i hi) (fun hm=>h.nb (hS _ hm)),h.bs.step ho hS he,fun hm=>?_,fun hm=>?_,Nat.lt_of_lt_of_le h.lb ho.size⟩
 ·rcases he _ hm with h1 | h1
  ·exact h.nM h1
  ·omega
 ·rcases he _ hm with h1 | h1
  ·exact h.nb h1
  ·have:=h.lb;omega
theorem LayC.below {M b off c:Nat} {m:Msg} {u:Value} (h:LayC w A M m b off c u) (hb:Below w.heap.size w w'):LayC w' A M m b off c u:=h.step (Only.ofBelow hb []) (fun x hx=>by cases hx) (Ext.refl _ _)
theorem layC_new (hA:∀b∈A,b<w.heap.size) {m:Msg} {v u:Value} (hm:IsMsg w A m v u) (hn:0<m.N.length):∃b off c,v = .slice (some ⟨b,off,none⟩) m.N.length c∧LayC (w.alloc (.cells (msgC m v u) 51)) A w.heap.size m b off c u:=by
 have hbw:Below w.heap.size w (w.alloc (.cells (msgC m v u) 51)):=(Below.refl _ _).alloc (Nat.le_refl _) _
 obtain ⟨ao,c,rfl,h1,h2,h9,h3⟩:=id hm.n
 obtain ⟨_,_,h4⟩:=h1
 rcases h4 with h4 | ⟨b,off,h5,h6⟩
 ·omega
 ·subst h5
  obtain ⟨h7,h8⟩:=h3 _ rfl
  exact ⟨b,off,c,rfl,heap_new _ _,fun i hi=>cell_later hbw (by rw [h6 i hi]),hm.b.below hbw,fun hm=>by have:=hA _ hm;omega,h7,Nat.lt_of_lt_of_le h8 hbw.size⟩
theorem bs_at {u:Value} {ls:List (List UInt8)} (h:ImmL w A u ls) (i:Nat) (hi:i<ls.length):∃g c ui,u = .slice (some ⟨g,0,none⟩) ls.length c∧w.cell? ⟨g,i,none⟩=some ui∧Imm w A ui (ls.getD i []):=by
 rcases h with ⟨_,h0⟩ | ⟨g,c,cur,rfl,h1,h2,h3,h4,h5⟩
 ·rw [h0] at hi;cases hi
 ·obtain ⟨ui,k1,k2⟩:=h5 i hi
  exact ⟨g,c,ui,rfl,by rw [cell_heap h4];exact k1,k2⟩
theorem bs_shape {u:Value} {ls:List (List UInt8)} (h:ImmL w A u ls):∃ao c,u = .slice ao ls.length c:=by
 rcases h with ⟨rfl,rfl⟩ | ⟨g,c,cur,rfl,_⟩
 ·exact ⟨none,0,rfl⟩
 ·exact ⟨_,c,rfl⟩
theorem place_len (p:Nat) (x:Ent) (hp:p≤s.log.length) (h:(placeM s k p x).1=true):(placeM s k p x).2.1.log.length=p+1:=by
 have hs:=write_same (s:=s) (k:=k) (noteE p x)
 unfold placeM at *
 generalize writeM s k (noteE p x)=q at *
 simp only at *
 split at h
 ·cases h
 ·rename_i hd
  rw [if_neg hd]
  have hl1:q.1.log=s.log:=by rw [hs]
  show (q.1.log.take p++[x]).length=p+1
  rw [hl1]
  simp [Nat.min_eq_left hp]
theorem place_int (h:Nd w A X r d l s k) (hw:Wf s k) (p:Nat) (z:Int) (hz:z=(p:Int)) (x:Ent) (hp:p≤s.log.length) (hx:x.bs.length≤8000) (u:Value) (hu:Imm w A u x.bs) :
  Calls Try.prog 46 #[.pointer (some ⟨r,0,none⟩),.int .i64 z,entV x u] w fun e w'=>e = .returned (.bool (placeM s k p x).1)∧NdP w w' A X r d l (placeM s k p x).2.1 (placeM s k p x).2.2:=by
 subst hz
 exact place_any h hw p x hp hx u hu
theorem agree_int (h:Nd w A X r d l s k) (z:Int) (hn:z≤s.log.length) (hb:s.log.length≤1000000) (hm:s.many≤s.agreed):Calls Try.prog 49 #[.pointer (some ⟨r,0,none⟩),.int .i64 z] w fun e w'=>Nd w' A X r d l (agreeM s z.toNat) k∧Only [r] w w'∧e = .returned (.tuple #[]):=by
 by_cases hz:0≤z
 ·obtain ⟨n,rfl⟩:∃n:Nat,z=(n:Int):=⟨z.toNat,by omega⟩
  exact agree_any h n (by omega) hb hm
 ·have HE:=Lib.hid (agreeM_ge s z.toNat (by omega))
  have H0:=Lib.hid h
  obtain ⟨vl,gv,gn,gm,gh,hcell⟩:=h.cells
  have hc9:w.cell? ⟨r,9,none⟩=some (.int .i64 (s.agreed:Int)):=by rw [cell_heap hcell];rfl
  have hlt:¬(s.agreed:Int)<z:=by omega
  clear h hcell
  go_enter Try.func49,Try.ntmps49
  go_wp2_with fail
  go_loopw [] (fun wr=>wr=w) (fun wr=>0)
  case atStart=>rfl
  case round =>
   subst hrel
   go_wp2_with fail
   go_end0
   rw [HE.out]
   exact ⟨H0.out,Only.refl _ _,rfl⟩
end
end Go.Proofs.Ytnicaicjgaoolaa
