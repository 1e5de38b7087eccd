/-
  What the proof of the law leans on: contracts of the program's functions, one behind another. No condition.
-/
import Derived.Test.YtnicaicjgaoolaaT5
import Derived.Test.YtnicaicjgaoolaaT3
set_option linter.unusedVariables false
set_option linter.unusedSimpArgs false
namespace Go.Proofs.Ytnicaicjgaoolaa
open Go.RowKit Go.ChangeMaps Go.WideMaps Go.Maps
set_option maxRecDepth 20000
section
variable (p:String)
def z0xx0:Oper:=⟨some 24,.move (.tmp 0),63,p,#[],none⟩
def z0xx1:Oper:=⟨some 25,.nilCheck (.tmp 24),0,p,#[⟨0,.data⟩],none⟩
def z0xx2:Oper:=⟨some 26,.fieldAddr 99 (.tmp 25) 4,0,p,#[⟨1,.data⟩],none⟩
def z0xx3:Oper:=⟨some 27,.load 36 (.tmp 26),36,p,#[⟨2,.data⟩],none⟩
def z0xx4:Oper:=⟨some 28,.move (.tmp 1),2,p,#[],none⟩
def z0xx5:Oper:=⟨some 29,.move (.tmp 0),63,p,#[],none⟩
def z0xx6:Oper:=⟨some 30,.nilCheck (.tmp 29),0,p,#[⟨5,.data⟩],none⟩
def z0xx7:Oper:=⟨some 31,.fieldAddr 99 (.tmp 30) 3,0,p,#[⟨6,.data⟩],none⟩
def z0xx8:Oper:=⟨some 32,.load 2 (.tmp 31),2,p,#[⟨7,.data⟩],none⟩
def z0xx9:Oper:=⟨some 33,.binOp BinOp.sub 2 (.tmp 28) (.tmp 32) 2,2,p,#[⟨4,.data⟩,⟨8,.data⟩],none⟩
def z0xx10:Oper:=⟨some 34,.indexAddr 36 (.tmp 27) (.tmp 33),0,p,#[⟨3,.data⟩,⟨9,.data⟩],none⟩
def z0xx11:Oper:=⟨some 35,.load 29 (.tmp 34),29,p,#[⟨10,.data⟩],none⟩
def z0xx12:Oper:=⟨some 36,.call { callee:=Callee.value (Operand.func 26),args:=#[.tmp 35],argTypes:=#[29]},29,p,#[⟨11,.data⟩],none⟩
def z0xx13:Oper:=⟨some 4,.assign (.tmp 36),29,p,#[⟨12,.data⟩,⟨12,.chain⟩,⟨0,.phase⟩,⟨1,.phase⟩,⟨2,.phase⟩,⟨3,.phase⟩,⟨4,.phase⟩,⟨5,.phase⟩,⟨6,.phase⟩,⟨7,.phase⟩,⟨8,.phase⟩,⟨9,.phase⟩,⟨10,.phase⟩,⟨11,.phase⟩,⟨12,.phase⟩],none⟩
def z0xx14:Oper:=⟨some 5,.assign (Operand.const (Value.int IntKind.i64 0)),43,p,#[⟨13,.chain⟩,⟨0,.phase⟩,⟨1,.phase⟩,⟨2,.phase⟩,⟨3,.phase⟩,⟨4,.phase⟩,⟨5,.phase⟩,⟨6,.phase⟩,⟨7,.phase⟩,⟨8,.phase⟩,⟨9,.phase⟩,⟨10,.phase⟩,⟨11,.phase⟩,⟨12,.phase⟩,⟨13,.phase⟩],none⟩
end
attribute [go_sem,reducible] z0xx0 z0xx1 z0xx2 z0xx3 z0xx4 z0xx5 z0xx6 z0xx7 z0xx8 z0xx9 z0xx10 z0xx11 z0xx12 z0xx13 z0xx14
/-- a log and its disk -/
structure WD (w:World) (A D L:List Nat) (l d:Nat) (s:Wl) (k:Dk):Prop where
 wl:IsWl w A L l d s
 dk:IsDk w D d k
 dis:Dis D L
 dA:∀b∈D,b∈A
 lA:∀b∈L,b∈A
 alt:∀b∈A,b<w.heap.size
section
variable {w:World} {A D L:List Nat} {l d:Nat} {s:Wl} {k:Dk}
theorem WD.below {w':World} (h:WD w A D L l d s k) (hb:Below w.heap.size w w'):WD w' A D L l d s k :=
 ⟨h.wl.below hb,h.dk.below hb,h.dis,h.dA,h.lA,fun b hb2=>Nat.lt_of_lt_of_le (h.alt b hb2) hb.size⟩
theorem WD.drewN (h:WD w A D L l d s k) (q:Nat):WD (w.drewN q) A D L l d s k:=h.below ⟨rfl,rfl,rfl,Nat.le_refl _,fun _ _=>rfl⟩
theorem WD.only_L {w':World} {s':Wl} (h:WD w A D L l d s k) (hw:IsWl w' A L l d s') (ho:Only L w w'):WD w' A D L l d s' k :=
 ⟨hw,h.dk.keep ho h.dis,h.dis,h.dA,h.lA,fun b hb=>Nat.lt_of_lt_of_le (h.alt b hb) ho.size⟩
theorem WD.only_D {w':World} {k':Dk} (h:WD w A D L l d s k) (hk:IsDk w' D d k') (ho:Only D w w'):WD w' A D L l d s k' :=
 ⟨h.wl.keep ho h.dis.symm h.dA (Ext.refl _ _),hk,h.dis,h.dA,h.lA,fun b hb=>Nat.lt_of_lt_of_le (h.alt b hb) ho.size⟩
def syncW (s:Wl) (k:Dk):Int×Wl×Dk :=
 if offW s k then (10,chkW s 10,k) else match k.file with | none=>(0,s,k) | some (l,_)=>(0,chkW s 0,{ k with file:=some (l,l.length)})
theorem offW_off {s:Wl} {k:Dk} (h:offW s k=false):k.off=false:=by
 unfold offW at h
 simp at h
 exact h.2.2
set_option maxHeartbeats 1000000 in
theorem wsync_any (h:WD w A D L l d s k):Calls Try.prog 67 #[.pointer (some ⟨l,0,none⟩)] w fun e w'=>e = .returned (.int .i64 (syncW s k).1)∧WD w' A D L l d (syncW s k).2.1 (syncW s k).2.2∧Only (D++L) w w':=by
 have H:=Lib.hid h
 have HOF:=Lib.hid (off_any h.wl h.dk)
 have hc0:w.cell? ⟨l,0,none⟩=some (.pointer (some ⟨d,0,none⟩)):=by
  obtain ⟨⟨vr,ve,h1,_⟩,_⟩:=h.wl
  rw [cell_heap h1];rfl
 clear h
 unfold syncW
 cases hoff:offW s k with
 | true =>
  rw [hoff] at HOF
  clear hoff
  go_enter Try.func67,Try.ntmps67
  go_wp2_with fail
  refine HOF.out.mono ?_
  rintro e w1 ⟨rfl,q,rfl⟩
  have H1:=Lib.hid (H.out.drewN q)
  have HO1:Hid (Only (D++L) w (w.drewN q)):=Lib.hid ((Only.refl _ _).drewN q)
  generalize w.drewN q=W at *
  go_wp2_with fail
  refine (check_any H1.out.wl H1.out.lA 10).mono ?_
  rintro e w2 ⟨rfl,hw2,ho2⟩
  have H2:=Lib.hid (H1.out.only_L hw2 ho2)
  have HO2:=Lib.hid (HO1.out.trans (ho2.mono (fun b hb=>by simp [hb])))
  clear hw2 ho2
  go_wp2_with fail
  go_ret
  exact ⟨rfl,H2.out,HO2.out⟩
 | false =>
  rw [hoff] at HOF
  have HKO:=Lib.hid (offW_off hoff)
  clear hoff
  cases hf:k.file with
  | none =>
   have HFL:=Lib.hid hf
   clear hf
   go_enter Try.func67,Try.ntmps67
   go_wp2_with fail
   refine HOF.out.mono ?_
   rintro e w1 ⟨rfl,q,rfl⟩
   have H1:=Lib.hid (H.out.drewN q)
   have HO1:Hid (Only (D++L) w (w.drewN q)):=Lib.hid ((Only.refl _ _).drewN q)
   have hc1:(w.drewN q).cell? ⟨l,0,none⟩=some (.pointer (some ⟨d,0,none⟩)):=hc0
   generalize w.drewN q=W at *
   go_wp2_with fail
   refine (sync_no H1.out.dk HKO.out HFL.out).mono ?_
   rintro e w2 ⟨rfl,hb2⟩
   have H2:=Lib.hid (H1.out.below hb2)
   have HO2:=Lib.hid (HO1.out.trans (Only.ofBelow hb2 (D++L)))
   clear hb2
   go_wp2_with fail
   go_ret
   exact ⟨rfl,H2.out,HO2.out⟩
  | some p =>
   obtain ⟨bl,kk⟩:=p
   have HFL:=Lib.hid hf
   clear hf
   go_enter Try.func67,Try.ntmps67
   go_wp2_with fail
   refine HOF.out.mono ?_
   rintro e w1 ⟨rfl,q,rfl⟩
   have H1:=Lib.hid (H.out.drewN q)
   have HO1:Hid (Only (D++L) w (w.drewN q)):=Lib.hid ((Only.refl _ _).drewN q)
   have hc1:(w.drewN q).cell? ⟨l,0,none⟩=some (.pointer (some ⟨d,0,none⟩)):=hc0
   generalize w.drewN q=W at *
   go_wp2_with fail
   refine (sync_yes H1.out.dk HKO.out HFL.out).mono ?_
   rintro e w2 ⟨rfl,hd2,ho2⟩
   have H2:=Lib.hid (H1.out.only_D hd2 ho2)
   have HO2:=Lib.hid (HO1.out.trans (ho2.mono (fun b hb=>by simp [hb])))
   clear hd2 ho2
   go_wp2_with fail
   refine (check_any H2.out.wl H2.out.lA 0).mono ?_
   rintro e w3 ⟨rfl,hw3,ho3⟩
   have H3:=Lib.hid (H2.out.only_L hw3 ho3)
   have HO3:=Lib.hid (HO2.out.trans (ho3.mono (fun b hb=>by simp [hb])))
   clear hw3 ho3
   go_wp2_with fail
   go_ret
   exact ⟨rfl,H3.out,HO3.out⟩
set_option maxHeartbeats 1000000 in
theorem at_ok (h:WD w A D L l d s k) (hoff:offW s k=false) (n:Nat) (hn:n<s.recs.length) (hb:s.recs.length≤1000000000) (hr:(s.recs.getD n []).length≤1048576) :
  Calls Try.prog 62 #[.pointer (some ⟨l,0,none⟩),.int .i64 ((n:Int)+1)] w fun e w'=>∃v,e = .returned (.tuple #[v,.int .i64 0])∧OwnB w' w.heap.size 5 v (s.recs.getD n [])∧Below w.heap.size w w':=by
 have H:=Lib.hid h
 have HOF:=Lib.hid (off_any h.wl h.dk)
 rw [hoff] at HOF
 obtain ⟨⟨vr,ve,h1,⟨us,hu,hru,him⟩,_⟩,_⟩:=h.wl
 obtain ⟨ao,c,e1,hi,_,_⟩:=him n hn
 have hgu:=hru
 rcases hru.2 with ⟨_,h0⟩ | ⟨g,cap,cur,rfl,_,hg,hgn,hgm,hgs,hgt⟩
 ·omega
 have hcell:w.cell? ⟨g,n,none⟩=some (.slice ao (s.recs.getD n []).length c):=by
  have:=World.ownsRow.cellAt hgu n (by omega)
  rw [this,←e1]
  have hun:n<us.length:=by omega
  simp [List.getD,hun]
 have hc4:w.cell? ⟨l,4,none⟩=some (.slice (some ⟨g,0,none⟩) s.recs.length cap):=by rw [cell_heap h1];rfl
 have hc3:w.cell? ⟨l,3,none⟩=some (.int .i64 1):=by rw [cell_heap h1];rfl
 have HNX:=Lib.hid (fun q=>next_any (h.wl.below (w':=w.drewN q) ⟨rfl,rfl,rfl,Nat.le_refl _,fun _ _=>rfl⟩) hb)
 have HI:=Lib.hid hi
 have g1:decide ((n:Int)+1<1)=false:=decide_eq_false (by omega)
 have g2:decide (1+(s.recs.length:Int)≤(n:Int)+1)=false:=decide_eq_false (by omega)
 have q1:IntKind.i64.wrap (n:Int)=(n:Int):=IntWalk.i64_in _ (by omega)
 have hni:(n:Int)<(s.recs.length:Int):=by omega
 have HFIN:Hid (s.recs.getD n []=s.recs.getD n []):=Lib.hid rfl
 clear h h1 hu hru him hgu hg hgs hgt hgn hgm e1 hi hoff HFIN
 generalize s.recs.getD n []=rl at *
 generalize s.recs.length=N at *
 go_enter Try.func62,Try.ntmps62
 go_wp2_with fail
 refine HOF.out.mono ?_
 rintro e w1 ⟨rfl,q,rfl⟩
 go_wp2_with fail
 refine (HNX.out q).mono ?_
 rintro e w2 ⟨rfl,q2,rfl⟩
 go_upto_region 5 with (fail)
 have HBW:Hid (Below w.heap.size w (w.drewN (q+q2))):=Lib.hid ⟨rfl,rfl,rfl,Nat.le_refl _,fun _ _=>rfl⟩
 have hk4:(w.drewN (q+q2)).cell? ⟨l,4,none⟩=some (.slice (some ⟨g,0,none⟩) N cap):=hc4
 have hk3:(w.drewN (q+q2)).cell? ⟨l,3,none⟩=some (.int .i64 1):=hc3
 have hkg:(w.drewN (q+q2)).cell? ⟨g,n,none⟩=some (.slice ao rl.length c):=hcell
 have HI2:Hid (IsB (w.drewN (q+q2)) ao rl.length c rl):=Lib.hid (HI.out.below HBW.out)
 clear hc4 hc3 hcell HI
 generalize (w.drewN (q+q2))=W at *
 have hr4:∀w',Below W.heap.size W w'→w'.cell? ⟨l,4,none⟩=some (.slice (some ⟨g,0,none⟩) N cap):=fun w' hb=>cell_later hb hk4
 have hr3:∀w',Below W.heap.size W w'→w'.cell? ⟨l,3,none⟩=some (.int .i64 1):=fun w' hb=>cell_later hb hk3
 have hrg:∀w',Below W.heap.size W w'→w'.cell? ⟨g,n,none⟩=some (.slice ao rl.length c):=fun w' hb=>cell_later hb hkg
 have HI:Hid (∀w',Below W.heap.size W w'→IsB w' ao rl.length c rl):=Lib.hid fun w' hb=>HI2.out.below hb
 clear hk4 hk3 hkg
 refine wp_region_held_drew (S:=fun w'=>Below W.heap.size W w') (by kernel_rfl) (below_drew1 W) (fun hHeld=>?_)
 refine qtl 0 (z0xx0 _) rfl ?_
 refine qtl 1 (z0xx1 _) rfl ?_
 refine qtl 2 (z0xx2 _) rfl ?_
 refine qtl 3 (z0xx3 _) rfl ?_
 refine qtl 4 (z0xx4 _) rfl ?_
 refine qtl 5 (z0xx5 _) rfl ?_
 refine qtl 6 (z0xx6 _) rfl ?_
 refine qtl 7 (z0xx7 _) rfl ?_
 refine qtl 8 (z0xx8 _) rfl ?_
 refine qtl 9 (z0xx9 _) rfl ?_
 refine qtl 10 (z0xx10 _) rfl ?_
 refine qtl 11 (z0xx11 _) rfl ?_
 refine qr1 12 (z0xx12 _) rfl fun K hK=>?_
 unfold z0xx12
 go_simp
 refine (F.clone_any ao rl.length c rl _ (HI.out _ (by exact below_drew1 W)) (by omega)).mono ?_
 rintro e w5 ⟨v5,rfl,ho5,hb5⟩
 have HB5:=Lib.hid ((below_drew1 W).trans hb5)
 have HO5:=Lib.hid ho5
 have hh5:Below W.heap.size W w5:=(below_drew1 W).trans hb5
 clear ho5 hb5
 go_wp2_with fail
 refine hK.out _ _ hh5 (fun hHeld=>?_)
 clear hK K
 refine qsp ?_
 clear hh5
 refine qtl 13 (z0xx13 _) rfl ?_
 refine qtl 14 (z0xx14 _) rfl ?_
 refine qdn ?_
 go_wp2_with fail
 go_ret2
 exact ⟨v5,rfl,HO5.out.mono (show w.heap.size≤W.drew.heap.size from HBW.out.size),HBW.out.trans (HB5.out.mono HBW.out.size)⟩
end
end Go.Proofs.Ytnicaicjgaoolaa
