/-
  What the proof of the law leans on: contracts of the program's functions, one behind another. No condition.
-/
import Derived.Test.YtnicaicjgaoolaaRows
import Derived.BigQuiet
import Derived.Deep.QuietTactic
import Derived.BigRegion
import Derived.Deep.OwnRows
import Derived.Lib.AppendStr
import Derived.Test.YtnicaicjgaoolaaT3
import Derived.Test.YtnicaicjgaoolaaT1
set_option linter.unusedVariables false
set_option linter.unusedSimpArgs false
namespace Go.Proofs.Ytnicaicjgaoolaa
open Go.RowKit Go.ChangeMaps Go.WideMaps Go.Maps
set_option maxRecDepth 20000
section
variable (p:String)
def z01x0:Oper:=⟨some 18,.move (.tmp 5),84,p,#[],none⟩
def z01x1:Oper:=⟨some 19,.nilCheck (.tmp 18),0,p,#[⟨0,.data⟩],none⟩
def z01x2:Oper:=⟨some 20,.fieldAddr 86 (.tmp 19) 1,0,p,#[⟨1,.data⟩],none⟩
def z01x3:Oper:=⟨some 22,.move (.tmp 1),3,p,#[],none⟩
def z01x4:Oper:=⟨some 23,.call { callee:=Callee.builtin Builtin.max,args:=#[.tmp 22,Operand.const (Value.int IntKind.i64 0)],argTypes:=#[3,3]},3,p,#[⟨4,.data⟩],none⟩
def z01x5:Oper:=⟨some 24,.move (.tmp 5),84,p,#[],none⟩
def z01x6:Oper:=⟨some 25,.nilCheck (.tmp 24),0,p,#[⟨6,.data⟩],none⟩
def z01x7:Oper:=⟨some 26,.fieldAddr 86 (.tmp 25) 0,0,p,#[⟨7,.data⟩],none⟩
def z01x8:Oper:=⟨some 29,.move (.tmp 5),84,p,#[],none⟩
def z01x9:Oper:=⟨some 30,.nilCheck (.tmp 29),0,p,#[⟨11,.data⟩],none⟩
def z01x10:Oper:=⟨some 31,.fieldAddr 86 (.tmp 30) 1,0,p,#[⟨12,.data⟩],none⟩
def z01x11:Oper:=⟨some 21,.load 3 (.tmp 20),3,p,#[⟨2,.data⟩],none⟩
def z01x12:Oper:=⟨some 27,.load 29 (.tmp 26),29,p,#[⟨8,.data⟩],none⟩
def z01x13:Oper:=⟨some 32,.load 3 (.tmp 31),3,p,#[⟨13,.data⟩],none⟩
def z01x14:Oper:=⟨some 28,.call { callee:=Callee.builtin Builtin.len,args:=#[.tmp 27],argTypes:=#[29]},3,p,#[⟨9,.data⟩],none⟩
def z01x15:Oper:=⟨some 33,.binOp BinOp.sub 3 (.tmp 28) (.tmp 32) 3,3,p,#[⟨10,.data⟩,⟨14,.data⟩],none⟩
def z01x16:Oper:=⟨some 34,.call { callee:=Callee.builtin Builtin.min,args:=#[.tmp 23,.tmp 33],argTypes:=#[3,3]},3,p,#[⟨5,.data⟩,⟨15,.data⟩],none⟩
def z01x17:Oper:=⟨some 35,.binOp BinOp.add 3 (.tmp 21) (.tmp 34) 3,3,p,#[⟨3,.data⟩,⟨16,.data⟩],none⟩
def z01x18:Oper:=⟨some 36,.nilCheck (.tmp 18),0,p,#[⟨0,.data⟩,⟨0,.phase⟩,⟨1,.phase⟩,⟨2,.phase⟩,⟨3,.phase⟩,⟨4,.phase⟩,⟨5,.phase⟩,⟨6,.phase⟩,⟨7,.phase⟩,⟨8,.phase⟩,⟨9,.phase⟩,⟨10,.phase⟩,⟨11,.phase⟩,⟨12,.phase⟩,⟨13,.phase⟩,⟨14,.phase⟩,⟨15,.phase⟩,⟨16,.phase⟩,⟨17,.phase⟩],none⟩
def z01x19:Oper:=⟨some 37,.fieldAddr 86 (.tmp 36) 1,0,p,#[⟨18,.data⟩,⟨0,.phase⟩,⟨1,.phase⟩,⟨2,.phase⟩,⟨3,.phase⟩,⟨4,.phase⟩,⟨5,.phase⟩,⟨6,.phase⟩,⟨7,.phase⟩,⟨8,.phase⟩,⟨9,.phase⟩,⟨10,.phase⟩,⟨11,.phase⟩,⟨12,.phase⟩,⟨13,.phase⟩,⟨14,.phase⟩,⟨15,.phase⟩,⟨16,.phase⟩,⟨17,.phase⟩],none⟩
def z01x20:Oper:=⟨none,.store 3 (.tmp 37) (.tmp 35),0,p,#[⟨19,.data⟩,⟨17,.data⟩,⟨0,.phase⟩,⟨1,.phase⟩,⟨2,.phase⟩,⟨3,.phase⟩,⟨4,.phase⟩,⟨5,.phase⟩,⟨6,.phase⟩,⟨7,.phase⟩,⟨8,.phase⟩,⟨9,.phase⟩,⟨10,.phase⟩,⟨11,.phase⟩,⟨12,.phase⟩,⟨13,.phase⟩,⟨14,.phase⟩,⟨15,.phase⟩,⟨16,.phase⟩,⟨17,.phase⟩],none⟩
def z01x21:Oper:=⟨some 38,.move (.tmp 5),84,p,#[],none⟩
def z01x22:Oper:=⟨some 39,.move (.tmp 5),84,p,#[],none⟩
def z01x23:Oper:=⟨some 40,.nilCheck (.tmp 39),0,p,#[⟨1,.data⟩],none⟩
def z01x24:Oper:=⟨some 41,.fieldAddr 86 (.tmp 40) 0,0,p,#[⟨2,.data⟩],none⟩
def z01x25:Oper:=⟨some 43,.move (.tmp 5),84,p,#[],none⟩
def z01x26:Oper:=⟨some 44,.nilCheck (.tmp 43),0,p,#[⟨5,.data⟩],none⟩
def z01x27:Oper:=⟨some 45,.fieldAddr 86 (.tmp 44) 1,0,p,#[⟨6,.data⟩],none⟩
def z01x28:Oper:=⟨some 46,.load 3 (.tmp 45),3,p,#[⟨7,.data⟩],none⟩
def z01x29:Oper:=⟨some 42,.load 29 (.tmp 41),29,p,#[⟨3,.data⟩],none⟩
def z01x30:Oper:=⟨some 47,.slice 29 (.tmp 42) none (some (.tmp 46)) none,29,p,#[⟨4,.data⟩,⟨8,.data⟩],none⟩
def z01x31:Oper:=⟨some 48,.call { callee:=Callee.value (Operand.func 26),args:=#[.tmp 47],argTypes:=#[29]},29,p,#[⟨9,.data⟩],none⟩
def z01x32:Oper:=⟨some 49,.nilCheck (.tmp 38),0,p,#[⟨0,.data⟩,⟨0,.phase⟩,⟨1,.phase⟩,⟨2,.phase⟩,⟨3,.phase⟩,⟨4,.phase⟩,⟨5,.phase⟩,⟨6,.phase⟩,⟨7,.phase⟩,⟨8,.phase⟩,⟨9,.phase⟩,⟨10,.phase⟩],none⟩
def z01x33:Oper:=⟨some 50,.fieldAddr 86 (.tmp 49) 0,0,p,#[⟨11,.data⟩,⟨0,.phase⟩,⟨1,.phase⟩,⟨2,.phase⟩,⟨3,.phase⟩,⟨4,.phase⟩,⟨5,.phase⟩,⟨6,.phase⟩,⟨7,.phase⟩,⟨8,.phase⟩,⟨9,.phase⟩,⟨10,.phase⟩],none⟩
def z01x34:Oper:=⟨none,.store 29 (.tmp 50) (.tmp 48),0,p,#[⟨12,.data⟩,⟨10,.data⟩,⟨10,.chain⟩,⟨0,.phase⟩,⟨1,.phase⟩,⟨2,.phase⟩,⟨3,.phase⟩,⟨4,.phase⟩,⟨5,.phase⟩,⟨6,.phase⟩,⟨7,.phase⟩,⟨8,.phase⟩,⟨9,.phase⟩,⟨10,.phase⟩],none⟩
end
attribute [go_sem,reducible] z01x0 z01x1 z01x2 z01x3 z01x4 z01x5 z01x6 z01x7 z01x8 z01x9 z01x10 z01x11 z01x12 z01x13 z01x14 z01x15 z01x16 z01x17 z01x18 z01x19 z01x20 z01x21 z01x22 z01x23 z01x24 z01x25 z01x26 z01x27 z01x28 z01x29 z01x30 z01x31 z01x32 z01x33 z01x34
theorem z01xm0 {p:Prop} (h:p:=by
 go_simp
 refine hK.out _ _ hHeld (fun hHeld=>?_)
 clear hK K
 refine qsp ?_
 refine qr1 17 (z01x17 _) rfl fun K hK=>?_
 unfold z01x17
 go_simp
 refine hK.out _ _ hHeld (fun hHeld=>?_)
 clear hK K
 refine qsp ?_
 refine qr1 18 (z01x18 _) rfl fun K hK=>?_
 unfold z01x18
 go_simp
 refine hK.out _ _ hHeld (fun hHeld=>?_)
 clear hK K
 refine qsp ?_
 refine qr1 19 (z01x19 _) rfl fun K hK=>?_
 unfold z01x19
 go_simp
 refine hK.out _ _ hHeld (fun hHeld=>?_)
 clear hK K
 refine qsp ?_
 refine qr1 20 (z01x20 _) rfl fun K hK=>?_
 unfold z01x20
 go_simp
 refine hK.out _ _ trivial (fun hHeld=>?_)
 clear hK K
 refine qsp ?_
 refine qdn ?_
 go_wp2_with fail
 go_meet
 refine ⟨_,rfl,?_⟩
 rw [←HKK.out]
 exact IntWalk.i64_in _ (by omega)):p:=h
theorem z01xm1 {p:Prop} (h:p:=by
 go_simp
 refine hK.out _ _ hHeld (fun hHeld=>?_)
 clear hK K
 refine qsp ?_
 refine qr1 15 (z01x15 _) rfl fun K hK=>?_
 unfold z01x15
 go_simp
 refine hK.out _ _ hHeld (fun hHeld=>?_)
 clear hK K
 refine qsp ?_
 refine qr1 16 (z01x16 _) rfl fun K hK=>?_
 unfold z01x16
 exact z01xm0):p:=h
theorem z01xm2 {p:Prop} (h:p:=by
 go_simp
 refine hK.out _ _ hHeld (fun hHeld=>?_)
 clear hK K
 refine qsp ?_
 refine qr2 3 15 (z01x11 _) (z01x15 _) rfl rfl (fun K hK=>?_) fun K hK=>?_
 ·unfold z01x11
  exact z01xm1
 ·unfold z01x15
  go_simp
  refine hK.out _ _ hHeld (fun hHeld=>?_)
  clear hK K
  refine qsp ?_
  refine qr2 3 16 (z01x11 _) (z01x16 _) rfl rfl (fun K hK=>?_) fun K hK=>?_
  ·unfold z01x11
   go_simp
   refine hK.out _ _ hHeld (fun hHeld=>?_)
   clear hK K
   refine qsp ?_
   refine qr1 16 (z01x16 _) rfl fun K hK=>?_
   unfold z01x16
   exact z01xm0
  ·unfold z01x16
   go_simp
   refine hK.out _ _ hHeld (fun hHeld=>?_)
   clear hK K
   refine qsp ?_
   refine qr1 3 (z01x11 _) rfl fun K hK=>?_
   unfold z01x11
   exact z01xm0):p:=h
theorem z01xm3 {p:Prop} (h:p:=by
 go_simp
 refine hK.out _ _ hHeld (fun hHeld=>?_)
 clear hK K
 refine qsp ?_
 refine qr1 10 (z01x14 _) rfl fun K hK=>?_
 unfold z01x14
 exact z01xm1):p:=h
theorem z01xm4 {p:Prop} (h:p:=by
 go_simp
 refine hK.out _ _ hHeld (fun hHeld=>?_)
 clear hK K
 refine qsp ?_
 refine qr2 10 14 (z01x14 _) (z01x13 _) rfl rfl (fun K hK=>?_) fun K hK=>?_
 ·unfold z01x14
  go_simp
  refine hK.out _ _ hHeld (fun hHeld=>?_)
  clear hK K
  refine qsp ?_
  refine qr1 14 (z01x13 _) rfl fun K hK=>?_
  unfold z01x13
  exact z01xm1
 ·unfold z01x13
  exact z01xm3):p:=h
theorem z01xm5 {p:Prop} (h:p:=by
 go_simp
 refine hK.out _ _ hHeld (fun hHeld=>?_)
 clear hK K
 refine qsp ?_
 refine qr2 3 10 (z01x11 _) (z01x14 _) rfl rfl (fun K hK=>?_) fun K hK=>?_
 ·unfold z01x11
  exact z01xm3
 ·unfold z01x14
  exact z01xm2):p:=h
/-- how many bytes stay -/
def stays (l:List UInt8) (k:Nat) (keep:Int):Nat:=k+(min (max keep 0) (l.length - k:Int)).toNat
def crashF (f:Option (List UInt8×Nat)) (keep:Int):Option (List UInt8×Nat):=match f with | none=>none | some (l,k)=>some (l.take (stays l k keep),stays l k keep)
def crashD (s:Dk) (keep:Int):Dk:={ s with off:=true,file:=crashF s.file keep }
theorem stays_le {l:List UInt8} {k:Nat} (keep:Int) (h:k≤l.length):stays l k keep≤l.length:=by unfold stays;omega
section
variable {w:World} {D:List Nat} {d:Nat} {s:Dk}
theorem isB_take0 {ao:Option Addr} {n c k:Nat} {l:List UInt8} (h:IsB w ao n c l) (hk:k≤n):IsB w ao k c (l.take k):=by
 obtain ⟨h1,h2,h3⟩:=h
 refine ⟨by rw [List.length_take,h1];omega,fun e=>⟨by have:=(h2 e).1;omega,(h2 e).2⟩,?_⟩
 rcases h3 with h3 | ⟨b,off,h4,h5⟩
 ·exact .inl (by omega)
 ·refine .inr ⟨b,off,h4,fun i hi=>?_⟩
  rw [h5 i (by omega)]
  simp [List.getD,hi]
theorem own_cap {ao:Option Addr} {n c:Nat} {l:List UInt8} (h:OwnB w 0 5 (.slice ao n c) l):n≤c:=by
 rcases h.2 with ⟨h0,h1⟩ | ⟨g,cap,cur,hv,_,_,hn,_⟩
 ·cases h0;exact Nat.le_refl _
 ·cases hv;have h1:=h.1;simp at h1;omega
set_option maxHeartbeats 2000000 in
theorem crash_any (h:IsDk w D d s) (keep:Int) (hk0 : -9223372036854775808≤keep) (hk1:keep≤9223372036854775807) (hl:∀l k,s.file=some (l,k)→k≤l.length∧l.length≤1048576) :
  Calls Try.prog 23 #[.pointer (some ⟨d,0,none⟩),.int .i64 keep] w fun e w'=>∃D',e = .returned (.tuple #[])∧IsDk w' D' d (crashD s keep)∧Moves D D' w w':=by
 have H0:=Lib.hid h
 obtain ⟨⟨mb,k1,k2,k3⟩,k4,k5⟩:=h
 have hc1:w.cell? ⟨d,1,none⟩=some (.bool s.off):=by rw [cell_heap k1];rfl
 have hz1:=free_heap k1 1
 have o1:Only [d] w (w.setCell ⟨d,1,none⟩ (.bool true)):=(Only.refl _ _).setCell (by simp) _
 have hd1:=heap_set k1 1 (.bool true)
 have hc3:(w.setCell ⟨d,1,none⟩ (.bool true)).cell? ⟨d,3,none⟩=some (.map (some mb)):=by rw [cell_heap hd1];rfl
 have k31:=k3.only_d o1 k1
 have HO1:=Lib.hid (o1.mono (T:=D) (by simpa using k4));have HD1:=Lib.hid hd1
 have HK5:Hid (∀b∈D,b<(w.setCell ⟨d,1,none⟩ (.bool true)).heap.size):=Lib.hid (fun b hb=>Nat.lt_of_lt_of_le (k5 b hb) o1.size)
 cases hfile:s.file with
 | none =>
  rw [hfile] at k31
  obtain ⟨c,hm⟩:=k31
  have HM:=Lib.hid hm
  have hr:=run_range_map (P:=Try.prog) (w.setCell ⟨d,1,none⟩ (.bool true)) 77 9 84 mb #[] c Try.underlying77 hm
  have hn:∀ty,(Instr.next (.pointer (some ⟨(w.setCell ⟨d,1,none⟩ (.bool true)).heap.size,0,none⟩)) false ty).run Try.prog ((w.setCell ⟨d,1,none⟩ (.bool true)).alloc (.mapIter (some mb) c #[] c)) = .ok (.tuple #[.bool false]) ((w.setCell ⟨d,1,none⟩ (.bool true)).alloc (.mapIter (some mb) c #[] c)):=fun ty=>next_no (heap_new _ _) (heap_old hm _)
  have hszq:(w.setCell ⟨d,1,none⟩ (.bool true)).heap.size=w.heap.size:=by simp
  rw [hszq] at hn hr
  clear hszq
  have hap:crashD s keep=⟨s.room,true,s.lives,none⟩:=by unfold crashD crashF;rw [hfile]
  have HAP:=Lib.hid hap
  have HFIN:Hid (IsDk ((w.setCell ⟨d,1,none⟩ (.bool true)).alloc (.mapIter (some mb) c #[] c)) D d ⟨s.room,true,s.lives,none⟩):=Lib.hid ((⟨⟨mb,hd1,k2,⟨c,hm⟩⟩,k4,HK5.out⟩:IsDk (w.setCell ⟨d,1,none⟩ (.bool true)) D d ⟨s.room,true,s.lives,none⟩).below ((Below.refl _ _).alloc (Nat.le_refl _) _))
  have HMV:Hid (Only D w ((w.setCell ⟨d,1,none⟩ (.bool true)).alloc (.mapIter (some mb) c #[] c))):=Lib.hid (HO1.out.alloc _)
  clear k1 k2 k3 k4 k5 o1 hd1 hm hap hfile
  go_enter Try.func23,Try.ntmps23
  go_wp2_with fail
  generalize ((w.setCell ⟨d,1,none⟩ (.bool true)).alloc (.mapIter (some mb) c #[] c))=w1 at *
  go_loopw [5] (fun _ wr=>wr=w1) (fun _ _=>0)
  case atStart=>rfl
  case round =>
   obtain rfl:=hrel
   go_wp2_with fail
   go_end0
   exact ⟨D,rfl,by rw [HAP.out];exact HFIN.out,Moves.of_only HMV.out⟩
 | some p =>
  obtain ⟨l,kk0⟩:=p
  obtain ⟨hkl,hll⟩:=hl l kk0 hfile
  rw [hfile] at k31
  obtain ⟨cc,fb,b0,v,hm,hb0,hfD,hf,ho,hov⟩:=k31
  obtain ⟨w1,w2,hI⟩:=iter1 hm hb0
  obtain ⟨ao,c,rfl,hi⟩:=ho.isB
  have hr:=hI.range
  have hn:=hI.next
  have he:=hI.entry
  have HDN:=Lib.hid hI.done
  have HLI:=Lib.hid (And.intro hI.l1 hI.l2)
  have HP2:Hid (Parts w2 D d { s with off:=true } l kk0 mb cc fb b0 (.slice ao l.length c)):=Lib.hid ((⟨hd1,hm,hb0,hf,ho,k4,k2,hfD,hov,HK5.out⟩:Parts (w.setCell ⟨d,1,none⟩ (.bool true)) D d { s with off:=true } l kk0 mb cc fb b0 (.slice ao l.length c)).below hI.b2)
  have HR2:=Lib.hid hI.b2
  have HSZ2:=Lib.hid hI.sz
  have hkk:(stays l kk0 keep:Int)=(kk0:Int)+min (max keep 0) ((l.length:Int) - (kk0:Int)):=by unfold stays;omega
  have hap:crashD s keep=⟨s.room,true,s.lives,some (l.take (stays l kk0 keep),stays l kk0 keep)⟩:=by unfold crashD crashF;rw [hfile]
  have HAP:=Lib.hid hap
  have hkl2:=stays_le keep hkl
  generalize hkq:stays l kk0 keep=kk at *
  have HKK:=Lib.hid hkk
  clear k1 k2 k3 k4 k5 o1 hd1 hm hap hfile hf ho hov hI hkq hl hkk
  simp only at hn he
  have hszq:(w.setCell ⟨d,1,none⟩ (.bool true)).heap.size=w.heap.size:=by simp
  rw [hszq] at hn hr he HDN HLI HSZ2
  clear hszq
  generalize hX:w.heap.size=X at *
  have HX:=Lib.hid hX
  clear hX
  go_enter Try.func23,Try.ntmps23
  go_wp2_with fail
  go_loopw [5] (fun _ wr=>wr=w1∨∃D' v',wr.heap[X]? = w2.heap[X]? ∧ wr.heap[mb]? = w2.heap[mb]? ∧ Parts wr D' d { s with off:=true } (l.take kk) kk mb cc fb b0 v'∧Moves D D' w2 wr) (fun _ wr=>leftI wr X)
  case atStart=>exact .inl rfl
  case round =>
   rcases hrel with rfl | ⟨D',v',r1,r2,r3,r4⟩
   ·have hf0:=HP2.out.hf
    have hc20:w2.cell? ⟨fb,0,none⟩=some (.slice ao l.length c):=by rw [cell_heap hf0];rfl
    have hc21:w2.cell? ⟨fb,1,none⟩=some (.int .i64 (kk0:Int)):=by rw [cell_heap hf0];rfl
    have hz21:=free_heap hf0 1
    have q1:IntKind.i64.wrap ((l.length:Int) - (kk0:Int))=(l.length:Int) - (kk0:Int):=IntWalk.i64_in _ (by omega)
    clear hf0
    go_upto_region 4 with (fail)
    go_cut [] (fun wx=>∃y:Int,wx=w2.drew.setCell ⟨fb,1,none⟩ (.int .i64 y)∧y=(kk:Int))
    case first =>
     refine wp_region_held_drew (S:=fun w'=>True) (by kernel_rfl) trivial (fun hHeld=>?_)
     refine qtl 0 (z01x0 _) rfl ?_
     refine qtl 1 (z01x1 _) rfl ?_
     refine qtl 2 (z01x2 _) rfl ?_
     refine qtl 4 (z01x3 _) rfl ?_
     refine qtl 5 (z01x4 _) rfl ?_
     refine qtl 6 (z01x5 _) rfl ?_
     refine qtl 7 (z01x6 _) rfl ?_
     refine qtl 8 (z01x7 _) rfl ?_
     refine qtl 11 (z01x8 _) rfl ?_
     refine qtl 12 (z01x9 _) rfl ?_
     refine qtl 13 (z01x10 _) rfl ?_
     refine wpAnyH_ready (rs:=[3,9,14]) (by kernel_rfl) (by simp) ?_
     refine AllReadyH.cons (o:=(z01x11 _)) rfl (fun K hK=>?_) (AllReadyH.cons (o:=(z01x12 _)) rfl (fun K hK=>?_) (AllReadyH.cons (o:=(z01x13 _)) rfl (fun K hK=>?_) AllReadyH.nil))
     ·unfold z01x11
      go_simp
      refine hK.out _ _ hHeld (fun hHeld=>?_)
      clear hK K
      refine qsp ?_
      refine qr2 9 14 (z01x12 _) (z01x13 _) rfl rfl (fun K hK=>?_) fun K hK=>?_
      ·unfold z01x12
       exact z01xm4
      ·unfold z01x13
       go_simp
       refine hK.out _ _ hHeld (fun hHeld=>?_)
       clear hK K
       refine qsp ?_
       refine qr1 9 (z01x12 _) rfl fun K hK=>?_
       unfold z01x12
       exact z01xm3
     ·unfold z01x12
      go_simp
      refine hK.out _ _ hHeld (fun hHeld=>?_)
      clear hK K
      refine qsp ?_
      refine wpAnyH_ready (rs:=[3,10,14]) (by kernel_rfl) (by simp) ?_
      refine AllReadyH.cons (o:=(z01x11 _)) rfl (fun K hK=>?_) (AllReadyH.cons (o:=(z01x14 _)) rfl (fun K hK=>?_) (AllReadyH.cons (o:=(z01x13 _)) rfl (fun K hK=>?_) AllReadyH.nil))
      ·unfold z01x11
       exact z01xm4
      ·unfold z01x14
       go_simp
       refine hK.out _ _ hHeld (fun hHeld=>?_)
       clear hK K
       refine qsp ?_
       refine qr2 3 14 (z01x11 _) (z01x13 _) rfl rfl (fun K hK=>?_) fun K hK=>?_
       ·unfold z01x11
        go_simp
        refine hK.out _ _ hHeld (fun hHeld=>?_)
        clear hK K
        refine qsp ?_
        refine qr1 14 (z01x13 _) rfl fun K hK=>?_
        unfold z01x13
        exact z01xm1
       ·unfold z01x13
        exact z01xm2
      ·unfold z01x13
       exact z01xm5
     ·unfold z01x13
      go_simp
      refine hK.out _ _ hHeld (fun hHeld=>?_)
      clear hK K
      refine qsp ?_
      refine qr2 3 9 (z01x11 _) (z01x12 _) rfl rfl (fun K hK=>?_) fun K hK=>?_
      ·unfold z01x11
       go_simp
       refine hK.out _ _ hHeld (fun hHeld=>?_)
       clear hK K
       refine qsp ?_
       refine qr1 9 (z01x12 _) rfl fun K hK=>?_
       unfold z01x12
       exact z01xm3
      ·unfold z01x12
       exact z01xm5
    case rest =>
     obtain ⟨y,rfl,rfl⟩:=hcut
     have o4:Only [fb] w2 (w2.drew.setCell ⟨fb,1,none⟩ (.int .i64 (kk:Int))):=(Only.refl [fb] w2).drew.setCell (by simp) _
     have hf4:(w2.drew.setCell ⟨fb,1,none⟩ (.int .i64 (kk:Int))).heap[fb]? = some (.cells #[.slice ao l.length c,.int .i64 (kk:Int)] 86 (0,0)):=heap_set (w:=w2.drew) HP2.out.hf 1 _
     have hpW:=HP2.out.set (s':={ s with off:=true }) o4 hf4 HP2.out.ho (fun b hb=>hb) HP2.out.vD HP2.out.lt ⟨rfl,rfl,rfl⟩
     have HFX:Hid (fb<X):=Lib.hid (by have:=HK5.out fb HP2.out.fD;have:=HX.out;simp at *;omega)
     have hiW:IsB (w2.drew.setCell ⟨fb,1,none⟩ (.int .i64 (kk:Int))) ao l.length c l:=by
       obtain ⟨a9,c9,e9,hi9⟩:=hpW.ho.isB
       cases e9
       exact hi9
     clear hc20 hc21 hz21
     go_upto_region 5 with (fail)
     generalize (w2.drew.setCell ⟨fb,1,none⟩ (.int .i64 (kk:Int)))=W at *
     have hcW:W.drew.cell? ⟨fb,1,none⟩=some (.int .i64 (kk:Int)):=by rw [cell_heap (show W.drew.heap[fb]? = _ from hf4)];rfl
     have HFV:Hid (W.drew.heap[fb]? = some (.cells #[.slice ao l.length c,.int .i64 (kk:Int)] 86 (0,0))):=Lib.hid hf4
     have HIV:Hid (IsB W.drew ao kk c (l.take kk)):=Lib.hid ((isB_take0 hiW hkl2).below (below_drew1 W))
     have HPV:Hid (Parts W.drew D d { s with off:=true } l kk mb cc fb b0 (.slice ao l.length c)):=Lib.hid (hpW.below (below_drew1 W))
     have HOV:Hid (Only [fb] w2 W.drew):=Lib.hid o4.drew
     have hkc:kk≤c:=Nat.le_trans hkl2 (own_cap hpW.ho)
     clear o4 hf4 hpW hiW
     refine wp_region_held_drew (S:=fun w'=>w'.cell? ⟨fb,1,none⟩=some (.int .i64 (kk:Int))) (by kernel_rfl) hcW (fun hHeld=>?_)
     refine qtl 0 (z01x21 _) rfl ?_
     refine qtl 1 (z01x22 _) rfl ?_
     refine qtl 2 (z01x23 _) rfl ?_
     refine qtl 3 (z01x24 _) rfl ?_
     refine qtl 5 (z01x25 _) rfl ?_
     refine qtl 6 (z01x26 _) rfl ?_
     refine qtl 7 (z01x27 _) rfl ?_
     refine qtl 8 (z01x28 _) rfl ?_
     generalize W.drew=V at *
     refine qr1 4 (z01x29 _) rfl fun K hK=>?_
     unfold z01x29
     have hy0:V.cell? ⟨fb,0,none⟩=some (.slice ao l.length c):=by rw [cell_heap HFV.out];rfl
     go_simp
     clear hy0
     refine hK.out _ _ hHeld (fun hHeld=>?_)
     clear hK K
     refine qsp ?_
     refine qr1 9 (z01x30 _) rfl fun K hK=>?_
     unfold z01x30
     go_simp
     refine hK.out _ _ hHeld (fun hHeld=>?_)
     clear hK K
     refine qsp ?_
     refine qr1 10 (z01x31 _) rfl fun K hK=>?_
     unfold z01x31
     go_simp
     refine (F.clone_any ao kk c (l.take kk) _ HIV.out (by omega)).mono ?_
     rintro e w5 ⟨v5,rfl,ho5,hb5⟩
     have HB5:=Lib.hid hb5
     have HO5:=Lib.hid ho5
     have hh5:=cell_later hb5 hHeld
     clear ho5 hb5
     go_wp2_with fail
     refine hK.out _ _ hh5 (fun hHeld=>?_)
     clear hK K
     refine qsp ?_
     clear hh5
     refine qr1 11 (z01x32 _) rfl fun K hK=>?_
     unfold z01x32
     go_simp
     refine hK.out _ _ hHeld (fun hHeld=>?_)
     clear hK K
     refine qsp ?_
     refine qr1 12 (z01x33 _) rfl fun K hK=>?_
     unfold z01x33
     go_simp
     refine hK.out _ _ hHeld (fun hHeld=>?_)
     clear hK K
     refine qsp ?_
     refine qr1 13 (z01x34 _) rfl fun K hK=>?_
     unfold z01x34
     have hf5:=heap_below3 HB5.out (lt_of_heap HFV.out) HFV.out
     have hy0:w5.cell? ⟨fb,0,none⟩=some (.slice ao l.length c):=by rw [cell_heap hf5];rfl
     have hz0:=free_heap hf5 0
     have HF5:=Lib.hid hf5
     obtain ⟨a5,c5,rfl,_⟩:=HO5.out.isB
     have hlk:(l.take kk).length=kk:=by rw [List.length_take];omega
     rw [hlk] at HO5
     clear hf5 hlk
     go_simp
     clear hy0 hz0
     refine hK.out _ _ ((cell_heap (heap_set HF5.out 0 _) 1).trans rfl) (fun hHeld=>?_)
     clear hK K
     refine qsp ?_
     refine qdn ?_
     go_wp2_with fail
     go_roundw
     case rel =>
       have o9:Only [fb] w5 (w5.setCell ⟨fb,0,none⟩ (.slice a5 kk c5)):=(Only.refl _ _).setCell (by simp) _
       have hp5:=HPV.out.below HB5.out
       have hv5:=HO5.out.mono (Nat.zero_le _)
       have hlt5:=own_ltB hv5
       have hp9:=hp5.set (D':=D++(Value.slice a5 kk c5).ownBlock.toList) (s':={ s with off:=true }) o9 (heap_set HF5.out 0 _) hv5 (fun b hb=>by simp [hb]) (fun j hj=>by simp [hj]) (fun b hb=>by
         simp only [List.mem_append,Option.mem_toList] at hb
         rcases hb with hb | hb
         ·exact hp5.lt b hb
         ·exact hlt5 b hb) ⟨rfl,rfl,rfl⟩
       have oall:Only [fb] w2 (w5.setCell ⟨fb,0,none⟩ (.slice a5 kk c5)):=(HOV.out.trans (Only.ofBelow HB5.out [fb])).trans o9
       have n2:mb≠fb:=block_ne HPV.out.hm HPV.out.hf (by simp)
       have n1:X≠fb:=by have:=HFX.out;omega
       have hXlt:X<w2.heap.size:=by rw [HSZ2.out];omega
       have hszV:w2.heap.size≤V.heap.size:=HOV.out.size
       refine .inr ⟨_,_,oall.block X hXlt (by simpa using n1),oall.block mb (lt_of_heap HP2.out.hm) (by simpa using n2),hp9,oall.mono (by simpa using HPV.out.fD),fun b hb=>?_,fun b hb=>by simp [hb]⟩
       simp only [List.mem_append,Option.mem_toList] at hb
       rcases hb with hb | hb
       · exact .inl hb
       · exact .inr (Nat.le_trans hszV (HO5.out.lt b hb).1)
     case measure =>
       have o9:Only [fb] w5 (w5.setCell ⟨fb,0,none⟩ (.slice a5 kk c5)):=(Only.refl _ _).setCell (by simp) _
       have oall:Only [fb] w2 (w5.setCell ⟨fb,0,none⟩ (.slice a5 kk c5)):=(HOV.out.trans (Only.ofBelow HB5.out [fb])).trans o9
       have n1:X≠fb:=by have:=HFX.out;omega
       have hXlt:X<w2.heap.size:=by rw [HSZ2.out];omega
       rw [leftI_block (oall.block X hXlt (by simpa using n1)),HLI.out.1,HLI.out.2]
       omega
   ·have hd:=HDN.out
    have hd2:=fun ty=>hd ty wr r1 r2
    have R3:=Lib.hid r3;have R4:=Lib.hid r4
    clear hd hn he r1 r2 r3 r4
    go_wp2_with fail
    go_end0
    exact ⟨D',rfl,by rw [HAP.out];exact (⟨R3.out.hd,R3.out.hm,R3.out.hb,R3.out.hf,R3.out.ho,R3.out.dD,R3.out.mD,R3.out.fD,R3.out.vD,R3.out.lt⟩:Parts wr D' d ⟨s.room,true,s.lives,some (l.take kk,kk)⟩ (l.take kk) kk mb cc fb b0 v').dk rfl,((Moves.of_only HO1.out).trans (Moves.of_only (Only.ofBelow HR2.out D))).trans R4.out⟩
end
end Go.Proofs.Ytnicaicjgaoolaa
namespace Go.Proofs.Ytnicaicjgaoolaa
open Go.RowKit

theorem info5:(Try.prog.info? 5).map (fun i=>(i.zero,i.size,i.bytes))=some (some (.int .u8 0),1,1):=by kernel_rfl

/-- the byte of place i, of eight, of a number -/
def byteAt (z:Int) (i:Nat):UInt8:=UInt8.ofNat ((BitVec.ofInt 64 z).toNat / 2 ^ (8*(7 - i)))
/-- the eight bytes of a number -/
def be8 (z:Int):List UInt8:=[byteAt z 0,byteAt z 1,byteAt z 2,byteAt z 3,byteAt z 4,byteAt z 5,byteAt z 6,byteAt z 7]

theorem byteAt_eq (z:Int) (k:Nat):IntKind.u64.wrap z / 2 ^ (8*(7 - k)) % 256=((byteAt z k).toNat:Int):=by
 have h1:IntKind.u64.wrap z=((BitVec.ofInt 64 z).toNat:Int):=by
  have h0:((BitVec.ofInt 64 z).toNat:Int)=z % 18446744073709551616:=by
   rw [BitVec.toNat_ofInt]
   have:(0:Int)≤z % ((2 ^ 64:Nat):Int):=Int.emod_nonneg _ (by decide)
   rw [Int.toNat_of_nonneg this];rfl
  rw [h0]
  simp [IntKind.wrap,IntKind.bits,IntKind.signed]
 rw [h1]
 unfold byteAt
 generalize (BitVec.ofInt 64 z).toNat=m
 rw [UInt8.toNat_ofNat']
 generalize 8*(7 - k)=e
 have:((2:Int) ^ e)=((2 ^ e:Nat):Int):=by rw [Int.natCast_pow];rfl
 rw [this]
 generalize (2:Nat) ^ e=q
 rw [Int.natCast_emod,Int.natCast_ediv]
 rfl
theorem byte_cells (z:Int) (k:Nat):#[Value.int .u8 (IntKind.u64.wrap z / 2 ^ (8*(7 - k)) % 256)]=([byteAt z k].map bv).toArray:=by
 rw [byteAt_eq];rfl
theorem be8_len (z:Int):(be8 z).length=8:=rfl
theorem be8_take (z:Int) (k:Nat) (h:k<8):(be8 z).take (k+1)=(be8 z).take k++[byteAt z k]:=by
 rcases k with _ | _ | _ | _ | _ | _ | _ | _ | k
 all_goals first | rfl | omega

set_option maxHeartbeats 400000 in
theorem i64_any (ao:Option Addr) (n c:Nat) (l:List UInt8) (z:Int) (w:World) (h:IsB w ao n c l) (hn:n≤70368744177664) :
  Calls Try.prog 69 #[.slice ao n c,.int .i64 z] w fun e w'=>∃v,e = .returned v∧OwnB w' w.heap.size 5 v (l++be8 z)∧Below w.heap.size w w':=by
 have hlen:=h.len
 have hb1:([]:List UInt8).length+n≤140737488355328:=by simp;omega
 have HB:=Lib.hid h;clear h
 go_enter Try.func69,Try.ntmps69
 go_wp2_with (at_builtin;refine wpList_append_bytes rfl _ _ 29 rfl w.heap.size 5 Try.underlying29 info5 _ [] rfl (OwnB.new _ _ _ [] _ rfl _ rfl (by exact Nat.le_refl _) 0 rfl (by decide)) _ _ _ _ rfl (HB.out.alloc _) hb1 (by simp) ?_;intro v' w2 hown' hgr hb2)
 have hb3:Below w.heap.size w w2:=((Below.refl _ _).alloc (Nat.le_refl _) _).trans hb2
 rw [List.nil_append] at hown'
 clear hgr hb2 HB
 have HL:=Lib.hid hlen;clear hlen
 go_loopw [5,6] (fun v i wr=>∃k:Nat,k≤8∧i = .int .i64 (7 - (k:Int))∧OwnB wr w.heap.size 5 v (l++(be8 z).take k)∧Below w.heap.size w wr) (fun _ i _=>(intOf i+1).toNat)
 case atStart=>exact ⟨0,by omega,rfl,by simpa using hown',hb3⟩
 case round =>
  obtain ⟨k,hk,rfl,hown,hbl⟩:=hrel
  by_cases hlt:k<8
  ·have hc1:(l++(be8 z).take k).length+1≤140737488355328:=by
    have:=HL.out
    rw [List.length_append,List.length_take];omega
   have hc2:=hbl.size
   go_wp2_with (at_builtin;refine wpList_append_bytes rfl _ _ 29 rfl w.heap.size 5 Try.underlying29 info5 _ _ rfl (hown.alloc _) _ _ _ [byteAt z k] rfl (isB_new _ [byteAt z k] _ (byte_cells z k) _ _ _ rfl 1 rfl _) hc1 (by simp;omega) ?_;intro v3 w3 hown3 hgr3 hb4;clear hown)
   go_roundw
   case rel=>exact ⟨k+1,by omega,by go_num,by rw [be8_take z k hlt,←List.append_assoc];exact hown3,(hbl.alloc hc2 _).trans hb4⟩
   case measure=>simp [intOf];omega
  ·go_wp2
   go_ret
   obtain rfl:k=8:=by omega
   exact ⟨_,rfl,by simpa [List.take_of_length_le,be8] using hown,hbl⟩

/-- APPEND of a text's bytes -/
theorem wpList_append_text {P:Program} {w:World} {ops:Array Oper} {rest:List Oper} {o:Oper} {a:Act} {Q:Exit→Act→World→Prop} (hgd:o.guard=none) (sl x:Operand) (t u:TypeId)
  (ho:o.op = .call { callee:=.builtin .append,args:=#[sl,x],argTypes:=#[t,u]})
  (base:Nat) (e:TypeId) (ht:P.underlying t=some (.slice e)) (hu:P.underlying u=some .string) (hi:(P.info? e).map (fun i=>(i.zero,i.size,i.bytes))=some (some (.int .u8 0),1,1))
  (v:Value) (l:List UInt8) (hs:a.eval sl=v) (hown:OwnB w base e v l) (s:ByteArray) (hx:a.eval x = .string s)
  (hbytes:l.length+s.size≤140737488355328) (hbase:base≤w.heap.size)
  (h:∀v' w',OwnB w' base e v' (l++s.data.toList)→w.grownBy w' v.ownBlock→Below base w w'→wpList P ops Q rest (a.put o.dst v') w'):wpList P ops Q (o::rest) a w:=by
 obtain ⟨i0,hi0,hz0,hz1,hz2⟩:=info_parts hi
 have hb:∀w',w.grownBy w' v.ownBlock→Below base w w':=fun w' hg=>(Below.refl base w).grown hg hbase (fun k hk=>(hown.lt k hk).1)
 refine Lib.wpList_append_own_string w hgd sl x t u ho base e i0 ht hu hi0 hz0 hz1 hz2 v _ _ hs hown s hx (by unfold maxLen;omega) hbytes hbase ?_
 intro v' w' g1 g2 _
 refine h v' w' ?_ g2 (hb w' g2)
 unfold OwnB
 rw [List.length_append,List.map_append]
 exact g1

/-- a text in bytes: its length, and it -/
def txt (s:ByteArray):List UInt8:=be8 (s.size:Int)++s.data.toList
theorem size_list (s:ByteArray):s.data.toList.length=s.size:=rfl
set_option maxHeartbeats 400000 in
theorem text_any (ao:Option Addr) (n c:Nat) (l:List UInt8) (s:ByteArray) (w:World) (h:IsB w ao n c l) (hn:n≤1099511627776) (hs:s.size≤1099511627776) :
  Calls Try.prog 66 #[.slice ao n c,.string s] w fun e w'=>∃v,e = .returned v∧OwnB w' w.heap.size 5 v (l++txt s)∧Below w.heap.size w w':=by
 have hlen:=h.len
 go_enter Try.func66,Try.ntmps66
 go_wp2_with fail
 refine (i64_any ao n c l _ w h (by omega)).mono ?_
 rintro e w1 ⟨v,rfl,hown,hb⟩
 have hl:(l++be8 (s.size:Int)).length+s.size≤140737488355328:=by rw [List.length_append,be8_len];omega
 have hz:=hb.size
 clear h hlen
 go_wp2_with (at_builtin;refine wpList_append_text rfl _ _ 29 9 rfl w.heap.size 5 Try.underlying29 Try.underlying9 info5 _ _ rfl hown _ rfl hl hz ?_;intro v3 w3 hown3 hgr3 hb4;clear hown)
 go_ret
 exact ⟨_,rfl,by simpa [txt,List.append_assoc] using hown3,hb.trans hb4⟩

def be8s (zs:List Int):List UInt8:=zs.flatMap be8
theorem be8s_len (zs:List Int):(be8s zs).length=8*zs.length:=by
 induction zs with
 | nil=>rfl
 | cons z zs ih=>simp only [be8s,List.flatMap_cons,List.length_append,be8_len,List.length_cons] at ih ⊢;omega
theorem take_oneI (l:List Int) (k:Nat) (h:k<l.length):l.take (k+1)=l.take k++[l.getD k 0]:=by
 rw [List.take_succ_eq_append_getElem h]
 simp [h]
theorem be8s_take (zs:List Int) (k:Nat) (h:k<zs.length):be8s (zs.take (k+1))=be8s (zs.take k)++be8 (zs.getD k 0):=by
 rw [take_oneI zs k h];simp [be8s]

set_option maxHeartbeats 400000 in
theorem pall_any (ao:Option Addr) (n c:Nat) (l:List UInt8) (ai:Option Addr) (m ci:Nat) (zs:List Int) (w:World) (h:IsB w ao n c l) (hi:IsI w ai m ci zs) (hn:n≤1099511627776) (hm:m≤1099511627776) :
  Calls Try.prog 51 #[.slice ao n c,.slice ai m ci] w fun e w'=>∃v,e = .returned v∧OwnB w' w.heap.size 5 v (l++be8s zs)∧Below w.heap.size w w':=by
 have hlen:=h.len
 have hb1:([]:List UInt8).length+n≤140737488355328:=by simp;omega
 have HB:=Lib.hid h;clear h
 have HI:=Lib.hid hi;clear hi
 go_enter Try.func51,Try.ntmps51
 go_wp2_with (at_builtin;refine wpList_append_bytes rfl _ _ 29 rfl w.heap.size 5 Try.underlying29 info5 _ [] rfl (OwnB.new _ _ _ [] _ rfl _ rfl (by exact Nat.le_refl _) 0 rfl (by decide)) _ _ _ _ rfl (HB.out.alloc _) hb1 (by simp) ?_;intro v' w2 hown' hgr hb2)
 have hb3:Below w.heap.size w w2:=((Below.refl _ _).alloc (Nat.le_refl _) _).trans hb2
 rw [List.nil_append] at hown'
 clear hgr hb2 HB
 have HL:=Lib.hid hlen;clear hlen
 go_loopw [5,13] (fun v i wr=>∃k:Nat,k≤m∧i = .int .i64 (k:Int)∧OwnB wr w.heap.size 5 v (l++be8s (zs.take k))∧Below w.heap.size w wr) (fun _ i _=>m - (intOf i).toNat)
 case atStart=>exact ⟨0,by omega,rfl,by simpa [be8s] using hown',hb3⟩
 case round =>
  obtain ⟨k,hk,rfl,hown,hbl⟩:=hrel
  have hzl:=HI.out.len
  by_cases hlt:k<m
  ·obtain ⟨ag,rfl⟩:∃ag:Nat×Nat,ai=some ⟨ag.1,ag.2,none⟩:=by
    rcases HI.out.at_ with h0 | ⟨b,off,h1,h2⟩
    ·omega
    ·exact ⟨(b,off),h1⟩
   have hcell:wr.cell? ⟨ag.1,ag.2+k,none⟩=some (.int .i64 (zs.getD k 0)):=by
    rcases HI.out.at_ with h0 | ⟨b,off,h1,h2⟩
    ·omega
    ·have:=cell_later hbl (h2 k hlt)
     cases h1
     exact this
   have htk:=be8s_take zs k (by omega)
   generalize zs.getD k 0=z at hcell htk
   have HT:=Lib.hid htk;clear htk
   have hc2:=hbl.size
   obtain ⟨a1,c1,rfl,hb1⟩:=hown.isB
   have hll:(l++be8s (zs.take k)).length≤70368744177664:=by
    have:=HL.out
    rw [List.length_append,be8s_len,List.length_take];omega
   generalize (l++be8s (zs.take k)).length=nn at hown hb1 hll
   have HW:=Lib.hid hown;clear hown
   have HB1:=Lib.hid hb1;clear hb1 hzl
   go_wp2_with fail
   refine (i64_any _ _ _ _ _ _ HB1.out hll).mono ?_
   rintro e w3 ⟨v3,rfl,hown3,hb3⟩
   go_wp2_with fail
   go_roundw
   case rel=>exact ⟨k+1,by omega,by go_num,by rw [HT.out,←List.append_assoc];exact hown3.mono hc2,hbl.trans (hb3.mono hc2)⟩
   case measure=>simp [intOf];omega
  ·go_wp2
   go_ret
   obtain rfl:k=m:=by omega
   rw [List.take_of_length_le (by omega)] at hown
   exact ⟨_,rfl,hown,hbl⟩
end Go.Proofs.Ytnicaicjgaoolaa
namespace Go.Proofs.Ytnicaicjgaoolaa
set_option maxRecDepth 20000
open Go.RowKit

/-- behind the pointer to block a lies a reader that has the bytes l left, bad or not -/
structure IsR (w:World) (a:Nat) (T:Nat→Prop) (l:List UInt8) (bad:Bool):Prop where
 row:∃ao n c,w.heap[a]? = some (.cells #[.slice ao n c,.bool bad] 119 (0,0))∧IsB w ao n c l∧n≤c∧(∀p,ao=some p→T p.block)
 ne:¬T a

variable {T:Nat→Prop}

theorem isB_only {w w':World} {ao:Option Addr} {n c a:Nat} {l:List UInt8} (h:IsB w ao n c l) (ho:Only [a] w w') (hne:∀p,ao=some p→p.block≠a):IsB w' ao n c l:=by
 obtain ⟨h1,h2,h3⟩:=h
 refine ⟨h1,h2,?_⟩
 rcases h3 with h3 | ⟨b,off,h4,h5⟩
 ·exact .inl h3
 ·exact .inr ⟨b,off,h4,fun i hi=>ho.cell (h5 i hi) (by simpa using hne _ h4)⟩
theorem isB_none {w:World} {b off:Nat} (c:Nat):IsB w (some ⟨b,off,none⟩) 0 c []:=⟨rfl,(fun e=>by cases e),.inl rfl⟩
theorem isR_set {w:World} {a:Nat} {x:Value} {bad:Bool} (h1:w.heap[a]? = some (.cells #[x,.bool bad] 119 (0,0))) {ao:Option Addr} {n c:Nat} {l:List UInt8} (h2:IsB w ao n c l) (h3:n≤c) (h4:∀p,ao=some p→T p.block) (hne:¬T a) :
  IsR (w.setCell ⟨a,0,none⟩ (.slice ao n c)) a T l bad:=by
 have ho:Only [a] w (w.setCell ⟨a,0,none⟩ (.slice ao n c)):=(Only.refl [a] w).setCell (by simp) _
 exact ⟨⟨ao,n,c,heap_set h1 0 _,isB_only h2 ho (fun p hp e=>hne (e ▸ h4 p hp)),h3,h4⟩,hne⟩

set_option maxHeartbeats 400000 in
theorem spoil_any (a:Nat) (l:List UInt8) (bad:Bool) (w:World) (h:IsR w a T l bad) :
  Calls Try.prog 82 #[.pointer (some ⟨a,0,none⟩)] w fun e w'=>e = .returned (.tuple #[])∧IsR w' a T [] true∧Only [a] w w':=by
 obtain ⟨⟨ao,n,c,h1,h2,h3,h4⟩,hne⟩:=h
 have hc0:w.cell? ⟨a,0,none⟩=some (.slice ao n c):=by rw [cell_heap h1];rfl
 have hc1:w.cell? ⟨a,1,none⟩=some (.bool bad):=by rw [cell_heap h1];rfl
 have hf0:=free_heap h1 0
 have hf1:=free_heap h1 1
 have HR:=Lib.hid h1
 clear h1 h2 h4
 go_enter Try.func82,Try.ntmps82
 go_wp2_with fail
 go_end0
 refine ⟨rfl,⟨⟨none,0,0,?_,isB_nil _,Nat.le_refl _,by simp⟩,hne⟩,?_⟩
 ·exact heap_set (heap_set HR.out 0 _) 1 _
 ·exact ((Only.refl [a] w).setCell (by simp) _).setCell (by simp) _

/-- bytes as a text -/
def strB (l:List UInt8):ByteArray:=⟨l.toArray⟩
theorem conv_any (w:World) (ao:Option Addr) (n c:Nat) (l:List UInt8) (h:IsB w ao n c l):(convert 29 9 (.slice ao n c)).run Try.prog w = .ok (.string (strB l)) w:=by
 obtain ⟨h1,h2,h3⟩:=h
 cases ao with
 | none =>
  obtain ⟨rfl,rfl⟩:=h2 rfl
  obtain rfl:=List.length_eq_zero_iff.1 h1
  rw [run_convert_bytes_nil w 29 5 Try.underlying29 Try.underlying5 0 0 9 Try.underlying9]
  rfl
 | some p =>
  rcases h3 with h3 | ⟨b,off,h4,h5⟩
  ·subst h3
   obtain rfl:=List.length_eq_zero_iff.1 h1
   rw [run_convert_bytes_string w 29 9 5 _ 0 c Try.underlying29 Try.underlying5 Try.underlying9,run_bytesToString w p 0 c [] (run_loadCells_list w p [] (by simp))]
   rfl
  ·cases h4
   rw [run_convert_bytes_arg w 29 5 Try.underlying29 Try.underlying5 b off n c (l.map fun x=>(x.toNat:Int)) (by simpa using h1) (fun i hi=>by rw [h5 i hi];simp [h1,hi]) 9 Try.underlying9]
   simp only [strOfNums,strB,List.map_map]
   congr 4
   rw [List.map_congr_left (g:=id)]
   ·simp
   ·intro x _;simp

/-- one byte behind a number's others -/
def pushN (v:Nat) (x:UInt8):Nat:=v*256+x.toNat
def accN (l:List UInt8):Nat:=l.foldl pushN 0
theorem accN_one (l:List UInt8) (x:UInt8):accN (l++[x])=accN l*256+x.toNat:=by simp [accN,pushN]
theorem accN_lt (l:List UInt8):accN l<256 ^ l.length:=by
 have key:∀(l:List UInt8) (v n:Nat),v<256 ^ n→l.foldl pushN v<256 ^ (n+l.length):=by
  intro l
  induction l with
  | nil=>intro v n h;exact h
  | cons x l ih =>
   intro v n h
   have hx:=x.toNat_lt
   have:=ih (pushN v x) (n+1) (by unfold pushN;rw [Nat.pow_succ];omega)
   rw [List.length_cons,show n+(l.length+1)=n+1+l.length by omega]
   exact this
 have:=key l 0 0 (by simp)
 rwa [Nat.zero_add] at this
theorem accN_lt8 (l:List UInt8) (h:l.length<8):accN l<72057594037927936:=Nat.lt_of_lt_of_le (accN_lt l) (Nat.le_trans (Nat.pow_le_pow_right (by decide) (show l.length≤7 by omega)) (by decide))
/-- the number of eight bytes -/
def val8 (l:List UInt8):Int:=wrap64 (accN (l.take 8):Int)
theorem wrap_u64_of_lt (v:Nat) (h:v<18446744073709551616):IntKind.u64.wrap (v:Int)=(v:Int):=by
 have:IntKind.u64.wrap (v:Int)=(v:Int) % 18446744073709551616:=by simp [IntKind.wrap,IntKind.bits,IntKind.signed]
 rw [this];omega
theorem step_walk (v:Nat) (x:UInt8) (h:v<72057594037927936):bits .or .u64 (IntKind.u64.wrap ((v:Int)*256)) (IntKind.u64.wrap (x.toNat:Int))=((v*256+x.toNat:Nat):Int):=by
 have hx:=x.toNat_lt
 have e:(v:Int)*256=((v*256:Nat):Int):=by rw [Int.natCast_mul];rfl
 rw [e,wrap_u64_of_lt _ (by omega),wrap_u64_of_lt _ (by omega),u64_or_nat _ _ (by omega) (by omega)]
 have e2:=Nat.shiftLeft_add_eq_or_of_lt (i:=8) (b:=x.toNat) (by omega) v
 rw [Nat.shiftLeft_eq,show 2 ^ 8=256 from rfl] at e2
 rw [←e2]
theorem take_one (l:List UInt8) (k:Nat) (h:k<l.length):l.take (k+1)=l.take k++[l.getD k 0]:=by
 rw [List.take_succ_eq_append_getElem h]
 simp [h]
theorem u64_eq {a b:Int} (h:a=b):Value.int .u64 a=Value.int .u64 b:=by rw [h]
theorem ret_i64 {a b:Int} (h:a=b):Ending.returned (Value.int .i64 a) = .returned (Value.int .i64 b):=by rw [h]

set_option maxHeartbeats 400000 in
theorem end_any (a:Nat) (l:List UInt8) (bad:Bool) (w:World) (h:IsR w a T l bad) :
  Calls Try.prog 72 #[.pointer (some ⟨a,0,none⟩)] w fun e w'=>e = .returned (.bool (!bad&&l.isEmpty))∧w=w':=by
 obtain ⟨⟨ao,n,c,h1,h2,h3,h4⟩,hne⟩:=h
 have hc0:w.cell? ⟨a,0,none⟩=some (.slice ao n c):=by rw [cell_heap h1];rfl
 have hc1:w.cell? ⟨a,1,none⟩=some (.bool bad):=by rw [cell_heap h1];rfl
 have he:l.isEmpty=((n:Int)==0):=by
  have:=h2.len
  subst this
  cases l with
  | nil=>rfl
  | cons x l =>
   rw [List.length_cons]
   have:¬(((l.length+1:Nat):Int)=0):=by omega
   simp only [List.isEmpty_cons]
   exact (beq_eq_false_iff_ne.2 this).symm
 rw [he]
 clear h1 h2 h4 he
 cases bad
 all_goals
  go_enter Try.func72,Try.ntmps72
  go_wp2
  go_ret
  exact ⟨rfl,rfl⟩

set_option maxHeartbeats 400000 in
theorem rdI64_none (a:Nat) (l:List UInt8) (bad:Bool) (w:World) (h:IsR w a T l bad) (hl:l.length<8) :
  Calls Try.prog 71 #[.pointer (some ⟨a,0,none⟩)] w fun e w'=>e = .returned (.int .i64 0)∧IsR w' a T [] true∧Only [a] w w':=by
 have h':=h
 obtain ⟨⟨ao,n,c,h1,h2,h3,h4⟩,hne⟩:=h
 have hc0:w.cell? ⟨a,0,none⟩=some (.slice ao n c):=by rw [cell_heap h1];rfl
 have hn:n<8:=by have:=h2.len;omega
 clear h1 h2 h4 hl
 have HR:=Lib.hid h';clear h'
 go_enter Try.func71,Try.ntmps71
 go_wp2_with fail
 refine (spoil_any a l bad _ HR.out).mono ?_
 rintro e w1 ⟨rfl,hr,ho⟩
 go_wp2
 go_ret
 exact ⟨rfl,hr,ho⟩

set_option maxHeartbeats 400000 in
theorem rdI64_some (a:Nat) (l:List UInt8) (bad:Bool) (w:World) (h:IsR w a T l bad) (hl:8≤l.length) (hm:l.length≤140737488355328) :
  Calls Try.prog 71 #[.pointer (some ⟨a,0,none⟩)] w fun e w'=>e = .returned (.int .i64 (val8 l))∧IsR w' a T (l.drop 8) bad∧Only [a] w w':=by
 obtain ⟨⟨ao,n,c,h1,h2,h3,h4⟩,hne⟩:=h
 have hc0:w.cell? ⟨a,0,none⟩=some (.slice ao n c):=by rw [cell_heap h1];rfl
 have hf0:=free_heap h1 0
 have hlen:=h2.len
 obtain ⟨b,off,rfl,hcb⟩:∃b off,ao=some ⟨b,off,none⟩∧∀i,i<n→w.cell? ⟨b,off+i,none⟩=some (.int .u8 ((l.getD i 0).toNat:Int)):=by
  rcases h2.at_ with h0 | h0
  ·omega
  ·exact h0
 have hn8:8≤n:=by omega
 have hn9:n≤140737488355328:=by omega
 have hc8:8≤c:=by omega
 have HL:=Lib.hid hlen
 have HR:=Lib.hid h1
 have HB:=Lib.hid h2
 have HC:=Lib.hid hcb
 have hba:T b:=h4 _ rfl
 clear h1 h2 h4 hlen hl hm hcb
 go_enter Try.func71,Try.ntmps71
 go_wp2_with fail
 go_loop [3,20] (fun v i=>∃k:Nat,k≤8∧i = .int .i64 (k:Int)∧v = .int .u64 ((accN (l.take k):Nat):Int)) (fun _ i=>8 - (intOf i).toNat)
 case atStart=>exact ⟨0,by omega,rfl,rfl⟩
 case round =>
  obtain ⟨k,hk,rfl,rfl⟩:=hrel
  by_cases hlt:k<8
  ·have hcell:=HC.out k (by omega)
   have hone:=take_one l k (by rw [HL.out];omega)
   have hlt8:=accN_lt8 (l.take k) (by rw [List.length_take];omega)
   generalize l.getD k 0=x at hcell hone
   have HO:=Lib.hid hone;clear hone
   have HV:=Lib.hid hlt8;clear hlt8
   go_wp2_with fail
   go_round
   case rel=>exact ⟨k+1,by omega,by go_num,u64_eq (by rw [step_walk _ _ HV.out,HO.out,accN_one])⟩
   case measure=>simp [intOf];omega
  ·obtain rfl:k=8:=by omega
   generalize hv:accN (l.take 8)=v
   have HV:=Lib.hid hv;clear hv
   by_cases hcc:c=8
   ·subst hcc
    obtain rfl:n=8:=by omega
    go_wp2_with fail
    go_ret
    refine ⟨ret_i64 (by unfold val8;rw [HV.out]),?_,(Only.refl [a] w).setCell (by simp) _⟩
    rw [List.drop_of_length_le (by rw [HL.out];exact Nat.le_refl _)]
    exact isR_set HR.out (isB_none 0) (Nat.le_refl _) (fun p hp=>by cases hp;exact hba) hne
   ·have hcx:¬(8=c):=by omega
    go_wp2_with fail
    go_ret
    refine ⟨ret_i64 (by unfold val8;rw [HV.out]),?_,(Only.refl [a] w).setCell (by simp) _⟩
    exact isR_set HR.out (isB_drop HB.out 8 _ hn8) (by omega) (fun p hp=>by cases hp;exact hba) hne

/-- what a reader answers, what it has left, and whether it is bad -/
structure Rd (α:Type) where
 v:α
 l:List UInt8
 bad:Bool
def rI (l:List UInt8) (bad:Bool):Rd Int:=if l.length<8 then ⟨0,[],true⟩ else ⟨val8 l,l.drop 8,bad⟩
def rC (l:List UInt8) (bad:Bool) (most:Int):Rd Int:=if (rI l bad).v<0∨most<(rI l bad).v then ⟨0,[],true⟩ else rI l bad
def rT (l:List UInt8) (bad:Bool) (most:Int):Rd ByteArray :=
 if ((rC l bad most).l.length:Int)<(rC l bad most).v then ⟨⟨#[]⟩,[],true⟩
 else ⟨strB ((rC l bad most).l.take (rC l bad most).v.toNat),(rC l bad most).l.drop (rC l bad most).v.toNat,(rC l bad most).bad⟩
theorem rI_len (l:List UInt8) (bad:Bool):(rI l bad).l.length≤l.length:=by
 unfold rI;split
 ·simp
 ·simp
theorem rC_len (l:List UInt8) (bad:Bool) (most:Int):(rC l bad most).l.length≤l.length:=by
 unfold rC;split
 ·simp
 ·exact rI_len l bad
theorem rC_pos (l:List UInt8) (bad:Bool) (most:Int):0≤(rC l bad most).v:=by
 unfold rC;split
 ·simp
 ·omega
theorem rdI64_any (a:Nat) (l:List UInt8) (bad:Bool) (w:World) (h:IsR w a T l bad) (hm:l.length≤140737488355328) :
  Calls Try.prog 71 #[.pointer (some ⟨a,0,none⟩)] w fun e w'=>e = .returned (.int .i64 (rI l bad).v)∧IsR w' a T (rI l bad).l (rI l bad).bad∧Only [a] w w':=by
 unfold rI
 by_cases hl:l.length<8
 ·rw [if_pos hl];exact rdI64_none a l bad w h hl
 ·rw [if_neg hl];exact rdI64_some a l bad w h (by omega) hm

set_option maxHeartbeats 400000 in
theorem rdCount_any (a:Nat) (l:List UInt8) (bad:Bool) (most:Int) (w:World) (h:IsR w a T l bad) (hm:l.length≤140737488355328) :
  Calls Try.prog 88 #[.pointer (some ⟨a,0,none⟩),.int .i64 most] w fun e w'=>e = .returned (.int .i64 (rC l bad most).v)∧IsR w' a T (rC l bad most).l (rC l bad most).bad∧Only [a] w w':=by
 unfold rC
 have hk:=rdI64_any a l bad w h hm
 clear h hm
 generalize rI l bad=r at hk
 obtain ⟨v,l1,bad1⟩:=r
 simp only at hk ⊢
 have HK:=Lib.hid hk;clear hk
 by_cases h0:v<0
 ·rw [if_pos (.inl h0)]
  go_enter Try.func88,Try.ntmps88
  go_wp2_with fail
  refine HK.out.mono ?_
  rintro e w1 ⟨rfl,hr,ho⟩
  go_wp2_with fail
  refine (spoil_any a _ _ _ hr).mono ?_
  rintro e w2 ⟨rfl,hr2,ho2⟩
  clear hr
  go_wp2
  go_ret
  exact ⟨rfl,hr2,ho.trans ho2⟩
 ·by_cases h1:most<v
  ·rw [if_pos (.inr h1)]
   go_enter Try.func88,Try.ntmps88
   go_wp2_with fail
   refine HK.out.mono ?_
   rintro e w1 ⟨rfl,hr,ho⟩
   go_wp2_with fail
   refine (spoil_any a _ _ _ hr).mono ?_
   rintro e w2 ⟨rfl,hr2,ho2⟩
   clear hr
   go_wp2
   go_ret
   exact ⟨rfl,hr2,ho.trans ho2⟩
  ·rw [if_neg (by omega)]
   go_enter Try.func88,Try.ntmps88
   go_wp2_with fail
   refine HK.out.mono ?_
   rintro e w1 ⟨rfl,hr,ho⟩
   go_wp2
   go_ret
   exact ⟨rfl,hr,ho⟩

theorem add_block (p:Addr) (k:Nat):(p.add k).block=p.block:=by unfold Addr.add;split<;>simp
theorem isB_from {w:World} {p:Addr} {n c:Nat} {l:List UInt8} (h:IsB w (some p) n c l) (k c':Nat) (hk:k≤n):IsB w (some (p.add k)) (n - k) c' (l.drop k):=by
 rcases h.at_ with h3 | ⟨b',off',h4,h5⟩
 ·refine ⟨by rw [List.length_drop,h.len],(fun e=>by cases e),.inl (by omega)⟩
 ·cases h4
  rw [Addr.add_lit]
  exact isB_drop h k c' hk
set_option maxHeartbeats 400000 in
theorem rdText_any (a:Nat) (l:List UInt8) (bad:Bool) (most:Int) (w:World) (h:IsR w a T l bad) (hm:l.length≤140737488355328) :
  Calls Try.prog 78 #[.pointer (some ⟨a,0,none⟩),.int .i64 most] w fun e w'=>e = .returned (.string (rT l bad most).v)∧IsR w' a T (rT l bad most).l (rT l bad most).bad∧Only [a] w w':=by
 unfold rT
 have hk:=rdCount_any a l bad most w h hm
 have hp:=rC_pos l bad most
 have hlen:=rC_len l bad most
 generalize rC l bad most=r at hk hp hlen
 obtain ⟨v,l1,bad1⟩:=r
 simp only at hk hp hlen ⊢
 have hm1:l1.length≤140737488355328:=by omega
 clear h hm hlen
 have HK:=Lib.hid hk;clear hk
 obtain ⟨k,rfl⟩:=Int.eq_ofNat_of_zero_le hp
 by_cases h0:l1.length<k
 ·rw [if_pos (by omega)]
  go_enter Try.func78,Try.ntmps78
  go_wp2_with fail
  refine HK.out.mono ?_
  rintro e w1 ⟨rfl,hr,ho⟩
  have hr':=hr
  obtain ⟨⟨ao,n,c,h1,h2,h3,h4⟩,hne⟩:=hr'
  have hc0:w1.cell? ⟨a,0,none⟩=some (.slice ao n c):=by rw [cell_heap h1];rfl
  have hn:n<k:=by have:=h2.len;omega
  clear h1 h2 h4 h0
  have HR:=Lib.hid hr;clear hr
  go_wp2_with fail
  refine (spoil_any a _ _ _ HR.out).mono ?_
  rintro e w2 ⟨rfl,hr2,ho2⟩
  go_wp2
  go_ret
  exact ⟨rfl,hr2,ho.trans ho2⟩
 ·rw [if_neg (by omega)]
  rw [Int.toNat_natCast]
  go_enter Try.func78,Try.ntmps78
  go_wp2_with fail
  refine HK.out.mono ?_
  rintro e w1 ⟨rfl,hr,ho⟩
  obtain ⟨⟨ao,n,c,h1,h2,h3,h4⟩,hne⟩:=hr
  have hc0:w1.cell? ⟨a,0,none⟩=some (.slice ao n c):=by rw [cell_heap h1];rfl
  have hf0:=free_heap h1 0
  have hlen:=h2.len
  have hn:k≤n:=by omega
  have hconv:=conv_any w1 _ _ _ _ (isB_take h2 k hn)
  generalize hs:strB (l1.take k)=s at hconv
  have HS:=Lib.hid hs;clear hs
  have HR:=Lib.hid h1;clear h1
  have HB:=Lib.hid h2;clear h2
  have H4:=Lib.hid h4;clear h4
  have HL:=Lib.hid hlen
  have hn9:n≤140737488355328:=by omega
  clear hlen h0 hm1
  cases ao with
  | none =>
   obtain ⟨rfl,rfl⟩:=HB.out.nil rfl
   obtain rfl:k=0:=by omega
   go_wp2_with fail
   go_ret
   exact ⟨by rw [HS.out];rfl,isR_set HR.out HB.out (Nat.le_refl _) H4.out hne,ho.trans ((Only.refl [a] _).setCell (by simp) _)⟩
  | some p =>
   obtain ⟨b,off,ins⟩:=p
   by_cases hkc:k=c
   ·subst hkc
    obtain rfl:n=k:=by omega
    go_wp2_with fail
    go_ret
    refine ⟨by rw [HS.out];rfl,?_,ho.trans ((Only.refl [a] _).setCell (by simp) _)⟩
    rw [List.drop_of_length_le (by rw [HL.out];exact Nat.le_refl _)]
    exact isR_set HR.out (isB_zero 0) (Nat.le_refl _) (fun p hp=>by cases hp;exact H4.out _ rfl) hne
   ·go_wp2_with fail
    go_ret
    refine ⟨by rw [HS.out];rfl,?_,ho.trans ((Only.refl [a] _).setCell (by simp) _)⟩
    exact isR_set HR.out (isB_from HB.out k _ hn) (by omega) (fun p hp=>by cases hp;rw [add_block];exact H4.out _ rfl) hne
theorem own_more {w:World} {base:Nat} {e:TypeId} {v:Value} {l:List UInt8} (h:OwnB w base e v l) :
  ∃ao c,v = .slice ao l.length c∧IsB w ao l.length c l∧l.length≤c∧(∀p,ao=some p→base≤p.block∧p.block<w.heap.size):=by
 obtain ⟨ao,c,rfl,h1⟩:=h.isB
 refine ⟨ao,c,rfl,h1,?_,?_⟩
 ·rcases h.2 with ⟨h2,h3⟩ | ⟨g,cap,cur,hv,hg,hh,hn,hm,hs,ht⟩
  ·have:l.length=0:=by simpa using h3
   omega
  ·cases hv
   exact hn
 ·intro p hp
  subst hp
  exact h.lt p.block (by
   rcases h.2 with ⟨h2,h3⟩ | ⟨g,cap,cur,hv,hg,hh,hn,hm,hs,ht⟩
   ·cases h2
   ·cases hv;rfl)

set_option maxHeartbeats 400000 in
theorem read_any (ao:Option Addr) (n c:Nat) (l:List UInt8) (w:World) (h:IsB w ao n c l) (hn:n≤1099511627776) :
  Calls Try.prog 64 #[.slice ao n c] w fun e w'=>∃a,e = .returned (.pointer (some ⟨a,0,none⟩))∧IsR w' a (fun b=>w.heap.size≤b∧b<a) l false∧w.heap.size≤a∧a<w'.heap.size∧Below w.heap.size w w':=by
 have hlen:=h.len
 have hb1:([]:List UInt8).length+n≤140737488355328:=by simp;omega
 have HB:=Lib.hid h;clear h
 go_enter Try.func64,Try.ntmps64
 go_wp2_with (at_builtin;refine wpList_append_bytes rfl _ _ 29 rfl w.heap.size 5 Try.underlying29 info5 _ [] rfl (OwnB.new _ _ _ [] _ rfl _ rfl (by exact Nat.le_refl _) 0 rfl (by decide)) _ _ _ _ rfl (HB.out.alloc _) hb1 (by simp) ?_;intro v' w2 hown' hgr hb2;clear hgr;rw [List.nil_append] at hown';obtain ⟨a1,c1,hv1,hbs,hc1,hn1⟩:=own_more hown';subst hv1;clear hown';rw [hlen] at hbs hc1)
 have hz:=hb2.size
 go_ret
 refine ⟨w2.heap.size,rfl,⟨⟨_,_,_,heap_new _ _,hbs.alloc _,hc1,fun p hp=>hn1 p hp⟩,fun h=>Nat.lt_irrefl _ h.2⟩,by simp at hz;omega,by simp,(((Below.refl _ _).alloc (Nat.le_refl _) _).trans hb2).alloc (by simp at hz;omega) _⟩
end Go.Proofs.Ytnicaicjgaoolaa
namespace Go.Proofs.Ytnicaicjgaoolaa
open Go.RowKit

theorem byteAt_nat (z:Int) (i:Nat):(byteAt z i).toNat=(BitVec.ofInt 64 z).toNat / 2 ^ (8*(7 - i)) % 256:=by
 unfold byteAt
 rw [UInt8.toNat_ofNat']
theorem accN_be8 (z:Int):accN (be8 z)=(BitVec.ofInt 64 z).toNat:=by
 have h:=(BitVec.ofInt 64 z).isLt
 simp only [accN,be8,List.foldl_cons,List.foldl_nil,pushN,byteAt_nat]
 generalize (BitVec.ofInt 64 z).toNat=M at *
 simp only [Nat.reduceMul,Nat.reduceSub,Nat.reducePow]
 omega
theorem toNat_ofInt64 (z:Int):((BitVec.ofInt 64 z).toNat:Int)=z % 18446744073709551616:=by
 rw [BitVec.toNat_ofInt]
 have:(0:Int)≤z % ((2 ^ 64:Nat):Int):=Int.emod_nonneg _ (by decide)
 rw [Int.toNat_of_nonneg this];rfl
theorem val8_be8 (z:Int) (rest:List UInt8) (h1 : -9223372036854775808≤z) (h2:z≤9223372036854775807):val8 (be8 z++rest)=z:=by
 unfold val8
 have h3:(be8 z++rest).take 8=be8 z:=by simp [be8]
 rw [h3,accN_be8,toNat_ofInt64]
 unfold wrap64
 omega
theorem strB_size (l:List UInt8):(strB l).size=l.length:=by simp [strB,ByteArray.size]
end Go.Proofs.Ytnicaicjgaoolaa
