/-
  What the proof of the law leans on: contracts of the program's functions, one behind another. No condition.
-/
import Derived.Test.YtnicaicjgaoolaaT16
import Derived.Test.YtnicaicjgaoolaaT5
import Derived.Test.YtnicaicjgaoolaaT8
import Derived.Test.YtnicaicjgaoolaaT15
import Derived.Test.YtnicaicjgaoolaaT3
import Derived.Test.YtnicaicjgaoolaaT11
set_option linter.unusedVariables false
set_option linter.unusedSimpArgs false
namespace Go.Proofs.Ytnicaicjgaoolaa
open Go.RowKit Go.ChangeMaps Go.WideMaps Go.Maps
set_option maxRecDepth 20000
/-- a file that is frames, and of one more frame a beginning -/
structure Torn (k:Dk) (ls:List (List UInt8)):Prop where
 ex:(k.file=none∧ls=[])∨∃sf r j,k.file=some (F.frames ls++(F.frameF r).take j,sf)∧r.length≤20000∧j<12+r.length∧sf≤(F.frames ls++(F.frameF r).take j).length
def cleanD (k:Dk) (ls:List (List UInt8)):Dk:=match k.file with | none=>k | some (_,sf)=>{ k with file:=some (F.frames ls,min sf (F.frames ls).length)}
theorem openW_any {w:World} {D:List Nat} {d:Nat} {k:Dk} {ls:List (List UInt8)} (h:IsDk w D d k) (ho:k.off=false) (ht:Torn k ls) (hr:∀r∈ls,r.length≤20000) (hl:k.total≤1048576) :
  Calls Try.prog 39 #[.pointer (some ⟨d,0,none⟩)] w fun e w'=>OpenQ w w' D d e ls (cleanD k ls):=by
 rcases ht.ex with ⟨hf,rfl⟩ | ⟨sf,r,j,hf,hrl,hj,hsf⟩
 ·have e:cleanD k []=k:=by unfold cleanD;rw [hf]
  rw [e]
  exact (open_none h ho hf).mono fun e w' h=>h.q
 ·have e:cleanD k ls={ k with file:=some (F.frames ls,min sf (F.frames ls).length)}:=by unfold cleanD;rw [hf]
  rw [e]
  have hs:=F.scanAll_torn ls r j hr hrl hj
  have hl2:(F.frames ls++(F.frameF r).take j).length≤1048576:=by
   unfold Dk.total at hl;rw [hf] at hl;exact hl
  have hfl:(F.frames ls).length≤1048576:=by rw [List.length_append] at hl2;omega
  have hmany:ls.length≤1000000:=by
   have:12*ls.length≤(F.frames ls).length:=by
    exact frames_many ls
   omega
  by_cases h0:j=0
  ·subst h0
   rw [if_pos rfl] at hs
   rw [List.take_zero,List.append_nil] at hs hf hsf hl2
   have h1:=open_whole h ho hf hl2 (by rw [hs];simp) (by rw [hs]) (by rw [hs];exact hr) (by rw [hs];exact hfl) (by rw [hs];exact hmany)
   rw [hs] at h1
   have e2:({ k with file:=some (F.frames ls,min sf (F.frames ls).length)}:Dk)=k:=by
    rw [Nat.min_eq_left hsf,←hf]
   rw [e2]
   exact h1.mono fun e w' h=>h.q
  ·rw [if_neg h0] at hs
   have hjl:((F.frameF r).take j).length=j:=by rw [List.length_take,F.frameF_len];omega
   have h1:=open_cut h ho hf hl2 hsf (by rw [hs];simp) (by rw [hs,List.length_append,hjl];simp;omega) (by rw [hs];exact hr) (by rw [hs];exact hfl) (by rw [hs];exact hmany)
   rw [hs] at h1
   simp only [List.take_left] at h1
   exact h1
end Go.Proofs.Ytnicaicjgaoolaa
namespace Go.Proofs.Ytnicaicjgaoolaa
open Go.RowKit Go.ChangeMaps Go.WideMaps Go.Maps
set_option maxRecDepth 20000
section
variable (p:String)
def z0ix0:Oper:=⟨some 34,.move (.tmp 0),3,p,#[],none⟩
def z0ix1:Oper:=⟨some 35,.move (.tmp 1),3,p,#[],none⟩
def z0ix2:Oper:=⟨some 36,.move (.tmp 2),54,p,#[],none⟩
def z0ix3:Oper:=⟨some 37,.move (.tmp 8),63,p,#[],none⟩
def z0ix4:Oper:=⟨some 38,.move (.tmp 2),54,p,#[],none⟩
def z0ix5:Oper:=⟨some 40,.move (.tmp 1),3,p,#[],none⟩
def z0ix6:Oper:=⟨some 42,.move (.tmp 1),3,p,#[],none⟩
def z0ix7:Oper:=⟨some 44,.move (.tmp 1),3,p,#[],none⟩
def z0ix8:Oper:=⟨some 46,.move (.tmp 1),3,p,#[],none⟩
def z0ix9:Oper:=⟨some 41,.makeSlice 34 (.tmp 40) (.tmp 40),34,p,#[⟨6,.data⟩,⟨6,.data⟩],none⟩
def z0ix10:Oper:=⟨some 43,.makeSlice 27 (.tmp 42) (.tmp 42),27,p,#[⟨8,.data⟩,⟨8,.data⟩],none⟩
def z0ix11:Oper:=⟨some 45,.makeSlice 27 (.tmp 44) (.tmp 44),27,p,#[⟨10,.data⟩,⟨10,.data⟩],none⟩
def z0ix12:Oper:=⟨some 47,.makeSlice 64 (.tmp 46) (.tmp 46),64,p,#[⟨12,.data⟩,⟨12,.data⟩],none⟩
def z0ix13:Oper:=⟨some 48,.build 66 #[(0,.tmp 34),(1,.tmp 35),(2,.tmp 36),(3,.tmp 37),(4,.tmp 39),(7,Operand.const (Value.int IntKind.i64 (-1))),(12,.tmp 41),(13,.tmp 43),(14,.tmp 45),(17,.tmp 47)],66,p,#[⟨0,.data⟩,⟨1,.data⟩,⟨2,.data⟩,⟨3,.data⟩,⟨5,.data⟩,⟨7,.data⟩,⟨9,.data⟩,⟨11,.data⟩,⟨13,.data⟩],none⟩
def z0ix14:Oper:=⟨some 49,.box 66 (.tmp 48),39,p,#[⟨14,.data⟩],none⟩
def z0ix15:Oper:=⟨some 10,.assign (.tmp 49),39,p,#[⟨15,.data⟩,⟨5,.chain⟩,⟨0,.phase⟩,⟨1,.phase⟩,⟨2,.phase⟩,⟨3,.phase⟩,⟨4,.phase⟩,⟨5,.phase⟩,⟨6,.phase⟩,⟨7,.phase⟩,⟨8,.phase⟩,⟨9,.phase⟩,⟨10,.phase⟩,⟨11,.phase⟩,⟨12,.phase⟩,⟨13,.phase⟩,⟨14,.phase⟩,⟨15,.phase⟩],none⟩
end
attribute [go_sem,reducible] z0ix0 z0ix1 z0ix2 z0ix3 z0ix4 z0ix5 z0ix6 z0ix7 z0ix8 z0ix9 z0ix10 z0ix11 z0ix12 z0ix13 z0ix14 z0ix15
theorem z0ixm0 {p:Prop} (h:p:=by
 have hHeld:=HB4.out.bel
 refine qtv 14 (z0ix13 _) rfl (fun w hSw=>exec_build rfl _ (by rfl) (build66 own n d l k.lives gv gn gm gh w)) ?_
 refine qr1 15 (z0ix14 _) rfl fun K hK=>?_
 unfold z0ix14
 go_simp
 refine hK.out _ _ (HB4.out.bel.alloc HB4.out.siz _) (fun hHeld=>?_)
 clear hK K
 refine qsp ?_
 refine qtl 16 (z0ix15 _) rfl ?_
 refine qdn ?_
 clear hHeld
 go_wp2_with fail
 go_meet
 exact ⟨_,gv,gn,gm,gh,rfl,HFIN.out _ _ _ _ _ HB4.out⟩):p:=h
theorem z0ixm1 {p:Prop} (h:p:=by
 have hHeld:=HB3.out.bel
 refine qr1 13 (z0ix12 _) rfl fun K hK=>?_
 unfold z0ix12
 go_simp
 refine hK.out _ _ HB3.out.h'.bel (fun hHeld=>?_)
 clear hK K
 refine qsp ?_
 have HB4:=Lib.hid HB3.out.h'
 clear hHeld
 generalize V3.heap.size=gh at *
 generalize V3.alloc (oH n)=V4 at *
 exact z0ixm0):p:=h
theorem z0ixm2 {p:Prop} (h:p:=by
 have hHeld:=HB3.out.bel
 refine qr1 11 (z0ix11 _) rfl fun K hK=>?_
 unfold z0ix11
 go_simp
 refine hK.out _ _ HB3.out.m'.bel (fun hHeld=>?_)
 clear hK K
 refine qsp ?_
 have HB4:=Lib.hid HB3.out.m'
 clear hHeld
 generalize V3.heap.size=gm at *
 generalize V3.alloc (oN n)=V4 at *
 exact z0ixm0):p:=h
theorem z0ixm3 {p:Prop} (h:p:=by
 have hHeld:=HB3.out.bel
 refine qr1 9 (z0ix10 _) rfl fun K hK=>?_
 unfold z0ix10
 go_simp
 refine hK.out _ _ HB3.out.a'.bel (fun hHeld=>?_)
 clear hK K
 refine qsp ?_
 have HB4:=Lib.hid HB3.out.a'
 clear hHeld
 generalize V3.heap.size=gn at *
 generalize V3.alloc (oN n)=V4 at *
 exact z0ixm0):p:=h
theorem z0ixm4 {p:Prop} (h:p:=by
 have hHeld:=HB3.out.bel
 refine qr1 7 (z0ix9 _) rfl fun K hK=>?_
 unfold z0ix9
 go_simp
 refine hK.out _ _ HB3.out.v'.bel (fun hHeld=>?_)
 clear hK K
 refine qsp ?_
 have HB4:=Lib.hid HB3.out.v'
 clear hHeld
 generalize V3.heap.size=gv at *
 generalize V3.alloc (oV n)=V4 at *
 exact z0ixm0):p:=h
theorem z0ixm5 {p:Prop} (h:p:=by
 generalize V1.alloc (oN n)=V2 at *
 have hHeld:=HB2.out.bel
 refine qr2 7 13 (z0ix9 _) (z0ix12 _) rfl rfl (fun K hK=>?_) fun K hK=>?_
 ·unfold z0ix9
  go_simp
  refine hK.out _ _ HB2.out.v'.bel (fun hHeld=>?_)
  clear hK K
  refine qsp ?_
  have HB3:=Lib.hid HB2.out.v'
  clear hHeld
  generalize V2.heap.size=gv at *
  generalize V2.alloc (oV n)=V3 at *
  exact z0ixm1
 ·unfold z0ix12
  go_simp
  refine hK.out _ _ HB2.out.h'.bel (fun hHeld=>?_)
  clear hK K
  refine qsp ?_
  have HB3:=Lib.hid HB2.out.h'
  clear hHeld
  generalize V2.heap.size=gh at *
  generalize V2.alloc (oH n)=V3 at *
  exact z0ixm4):p:=h
theorem z0ixm6 {p:Prop} (h:p:=by
 have hHeld:=HB2.out.bel
 refine qr2 11 13 (z0ix11 _) (z0ix12 _) rfl rfl (fun K hK=>?_) fun K hK=>?_
 ·unfold z0ix11
  go_simp
  refine hK.out _ _ HB2.out.m'.bel (fun hHeld=>?_)
  clear hK K
  refine qsp ?_
  have HB3:=Lib.hid HB2.out.m'
  clear hHeld
  generalize V2.heap.size=gm at *
  generalize V2.alloc (oN n)=V3 at *
  exact z0ixm1
 ·unfold z0ix12
  go_simp
  refine hK.out _ _ HB2.out.h'.bel (fun hHeld=>?_)
  clear hK K
  refine qsp ?_
  have HB3:=Lib.hid HB2.out.h'
  clear hHeld
  generalize V2.heap.size=gh at *
  generalize V2.alloc (oH n)=V3 at *
  exact z0ixm2):p:=h
theorem z0ixm7 {p:Prop} (h:p:=by
 have hHeld:=HB2.out.bel
 refine qr2 9 13 (z0ix10 _) (z0ix12 _) rfl rfl (fun K hK=>?_) fun K hK=>?_
 ·unfold z0ix10
  go_simp
  refine hK.out _ _ HB2.out.a'.bel (fun hHeld=>?_)
  clear hK K
  refine qsp ?_
  have HB3:=Lib.hid HB2.out.a'
  clear hHeld
  generalize V2.heap.size=gn at *
  generalize V2.alloc (oN n)=V3 at *
  exact z0ixm1
 ·unfold z0ix12
  go_simp
  refine hK.out _ _ HB2.out.h'.bel (fun hHeld=>?_)
  clear hK K
  refine qsp ?_
  have HB3:=Lib.hid HB2.out.h'
  clear hHeld
  generalize V2.heap.size=gh at *
  generalize V2.alloc (oH n)=V3 at *
  exact z0ixm3):p:=h
theorem z0ixm8 {p:Prop} (h:p:=by
 have hHeld:=HB2.out.bel
 refine qr2 9 11 (z0ix10 _) (z0ix11 _) rfl rfl (fun K hK=>?_) fun K hK=>?_
 ·unfold z0ix10
  go_simp
  refine hK.out _ _ HB2.out.a'.bel (fun hHeld=>?_)
  clear hK K
  refine qsp ?_
  have HB3:=Lib.hid HB2.out.a'
  clear hHeld
  generalize V2.heap.size=gn at *
  generalize V2.alloc (oN n)=V3 at *
  exact z0ixm2
 ·unfold z0ix11
  go_simp
  refine hK.out _ _ HB2.out.m'.bel (fun hHeld=>?_)
  clear hK K
  refine qsp ?_
  have HB3:=Lib.hid HB2.out.m'
  clear hHeld
  generalize V2.heap.size=gm at *
  generalize V2.alloc (oN n)=V3 at *
  exact z0ixm3):p:=h
theorem z0ixm9 {p:Prop} (h:p:=by
 have hHeld:=HB2.out.bel
 refine qr2 7 11 (z0ix9 _) (z0ix11 _) rfl rfl (fun K hK=>?_) fun K hK=>?_
 ·unfold z0ix9
  go_simp
  refine hK.out _ _ HB2.out.v'.bel (fun hHeld=>?_)
  clear hK K
  refine qsp ?_
  have HB3:=Lib.hid HB2.out.v'
  clear hHeld
  generalize V2.heap.size=gv at *
  generalize V2.alloc (oV n)=V3 at *
  exact z0ixm2
 ·unfold z0ix11
  go_simp
  refine hK.out _ _ HB2.out.m'.bel (fun hHeld=>?_)
  clear hK K
  refine qsp ?_
  have HB3:=Lib.hid HB2.out.m'
  clear hHeld
  generalize V2.heap.size=gm at *
  generalize V2.alloc (oN n)=V3 at *
  exact z0ixm4):p:=h
theorem z0ixm10 {p:Prop} (h:p:=by
 have hHeld:=HB2.out.bel
 refine qr2 7 9 (z0ix9 _) (z0ix10 _) rfl rfl (fun K hK=>?_) fun K hK=>?_
 ·unfold z0ix9
  go_simp
  refine hK.out _ _ HB2.out.v'.bel (fun hHeld=>?_)
  clear hK K
  refine qsp ?_
  have HB3:=Lib.hid HB2.out.v'
  clear hHeld
  generalize V2.heap.size=gv at *
  generalize V2.alloc (oV n)=V3 at *
  exact z0ixm3
 ·unfold z0ix10
  go_simp
  refine hK.out _ _ HB2.out.a'.bel (fun hHeld=>?_)
  clear hK K
  refine qsp ?_
  have HB3:=Lib.hid HB2.out.a'
  clear hHeld
  generalize V2.heap.size=gn at *
  generalize V2.alloc (oN n)=V3 at *
  exact z0ixm4):p:=h
theorem make_nats (n:Nat) (hn:n≤5) (w:World):(Instr.makeSlice 27 (.int .i64 (n:Int)) (.int .i64 (n:Int))).run Try.prog w = .ok (.slice (some ⟨w.heap.size,0,none⟩) n n) (w.alloc (.cells (natsA (List.replicate n 0)) 3)):=by
 have h:=run_make_row' (P:=Try.prog) 27 3 (.int .i64 0) 8 Try.underlying27 F.info3 rfl .i64 .i64 n (by omega) (by omega) w
 rw [h]
 have e:madeCells #[Value.int .i64 0] n=natsA (List.replicate n 0):=by
  apply Array.ext'
  rw [toList_madeCells_one]
  simp [natsA]
 rw [e]
theorem info76:(Try.prog.info? 76).map (fun i=>(i.zero,i.size,i.bytes))=some (some (.agg #[.int .i64 0,.int .i64 0,.int .i64 0]),3,24):=by kernel_rfl
theorem heard_made:∀n,n≤5→madeCells (Value.agg #[.int .i64 0,.int .i64 0,.int .i64 0]).cells (n*3)=heardA (List.replicate n (0,0,0))
 | 0,_=>by kernel_rfl
 | 1,_=>by kernel_rfl
 | 2,_=>by kernel_rfl
 | 3,_=>by kernel_rfl
 | 4,_=>by kernel_rfl
 | 5,_=>by kernel_rfl
 | n+6,h=>by omega
theorem make_heard (n:Nat) (hn:n≤5) (w:World):(Instr.makeSlice 64 (.int .i64 (n:Int)) (.int .i64 (n:Int))).run Try.prog w = .ok (.slice (some ⟨w.heap.size,0,none⟩) n n) (w.alloc (.cells (heardA (List.replicate n (0,0,0))) 76)):=by
 obtain ⟨i0,hi0,hz0,hz1,hz2⟩:=info_parts info76
 have h:=run_make (P:=Try.prog) w 64 76 i0 _ Try.underlying64 hi0 hz0 .i64 .i64 (n:Int) (n:Int) (by omega) (by omega) (by rw [hz2];omega) (by omega)
 rw [h,Int.toNat_natCast,hz1]
 have e:=heard_made n hn
 rw [e]
def rpNew (own n:Nat) (lives:Int) (recs:List (List UInt8)):Rp :=
  { own:=own,n:=n,wl:=⟨lives,false,recs⟩,lives:=lives,done:=false,term:=0,choice := -1,log:=[],agreed:=0,many:=0,leads:=false,
    votes:=List.replicate n false,next:=List.replicate n 0,mat:=List.replicate n 0,ticks:=0,clock:=0,heard:=List.replicate n (0,0,0)}
theorem build66 (own n:Nat) (d l:Nat) (lives:Int) (gv gn gm gh:Nat) (w:World):(Instr.build 66 #[(0,.int .i64 (own:Int)),(1,.int .i64 (n:Int)),(2,.pointer (some ⟨d,0,none⟩)),(3,.pointer (some ⟨l,0,none⟩)),(4,.int .i64 lives),(7,.int .i64 (-1)),(12,.slice (some ⟨gv,0,none⟩) n n),(13,.slice (some ⟨gn,0,none⟩) n n),(14,.slice (some ⟨gm,0,none⟩) n n),(17,.slice (some ⟨gh,0,none⟩) n n)]).run Try.prog w =
 .ok (.agg #[.int .i64 (own:Int),.int .i64 (n:Int),.pointer (some ⟨d,0,none⟩),.pointer (some ⟨l,0,none⟩),.int .i64 lives,.bool false,.int .i64 0,.int .i64 (-1),.slice none 0 0,.int .i64 0,.int .i64 0,.bool false,.slice (some ⟨gv,0,none⟩) n n,.slice (some ⟨gn,0,none⟩) n n,.slice (some ⟨gm,0,none⟩) n n,.int .i64 0,.int .i64 0,.slice (some ⟨gh,0,none⟩) n n]) w:=run_build w 66 _ _ (by kernel_rfl)
@[reducible] def oV (n:Nat):Obj:=.cells (boolsA (List.replicate n false)) 4
@[reducible] def oN (n:Nat):Obj:=.cells (natsA (List.replicate n 0)) 3
@[reducible] def oH (n:Nat):Obj:=.cells (heardA (List.replicate n (0,0,0))) 76
/-- which of the four rows stand, and where -/
structure Mk4 (B n:Nat) (W V:World) (v a m h:Option Nat):Prop where
 bel:Below B W V
 siz:B≤V.heap.size
 fv:∀g,v=some g→V.heap[g]? = some (oV n)∧B≤g
 fa:∀g,a=some g→V.heap[g]? = some (oN n)∧B≤g
 fm:∀g,m=some g→V.heap[g]? = some (oN n)∧B≤g
 fh:∀g,h=some g→V.heap[g]? = some (oH n)∧B≤g
 ne:∀x y,a=some x→m=some y→x≠y
section
variable {B n:Nat} {W V:World} {v a m h:Option Nat}
theorem Mk4.v' (k:Mk4 B n W V none a m h):Mk4 B n W (V.alloc (oV n)) (some V.heap.size) a m h :=
 ⟨k.bel.alloc k.siz _,Nat.le_trans k.siz (by simp),fun g e=>by cases e;exact ⟨heap_new _ _,k.siz⟩,fun g e=>⟨heap_old (k.fa g e).1 _,(k.fa g e).2⟩,fun g e=>⟨heap_old (k.fm g e).1 _,(k.fm g e).2⟩,fun g e=>⟨heap_old (k.fh g e).1 _,(k.fh g e).2⟩,k.ne⟩
theorem Mk4.a' (k:Mk4 B n W V v none m h):Mk4 B n W (V.alloc (oN n)) v (some V.heap.size) m h :=
 ⟨k.bel.alloc k.siz _,Nat.le_trans k.siz (by simp),fun g e=>⟨heap_old (k.fv g e).1 _,(k.fv g e).2⟩,fun g e=>by cases e;exact ⟨heap_new _ _,k.siz⟩,fun g e=>⟨heap_old (k.fm g e).1 _,(k.fm g e).2⟩,fun g e=>⟨heap_old (k.fh g e).1 _,(k.fh g e).2⟩,fun x y e f=>by cases e;exact (Nat.ne_of_lt (lt_of_heap (k.fm y f).1)).symm⟩
theorem Mk4.m' (k:Mk4 B n W V v a none h):Mk4 B n W (V.alloc (oN n)) v a (some V.heap.size) h :=
 ⟨k.bel.alloc k.siz _,Nat.le_trans k.siz (by simp),fun g e=>⟨heap_old (k.fv g e).1 _,(k.fv g e).2⟩,fun g e=>⟨heap_old (k.fa g e).1 _,(k.fa g e).2⟩,fun g e=>by cases e;exact ⟨heap_new _ _,k.siz⟩,fun g e=>⟨heap_old (k.fh g e).1 _,(k.fh g e).2⟩,fun x y e f=>by cases f;exact Nat.ne_of_lt (lt_of_heap (k.fa x e).1)⟩
theorem Mk4.h' (k:Mk4 B n W V v a m none):Mk4 B n W (V.alloc (oH n)) v a m (some V.heap.size) :=
 ⟨k.bel.alloc k.siz _,Nat.le_trans k.siz (by simp),fun g e=>⟨heap_old (k.fv g e).1 _,(k.fv g e).2⟩,fun g e=>⟨heap_old (k.fa g e).1 _,(k.fa g e).2⟩,fun g e=>⟨heap_old (k.fm g e).1 _,(k.fm g e).2⟩,fun g e=>by cases e;exact ⟨heap_new _ _,k.siz⟩,k.ne⟩
end
@[reducible] def oR (own n d l:Nat) (lives:Int) (gv gn gm gh:Nat):Obj:=.cells #[.int .i64 (own:Int),.int .i64 (n:Int),.pointer (some ⟨d,0,none⟩),.pointer (some ⟨l,0,none⟩),.int .i64 lives,.bool false,.int .i64 0,.int .i64 (-1),.slice none 0 0,.int .i64 0,.int .i64 0,.bool false,.slice (some ⟨gv,0,none⟩) n n,.slice (some ⟨gn,0,none⟩) n n,.slice (some ⟨gm,0,none⟩) n n,.int .i64 0,.int .i64 0,.slice (some ⟨gh,0,none⟩) n n] 66
structure OpenF (W wx:World) (s:Rp) (l d r gv gn gm gh:Nat):Prop where
 cell:wx.heap[r]? = some (.cells (rpCells d l s (.slice none 0 0) gv gn gm gh) 66 (0,0))
 votes:wx.heap[gv]? = some (.cells (boolsA s.votes) 4 (0,0))
 next:wx.heap[gn]? = some (.cells (natsA s.next) 3 (0,0))
 mat:wx.heap[gm]? = some (.cells (natsA s.mat) 3 (0,0))
 heard:wx.heap[gh]? = some (.cells (heardA s.heard) 76 (0,0))
 nm:gn≠gm
 ge:∀b∈[r,gv,gn,gm,gh],W.heap.size≤b
 below:Below W.heap.size W wx
theorem OpenF.nd {w W wx:World} {s:Rp} {A D D1 L:List Nat} {l d r gv gn gm gh:Nat} {k:Dk} (h:OpenF W wx s l d r gv gn gm gh) (hl:s.log=[]) (hA:∀b∈A,b<w.heap.size) (hD:∀b∈D,b∈A)
  (hwd:WD W (A++(D1++L)) D1 L l d s.wl k) (hL:∀b∈L,w.heap.size≤b) (hm:Moves D D1 w W) :
  ∃A' X',Nd wx A' X' r d l s k∧Mv A A' D X' w wx:=by
 have hlt:∀b∈[r,gv,gn,gm,gh],b<wx.heap.size:=fun b hb=>by
  simp only [List.mem_cons,List.not_mem_nil,or_false] at hb
  rcases hb with rfl | rfl | rfl | rfl | rfl
  ·exact lt_of_heap h.cell
  ·exact lt_of_heap h.votes
  ·exact lt_of_heap h.next
  ·exact lt_of_heap h.mat
  ·exact lt_of_heap h.heard
 have hext:Ext (A++(D1++L)) ((A++(D1++L))++[r,gv,gn,gm,gh]) W:=fun b hb=>by
  rcases List.mem_append.1 hb with h1 | h1
  ·exact .inl h1
  ·exact .inr (h.ge b h1)
 have ho:Only [] W wx:=Only.ofBelow h.below []
 have hw2:WD wx ((A++(D1++L))++[r,gv,gn,gm,gh]) D1 L l d s.wl k :=
  ⟨hwd.wl.keep ho (fun b _=>by simp) (fun b hb=>by cases hb) hext,hwd.dk.below h.below,hwd.dis,fun b hb=>List.mem_append_left _ (hwd.dA b hb),fun b hb=>List.mem_append_left _ (hwd.lA b hb),fun b hb=>by
   rcases List.mem_append.1 hb with h1 | h1
   ·exact Nat.lt_of_lt_of_le (hwd.alt b h1) h.below.size
   ·exact hlt b h1⟩
 have hdis:∀S:List Nat,(∀b∈S,b<W.heap.size)→Dis [r,gv,gn,gm,gh] S:=fun S hS b hb hs=>by
  have:=h.ge b hb;have:=hS b hs;omega
 have hn:NdC wx ((A++(D1++L))++[r,gv,gn,gm,gh]) D1 L [r,gv,gn,gm,gh] r d l s k (.slice none 0 0) gv gn gm gh :=
  ⟨hw2,h.cell,.inl ⟨rfl,hl⟩,h.votes,h.next,h.mat,h.heard,h.nm,by simp,by simp,by simp,by simp,by simp,hdis _ (fun b hb=>hwd.alt b (hwd.dA b hb)),hdis _ (fun b hb=>hwd.alt b (hwd.lA b hb)),fun b hb=>List.mem_append_right _ hb⟩
 refine ⟨_,D1++(L++[r,gv,gn,gm,gh]),hn.nd (fun b=>by simp [List.mem_append]),⟨⟨hm.only.trans (Only.ofBelow h.below D),fun b hb=>?_,fun b hb=>List.mem_append_left _ (hm.sub b hb)⟩,fun b hb=>?_,fun b hb=>List.mem_append_left _ (List.mem_append_left _ hb)⟩⟩
 ·rcases List.mem_append.1 hb with h1 | h1
  ·exact hm.gr b h1
  ·rcases List.mem_append.1 h1 with h1 | h1
   ·exact .inr (hL b h1)
   ·exact .inr (Nat.le_trans hm.only.size (h.ge b h1))
 ·rcases List.mem_append.1 hb with h1 | h1
  ·rcases List.mem_append.1 h1 with h1 | h1
   ·exact .inl h1
   ·rcases List.mem_append.1 h1 with h1 | h1
    ·rcases hm.gr b h1 with h2 | h2
     ·exact .inl (hD b h2)
     ·exact .inr h2
    ·exact .inr (hL b h1)
  ·exact .inr (Nat.le_trans hm.only.size (h.ge b h1))
section
variable {w w':World} {A A' X X' D:List Nat} {r d l:Nat} {s s':Rp} {k k':Dk}
set_option maxHeartbeats 8000000 in
theorem rpOpen_any (h:IsDk w D d k) (ho:k.off=false) (own n:Nat) (hn5:n≤5) (hown:own<n) (ns:List Note) (ht:Torn k (ns.map Note.bytes)) (hr:∀x∈ns.map Note.bytes,x.length≤20000) (htot:k.total≤1048576)
  (hok:replayOk (rpNew own n k.lives (ns.map Note.bytes)) ns) (hb:ns.length≤100000) (hA:∀b∈A,b<w.heap.size) (hD:∀b∈D,b∈A) :
  Calls Try.prog 21 #[.int .i64 (own:Int),.int .i64 (n:Int),.pointer (some ⟨d,0,none⟩)] w fun e w'=>∃r l A' X',e = .returned (.tuple #[.pointer (some ⟨r,0,none⟩),.int .i64 0])∧Nd w' A' X' r d l (replay (rpNew own n k.lives (ns.map Note.bytes)) ns) (cleanD k (ns.map Note.bytes))∧Mv A A' D X' w w':=by
 have HLV:Hid ((cleanD k (ns.map Note.bytes)).lives=k.lives∧(cleanD k (ns.map Note.bytes)).off=false):=Lib.hid (by unfold cleanD;split<;>exact ⟨rfl,ho⟩)
 have HO:=Lib.hid (openW_any h ho ht hr htot)
 have HREC:Hid (∀W A2 X2 r l,Nd W A2 X2 r d l (rpNew own n k.lives (ns.map Note.bytes)) (cleanD k (ns.map Note.bytes))→Calls Try.prog 40 #[.pointer (some ⟨r,0,none⟩)] W fun e w'=>e = .returned (.bool true)∧NdP W w' A2 X2 r d l (replay (rpNew own n k.lives (ns.map Note.bytes)) ns) (cleanD k (ns.map Note.bytes))):=Lib.hid (fun W A2 X2 r l h2 =>
  recall_any h2 ns rfl hok (Int.le_refl _) (by show (0:Int)≤_;decide) hn5 rfl hb hr (by unfold offW;rw [HLV.out.1,HLV.out.2];simp [rpNew]))
 have HA:=Lib.hid hA
 have HD:=Lib.hid hD
 have HFT:Hid ((rpNew own n k.lives (ns.map Note.bytes)).votes=List.replicate n false∧(rpNew own n k.lives (ns.map Note.bytes)).next=List.replicate n 0∧(rpNew own n k.lives (ns.map Note.bytes)).mat=List.replicate n 0∧(rpNew own n k.lives (ns.map Note.bytes)).heard=List.replicate n (0,0,0)∧(rpNew own n k.lives (ns.map Note.bytes)).log=[]∧(rpNew own n k.lives (ns.map Note.bytes)).wl=⟨k.lives,false,ns.map Note.bytes⟩):=Lib.hid ⟨rfl,rfl,rfl,rfl,rfl,rfl⟩
 have HRP:Hid (∀l gv gn gm gh,rpCells d l (rpNew own n k.lives (ns.map Note.bytes)) (.slice none 0 0) gv gn gm gh=#[.int .i64 (own:Int),.int .i64 (n:Int),.pointer (some ⟨d,0,none⟩),.pointer (some ⟨l,0,none⟩),.int .i64 k.lives,.bool false,.int .i64 0,.int .i64 (-1),.slice none 0 0,.int .i64 0,.int .i64 0,.bool false,
  .slice (some ⟨gv,0,none⟩) n n,.slice (some ⟨gn,0,none⟩) n n,.slice (some ⟨gm,0,none⟩) n n,.int .i64 0,.int .i64 0,.slice (some ⟨gh,0,none⟩) n n]):=Lib.hid (fun _ _ _ _ _=>rfl)
 have g1:¬(n:Int)<1:=by omega
 have g2:¬(5:Int)<(n:Int):=by omega
 have g3:¬(own:Int)<0:=by omega
 have g4:¬(n:Int)≤(own:Int):=by omega
 have hn5':=Lib.hid hn5
 clear h ho ht hr htot hok hb hA hD hown hn5
 generalize rpNew own n k.lives (ns.map Note.bytes)=s0 at *
 generalize cleanD k (ns.map Note.bytes)=k1 at *
 generalize ns.map Note.bytes=recs at *
 go_enter Try.func21,Try.ntmps21
 go_wp2_with fail
 refine HO.out.mono ?_
 rintro e W ⟨l,D1,L,rfl,hwd,hL,hm1⟩
 have HWD:=Lib.hid (hwd A HA.out)
 have HL:=Lib.hid hL
 have HM1:=Lib.hid hm1
 have HDK:=Lib.hid (hwd [] (fun b hb=>by cases hb)).dk
 clear hwd hL hm1
 obtain ⟨B,hB⟩:∃B,B=W.drew.heap.size:=⟨_,rfl⟩
 have HS:Hid (∀w',Below B W.drew w'→Calls Try.prog 33 #[.pointer (some ⟨d,0,none⟩)] w' fun e w2=>e = .returned (.int .i64 k.lives)∧w'=w2):=Lib.hid (fun w' hb=>by
  rw [hB] at hb
  have h:=lives_any ((HDK.out.below (below_drewN W 1)).below hb)
  rw [HLV.out.1] at h
  exact h)
 have HB0:Hid (Mk4 B n W.drew W.drew none none none none):=Lib.hid ⟨by rw [hB];exact Below.refl _ _,by rw [hB];exact Nat.le_refl _,(fun g e=>by cases e),(fun g e=>by cases e),(fun g e=>by cases e),(fun g e=>by cases e),(fun x y e=>by cases e)⟩
 have HFIN:Hid (∀(V:World) (gv gn gm gh:Nat),Mk4 B n W.drew V (some gv) (some gn) (some gm) (some gh)→OpenF W (V.alloc (oR own n d l k.lives gv gn gm gh)) s0 l d V.heap.size gv gn gm gh):=Lib.hid (fun V gv gn gm gh h=>by
  have hB2:B=W.heap.size:=hB
  obtain ⟨f1,f2,f3,f4,_⟩:=HFT.out
  refine ⟨by rw [HRP.out];exact heap_new _ _,by rw [f1];exact heap_old (h.fv _ rfl).1 _,by rw [f2];exact heap_old (h.fa _ rfl).1 _,by rw [f3];exact heap_old (h.fm _ rfl).1 _,by rw [f4];exact heap_old (h.fh _ rfl).1 _,h.ne _ _ rfl rfl,fun b hm=>?_,?_⟩
  · have:=h.siz;have:=(h.fv _ rfl).2;have:=(h.fa _ rfl).2;have:=(h.fm _ rfl).2;have:=(h.fh _ rfl).2
    simp only [List.mem_cons,List.not_mem_nil,or_false] at hm
    rcases hm with rfl | rfl | rfl | rfl | rfl<;>omega
  · have h9:=h.bel.alloc h.siz (oR own n d l k.lives gv gn gm gh)
    rw [hB2] at h9
    exact (below_drewN W 1).trans h9)
 clear hB
 have hmk1:=make_bools n hn5'.out
 have hmk2:=make_nats n hn5'.out
 have hmk3:=make_heard n hn5'.out
 go_upto_region 6 with (fail)
 go_cut [10] (fun v wx=>∃r gv gn gm gh,v = .pointer (some ⟨r,0,none⟩)∧OpenF W wx s0 l d r gv gn gm gh)
 case first =>
  as_aux_lemma =>
  refine wp_region_held_drew (S:=fun w'=>Below B W.drew w') (by kernel_rfl) HB0.out.bel (fun hHeld=>?_)
  refine qtl 0 (z0ix0 _) rfl ?_
  refine qtl 1 (z0ix1 _) rfl ?_
  refine qtl 2 (z0ix2 _) rfl ?_
  refine qtl 3 (z0ix3 _) rfl ?_
  refine qtl 4 (z0ix4 _) rfl ?_
  refine wpAnyH_takeC (i:=5) (oi:={ dst:=some 39,op:=Op.call { callee:=Callee.value (Operand.func 33),args:=#[Operand.tmp 38],argTypes:=#[54]},type:=3,pos:=_,after:=#[{ on:=4,ground:=Ground.data }],guard:=none }) (v:=(.int .i64 k.lives)) rfl (by kernel_rfl) (by kernel_rfl) (by kernel_rfl) (fun _ _ _ h=>h) (by rfl) 33 #[.pointer (some ⟨d,0,none⟩)] (fun w hSw=>by simp [execOp,resolve,invoke,Act.eval,Deferred.ofValue,Result.andThen]) (fun w hSw=>HS.out w hSw) (by exact hHeld) ?_
  refine qsp ?_
  refine qtl 6 (z0ix5 _) rfl ?_
  refine qtl 8 (z0ix6 _) rfl ?_
  refine qtl 10 (z0ix7 _) rfl ?_
  refine qtl 12 (z0ix8 _) rfl ?_
  generalize W.drew=V0 at *
  refine wpAnyH_ready (rs:=[7,9,11,13]) (by kernel_rfl) (by simp) ?_
  refine AllReadyH.cons (o:=(z0ix9 _)) rfl (fun K hK=>?_) (AllReadyH.cons (o:=(z0ix10 _)) rfl (fun K hK=>?_) (AllReadyH.cons (o:=(z0ix11 _)) rfl (fun K hK=>?_) (AllReadyH.cons (o:=(z0ix12 _)) rfl (fun K hK=>?_) AllReadyH.nil)))
  ·unfold z0ix9
   go_simp
   refine hK.out _ _ HB0.out.v'.bel (fun hHeld=>?_)
   clear hK K
   refine qsp ?_
   have HB1:=Lib.hid HB0.out.v'
   clear hHeld
   generalize V0.heap.size=gv at *
   generalize V0.alloc (oV n)=V1 at *
   have hHeld:=HB1.out.bel
   refine wpAnyH_ready (rs:=[9,11,13]) (by kernel_rfl) (by simp) ?_
   refine AllReadyH.cons (o:=(z0ix10 _)) rfl (fun K hK=>?_) (AllReadyH.cons (o:=(z0ix11 _)) rfl (fun K hK=>?_) (AllReadyH.cons (o:=(z0ix12 _)) rfl (fun K hK=>?_) AllReadyH.nil))
   ·unfold z0ix10
    go_simp
    refine hK.out _ _ HB1.out.a'.bel (fun hHeld=>?_)
    clear hK K
    refine qsp ?_
    have HB2:=Lib.hid HB1.out.a'
    clear hHeld
    generalize V1.heap.size=gn at *
    generalize V1.alloc (oN n)=V2 at *
    exact z0ixm6
   ·unfold z0ix11
    go_simp
    refine hK.out _ _ HB1.out.m'.bel (fun hHeld=>?_)
    clear hK K
    refine qsp ?_
    have HB2:=Lib.hid HB1.out.m'
    clear hHeld
    generalize V1.heap.size=gm at *
    generalize V1.alloc (oN n)=V2 at *
    exact z0ixm7
   ·unfold z0ix12
    go_simp
    refine hK.out _ _ HB1.out.h'.bel (fun hHeld=>?_)
    clear hK K
    refine qsp ?_
    have HB2:=Lib.hid HB1.out.h'
    clear hHeld
    generalize V1.heap.size=gh at *
    generalize V1.alloc (oH n)=V2 at *
    exact z0ixm8
  ·unfold z0ix10
   go_simp
   refine hK.out _ _ HB0.out.a'.bel (fun hHeld=>?_)
   clear hK K
   refine qsp ?_
   have HB1:=Lib.hid HB0.out.a'
   clear hHeld
   generalize V0.heap.size=gn at *
   generalize V0.alloc (oN n)=V1 at *
   have hHeld:=HB1.out.bel
   refine wpAnyH_ready (rs:=[7,11,13]) (by kernel_rfl) (by simp) ?_
   refine AllReadyH.cons (o:=(z0ix9 _)) rfl (fun K hK=>?_) (AllReadyH.cons (o:=(z0ix11 _)) rfl (fun K hK=>?_) (AllReadyH.cons (o:=(z0ix12 _)) rfl (fun K hK=>?_) AllReadyH.nil))
   ·unfold z0ix9
    go_simp
    refine hK.out _ _ HB1.out.v'.bel (fun hHeld=>?_)
    clear hK K
    refine qsp ?_
    have HB2:=Lib.hid HB1.out.v'
    clear hHeld
    generalize V1.heap.size=gv at *
    generalize V1.alloc (oV n)=V2 at *
    exact z0ixm6
   ·unfold z0ix11
    go_simp
    refine hK.out _ _ HB1.out.m'.bel (fun hHeld=>?_)
    clear hK K
    refine qsp ?_
    have HB2:=Lib.hid HB1.out.m'
    clear hHeld
    generalize V1.heap.size=gm at *
    exact z0ixm5
   ·unfold z0ix12
    go_simp
    refine hK.out _ _ HB1.out.h'.bel (fun hHeld=>?_)
    clear hK K
    refine qsp ?_
    have HB2:=Lib.hid HB1.out.h'
    clear hHeld
    generalize V1.heap.size=gh at *
    generalize V1.alloc (oH n)=V2 at *
    exact z0ixm9
  ·unfold z0ix11
   go_simp
   refine hK.out _ _ HB0.out.m'.bel (fun hHeld=>?_)
   clear hK K
   refine qsp ?_
   have HB1:=Lib.hid HB0.out.m'
   clear hHeld
   generalize V0.heap.size=gm at *
   generalize V0.alloc (oN n)=V1 at *
   have hHeld:=HB1.out.bel
   refine wpAnyH_ready (rs:=[7,9,13]) (by kernel_rfl) (by simp) ?_
   refine AllReadyH.cons (o:=(z0ix9 _)) rfl (fun K hK=>?_) (AllReadyH.cons (o:=(z0ix10 _)) rfl (fun K hK=>?_) (AllReadyH.cons (o:=(z0ix12 _)) rfl (fun K hK=>?_) AllReadyH.nil))
   ·unfold z0ix9
    go_simp
    refine hK.out _ _ HB1.out.v'.bel (fun hHeld=>?_)
    clear hK K
    refine qsp ?_
    have HB2:=Lib.hid HB1.out.v'
    clear hHeld
    generalize V1.heap.size=gv at *
    generalize V1.alloc (oV n)=V2 at *
    exact z0ixm7
   ·unfold z0ix10
    go_simp
    refine hK.out _ _ HB1.out.a'.bel (fun hHeld=>?_)
    clear hK K
    refine qsp ?_
    have HB2:=Lib.hid HB1.out.a'
    clear hHeld
    generalize V1.heap.size=gn at *
    exact z0ixm5
   ·unfold z0ix12
    go_simp
    refine hK.out _ _ HB1.out.h'.bel (fun hHeld=>?_)
    clear hK K
    refine qsp ?_
    have HB2:=Lib.hid HB1.out.h'
    clear hHeld
    generalize V1.heap.size=gh at *
    generalize V1.alloc (oH n)=V2 at *
    exact z0ixm10
  ·unfold z0ix12
   go_simp
   refine hK.out _ _ HB0.out.h'.bel (fun hHeld=>?_)
   clear hK K
   refine qsp ?_
   have HB1:=Lib.hid HB0.out.h'
   clear hHeld
   generalize V0.heap.size=gh at *
   generalize V0.alloc (oH n)=V1 at *
   have hHeld:=HB1.out.bel
   refine wpAnyH_ready (rs:=[7,9,11]) (by kernel_rfl) (by simp) ?_
   refine AllReadyH.cons (o:=(z0ix9 _)) rfl (fun K hK=>?_) (AllReadyH.cons (o:=(z0ix10 _)) rfl (fun K hK=>?_) (AllReadyH.cons (o:=(z0ix11 _)) rfl (fun K hK=>?_) AllReadyH.nil))
   ·unfold z0ix9
    go_simp
    refine hK.out _ _ HB1.out.v'.bel (fun hHeld=>?_)
    clear hK K
    refine qsp ?_
    have HB2:=Lib.hid HB1.out.v'
    clear hHeld
    generalize V1.heap.size=gv at *
    generalize V1.alloc (oV n)=V2 at *
    exact z0ixm8
   ·unfold z0ix10
    go_simp
    refine hK.out _ _ HB1.out.a'.bel (fun hHeld=>?_)
    clear hK K
    refine qsp ?_
    have HB2:=Lib.hid HB1.out.a'
    clear hHeld
    generalize V1.heap.size=gn at *
    generalize V1.alloc (oN n)=V2 at *
    exact z0ixm9
   ·unfold z0ix11
    go_simp
    refine hK.out _ _ HB1.out.m'.bel (fun hHeld=>?_)
    clear hK K
    refine qsp ?_
    have HB2:=Lib.hid HB1.out.m'
    clear hHeld
    generalize V1.heap.size=gm at *
    generalize V1.alloc (oN n)=V2 at *
    exact z0ixm10
 case rest =>
 obtain ⟨r,gv,gn,gm,gh,rfl,hf⟩:=hcut
 rename World=>wx
 obtain ⟨A2,X2,h2,m2⟩:=hf.nd HFT.out.2.2.2.2.1 HA.out HD.out (by rw [HFT.out.2.2.2.2.2,←HLV.out.1];exact HWD.out) HL.out HM1.out
 have H2:=Lib.hid h2
 have M2:=Lib.hid m2
 clear hf h2 m2 hmk1 hmk2 hmk3
 go_wp2_with fail
 refine (HREC.out wx A2 X2 r l H2.out).mono ?_
 rintro e w5 ⟨rfl,hn5⟩
 have HN5:=Lib.hid hn5
 clear hn5
 go_wp2_with fail
 go_ret2
 obtain ⟨A5,X5,h5,m5⟩:=HN5.out
 exact ⟨r,l,A5,X5,rfl,h5,M2.out.trans m5⟩
end
end Go.Proofs.Ytnicaicjgaoolaa
namespace Go.Proofs.Ytnicaicjgaoolaa
set_option maxRecDepth 20000
def rp00 (n:Nat):Rp:=rpNew 0 n 0 []
/-- notes, and what they come to -/
def Match (n:Nat) (ns:List Note) (term choice:Int) (log:List Ent):Prop:=(replay (rp00 n) ns).term=term∧(replay (rp00 n) ns).choice=choice∧(replay (rp00 n) ns).log=log
/-- the notes on the disk are good; where it isn't done they say what it holds -/
structure NOk (s:Rp):Prop where
 ex:∃ns,s.wl.recs=ns.map Note.bytes∧replayOk (rp00 s.n) ns∧(s.done=false→Match s.n ns s.term s.choice s.log)
 lead:s.leads=true→1≤s.term
section
variable {s s':Rp} {k k':Dk}
theorem addW_recs (w:Wl) (k:Dk) (b:List UInt8):((addW w k b).1=0∧(addW w k b).2.1.recs=w.recs++[b])∨((addW w k b).1≠0∧(addW w k b).2.1.recs=w.recs):=by
 unfold addW
 split
 ·exact .inr ⟨by simp,rfl⟩
 ·split
  ·exact .inr ⟨by simp,rfl⟩
  ·split
   ·exact .inr ⟨by simp,rfl⟩
   ·exact .inl ⟨rfl,rfl⟩
theorem syncW_recs (w:Wl) (k:Dk):(syncW w k).2.1.recs=w.recs:=by
 unfold syncW
 split
 ·rfl
 ·split<;>rfl
/-- a note is written: it stands behind the others, or it is done -/
theorem write_recs (b:List UInt8):((writeM s k b).1.done=false∧s.done=false∧(writeM s k b).1.wl.recs=s.wl.recs++[b])∨((writeM s k b).1.done=true∧(writeM s k b).1.wl.recs=s.wl.recs):=by
 unfold writeM
 by_cases hd:s.done=true
 ·rw [if_pos hd];exact .inr ⟨hd,rfl⟩
 ·rw [if_neg hd]
  rcases addW_recs s.wl k b with ⟨h1,h2⟩ | ⟨h1,h2⟩
  ·exact .inl ⟨by simp [h1],by simpa using hd,h2⟩
  ·exact .inr ⟨by simp [h1],h2⟩
theorem sync_recs:(syncM s k).1.wl.recs=s.wl.recs∧((syncM s k).1.done=false→s.done=false):=by
 unfold syncM
 by_cases hd:s.done=true
 ·rw [if_pos hd];exact ⟨rfl,id⟩
 ·rw [if_neg hd];exact ⟨syncW_recs _ _,fun _=>by simpa using hd⟩
theorem NOk.sync (h:NOk s):NOk (syncM s k).1:=by
 obtain ⟨⟨ns,h1,h2,h3⟩,h4⟩:=h
 obtain ⟨r1,r2⟩:=sync_recs (s:=s) (k:=k)
 have e:=(same_sync (s:=s) (k:=k))
 have ea:=e.all
 have es:=sync_same (s:=s) (k:=k)
 have e1:(syncM s k).1.choice=s.choice:=by rw [es]
 have e2:(syncM s k).1.log=s.log:=by rw [es]
 refine ⟨⟨ns,by rw [r1,h1],by rw [ea.2.1];exact h2,fun hd=>?_⟩,fun hl=>?_⟩
 ·rw [ea.2.1,ea.2.2.2.2.1,e1,e2];exact h3 (r2 hd)
 ·rw [ea.2.2.2.2.1];exact h4 (by rw [←ea.2.2.2.1];exact hl)
theorem Match.snoc {n:Nat} {ns:List Note} {t c:Int} {l:List Ent} (h:Match n ns t c l) (a:Note):Match n (ns++[a]) (noteA { rp00 n with term:=t,choice:=c,log:=l } a).term (noteA { rp00 n with term:=t,choice:=c,log:=l } a).choice (noteA { rp00 n with term:=t,choice:=c,log:=l } a).log:=by
 obtain ⟨h1,h2,h3⟩:=h
 obtain ⟨t',c',g',e⟩:=replay_same (rp00 n) ns
 unfold Match
 rw [replay_append]
 rw [e] at h1 h2 h3 ⊢
 simp only at h1 h2 h3
 subst h1;subst h2;subst h3
 exact ⟨rfl,rfl,rfl⟩
theorem noteOk_snoc {n:Nat} {ns:List Note} {t c:Int} {l:List Ent} (h:Match n ns t c l) (hk:replayOk (rp00 n) ns) (a:Note) (ha:noteOk { rp00 n with term:=t,choice:=c,log:=l } a):replayOk (rp00 n) (ns++[a]):=by
 rw [replayOk_append]
 refine ⟨hk,?_,trivial⟩
 obtain ⟨h1,h2,h3⟩:=h
 obtain ⟨t',c',g',e⟩:=replay_same (rp00 n) ns
 rw [e] at h1 h2 h3 ⊢
 simp only at h1 h2 h3
 subst h1;subst h2;subst h3
 exact ha
theorem nok_enter (h:NOk s) (term who:Int) (h1:s.term≤term) (h2:term≤1099511627776) (h3 : -1≤who) (h4:who<s.n):NOk (enterM s k term who).2.1:=by
 obtain ⟨⟨ns,g1,g2,g3⟩,g4⟩:=h
 have e1:=write_same (s:=s) (k:=k) (noteT term who)
 have ea:=(same_write (s:=s) (k:=k) (noteT term who)).all
 have hr:=write_recs (s:=s) (k:=k) (noteT term who)
 unfold enterM
 generalize writeM s k (noteT term who)=p at *
 simp only
 rcases hr with ⟨r1,r2,r3⟩ | ⟨r1,r2⟩
 ·rw [if_neg (by rw [r1];decide)]
  have hm:=g3 r2
  have hk:=noteOk_snoc hm g2 (.t term who) ⟨h1,h2,h3,h4⟩
  have hm2:=hm.snoc (.t term who)
  have q1:=sync_recs (s:=p.1) (k:=p.2)
  have qa:=(same_sync (s:=p.1) (k:=p.2)).all
  have qs:=sync_same (s:=p.1) (k:=p.2)
  have hrec:(syncM p.1 p.2).1.wl.recs=(ns++[Note.t term who]).map Note.bytes:=by rw [q1.1,r3,g1];simp [Note.bytes]
  have hn:(syncM p.1 p.2).1.n=s.n:=qa.2.1.trans ea.2.1
  have hlog:(syncM p.1 p.2).1.log=s.log:=by rw [qs,e1]
  have hcho:(syncM p.1 p.2).1.choice=s.choice:=by rw [qs,e1]
  have htm:(syncM p.1 p.2).1.term=s.term:=qa.2.2.2.2.1.trans ea.2.2.2.2.1
  have hld:(syncM p.1 p.2).1.leads=s.leads:=qa.2.2.2.1.trans ea.2.2.2.1
  generalize syncM p.1 p.2=q at *
  by_cases hd:q.1.done=true
  ·rw [if_pos hd]
   exact ⟨⟨_,hrec,by rw [hn];exact hk,fun e=>by rw [hd] at e;cases e⟩,fun hl=>by rw [htm];exact g4 (by rw [←hld];exact hl)⟩
  ·rw [if_neg hd]
   refine ⟨⟨_,hrec,by show replayOk (rp00 q.1.n) _;rw [hn];exact hk,fun _=>?_⟩,fun hl=>?_⟩
   ·show Match q.1.n _ term who q.1.log
    rw [hn,hlog];exact hm2
   ·have hl2:(q.1.leads && !decide (q.1.term<term))=true:=hl
    rw [Bool.and_eq_true] at hl2
    have:=g4 (by rw [←hld];exact hl2.1)
    show 1≤term
    omega
 ·rw [if_pos r1]
  have hn:p.1.n=s.n:=ea.2.1
  exact ⟨⟨ns,by rw [r2,g1],by rw [hn];exact g2,fun e=>by rw [r1] at e;cases e⟩,fun hl=>by rw [ea.2.2.2.2.1];exact g4 (by rw [←ea.2.2.2.1];exact hl)⟩
theorem nok_place (h:NOk s) (p:Nat) (x:Ent) (h1:p≤s.log.length) (h2:1≤x.term) (h3:x.term≤s.term) (h4:x.bs.length≤8000):NOk (placeM s k p x).2.1:=by
 obtain ⟨⟨ns,g1,g2,g3⟩,g4⟩:=h
 have e1:=write_same (s:=s) (k:=k) (noteE p x)
 have ea:=(same_write (s:=s) (k:=k) (noteE p x)).all
 have hr:=write_recs (s:=s) (k:=k) (noteE p x)
 unfold placeM
 generalize writeM s k (noteE p x)=q at *
 simp only
 rcases hr with ⟨r1,r2,r3⟩ | ⟨r1,r2⟩
 ·rw [if_neg (by rw [r1];decide)]
  have hm:=g3 r2
  have hk:=noteOk_snoc hm g2 (.e p x) ⟨h1,h2,h3,h4⟩
  have hm2:=hm.snoc (.e p x)
  refine ⟨⟨ns++[Note.e p x],by show q.1.wl.recs=_;rw [r3,g1];simp [Note.bytes],by show replayOk (rp00 q.1.n) _;rw [ea.2.1];exact hk,fun _=>?_⟩,fun hl=>?_⟩
  ·show Match q.1.n _ q.1.term q.1.choice (q.1.log.take p++[x])
   rw [e1];exact hm2
  ·show 1≤q.1.term
   rw [ea.2.2.2.2.1];exact g4 (by rw [←ea.2.2.2.1];exact hl)
 ·rw [if_pos r1]
  exact ⟨⟨ns,by rw [r2,g1],by rw [ea.2.1];exact g2,fun e=>by rw [r1] at e;cases e⟩,fun hl=>by rw [ea.2.2.2.2.1];exact g4 (by rw [←ea.2.2.2.1];exact hl)⟩
theorem nok_put (h:NOk s) (x:Ent) (h2:1≤x.term) (h3:x.term≤s.term) (h4:x.bs.length≤8000):NOk (putM s k x).2.1:=by
 have hp:=nok_place (k:=k) h s.log.length x (Nat.le_refl _) h2 h3 h4
 unfold putM
 generalize placeM s k s.log.length x=p at *
 simp only
 split
 ·exact hp.sync
 ·exact hp
/-- what neither notes nor leading look at -/
theorem NOk.of {s s':Rp} (h:NOk s) (h1:s'.wl.recs=s.wl.recs) (h2:s'.n=s.n) (h3:s'.done=false→s.done=false) (h4:s'.term=s.term) (h5:s'.choice=s.choice) (h6:s'.log=s.log) (h7:s'.leads=true→1≤s.term):NOk s':=by
 obtain ⟨⟨ns,g1,g2,g3⟩,g4⟩:=h
 exact ⟨⟨ns,h1.trans g1,by rw [h2];exact g2,fun hd=>by rw [h2,h4,h5,h6];exact g3 (h3 hd)⟩,fun hl=>by rw [h4];exact h7 hl⟩
theorem nok_settle (h:NOk s):NOk (settleM s).2:=by
 have ha:∀(t:Rp) (m:Nat),(agreeM t m).wl.recs=t.wl.recs∧(agreeM t m).n=t.n∧(agreeM t m).done=t.done∧(agreeM t m).term=t.term∧(agreeM t m).choice=t.choice∧(agreeM t m).log=t.log∧(agreeM t m).leads=t.leads:=fun t m=>by unfold agreeM;split<;>exact ⟨rfl,rfl,rfl,rfl,rfl,rfl,rfl⟩
 have hk:∀t:Rp,NOk t→∀m,NOk (agreeM t m):=fun t ht m=>by
  obtain ⟨a1,a2,a3,a4,a5,a6,a7⟩:=ha t m
  exact ht.of a1 a2 (by rw [a3];exact id) a4 a5 a6 (by rw [a7];exact ht.lead)
 have h1:NOk { s with mat:=s.mat.set s.own s.log.length }:=h.of rfl rfl id rfl rfl rfl h.lead
 unfold settleM
 simp only
 split
 ·exact hk _ h1 _
 ·exact h1
theorem nok_agree (h:NOk s) (m:Nat):NOk (agreeM s m):=by
 unfold agreeM
 split
 ·exact h.of rfl rfl id rfl rfl rfl h.lead
 ·exact h
theorem nok_lead (h:NOk s) (ht:1≤s.term):NOk (leadM s k).2.1:=by
 have h0:NOk { s with leads:=true,next:=List.replicate s.n s.log.length,mat:=List.replicate s.n 0 }:=h.of rfl rfl id rfl rfl rfl (fun _=>ht)
 have h1:=nok_put (k:=k) h0 ⟨s.term,[]⟩ ht (Int.le_refl _) (by simp)
 unfold leadM
 simp only
 split
 ·exact nok_settle h1
 ·exact h1
theorem nok_stand (h:NOk s) (hw:Wf s k):NOk (standM s k).2.1:=by
 unfold standM
 by_cases ht:1099511627776≤s.term
 ·rw [if_pos ht];exact h
 ·rw [if_neg ht]
  have h0:=hw.term0
  have hn:=nok_enter (k:=k) h (s.term+1) (s.own:Int) (by omega) (by omega) (by omega) (by have:=hw.own;omega)
  have he:=enter_sameG (s:=s) (k:=k) (s.term+1) (s.own:Int)
  generalize enterM s k (s.term+1) (s.own:Int)=p at *
  simp only
  by_cases hp:p.1=true
  ·rw [if_pos hp]
   have h1:NOk { p.2.1 with ticks:=0,votes:=(List.replicate s.n false).set s.own true }:=hn.of rfl rfl id rfl rfl rfl hn.lead
   split
   ·exact nok_lead h1 (by show 1≤p.2.1.term;rw [he.2.2.2 hp];omega)
   ·exact h1
  ·rw [if_neg hp];exact hn
theorem nok_doneS (h:NOk s):NOk (doneS s k):=h.of rfl rfl (fun hd=>by
 have:doneM s k=false:=hd
 unfold doneM at this
 rw [Bool.or_eq_false_iff] at this
 exact this.1) rfl rfl rfl h.lead
theorem nok_tick (h:NOk s) (hw:Wf s k):NOk (tickM s k).2.1:=by
 have h0:=nok_doneS (k:=k) h
 have w0:=wf_doneS hw
 unfold tickM
 simp only
 split
 ·exact h0
 ·split
  ·exact h0.of rfl rfl id rfl rfl rfl h0.lead
  ·have h2:NOk { doneS s k with clock:=(doneS s k).clock+1,ticks:=(doneS s k).ticks+1 }:=h0.of rfl rfl id rfl rfl rfl h0.lead
   have w2:Wf { doneS s k with clock:=(doneS s k).clock+1,ticks:=(doneS s k).ticks+1 } k:=wf_scal w0 (doneS s k).lives ((doneS s k).ticks+1) ((doneS s k).clock+1) (doneS s k).votes (Nat.succ_le_succ w0.tick) w0.vl (Nat.le_succ _)
   split
   ·exact nok_stand h2 w2
   ·split<;>exact h2
theorem nok_submit (h:NOk s) (rec:List UInt8):NOk (submitM s k rec).2.2.1:=by
 have h0:=nok_doneS (k:=k) h
 unfold submitM
 by_cases h1:rec.length=0
 ·rw [if_pos h1];exact h
 rw [if_neg h1]
 by_cases h2:8000<rec.length
 ·rw [if_pos h2];exact h
 rw [if_neg h2]
 simp only
 by_cases h3:(doneS s k).done=true
 ·rw [if_pos h3];exact h0
 rw [if_neg h3]
 by_cases h4:(!(doneS s k).leads)=true
 ·rw [if_pos h4];exact h0
 rw [if_neg h4]
 by_cases h5:200≤openM (doneS s k)∨2000≤(doneS s k).many
 ·rw [if_pos h5];exact h0
 rw [if_neg h5]
 have hw:=nok_put (k:=k) h0 ⟨(doneS s k).term,rec⟩ (h0.lead (by simpa using h4)) (Int.le_refl _) (by simpa using h2)
 generalize putM (doneS s k) k ⟨(doneS s k).term,rec⟩=p at *
 by_cases h6:p.1=true
 ·rw [if_pos h6];exact nok_settle hw
 ·rw [if_neg h6];exact hw
theorem nok_ticks0 (h:NOk s) (t:Nat):NOk { s with ticks:=t }:=h.of rfl rfl id rfl rfl rfl h.lead
theorem nok_asked (h:NOk s) (hw:Wf s k) (m:Msg) (hf0:0≤m.frm) (hfn:m.frm<(s.n:Int)):NOk (askedM s k m).2.1:=by
 unfold askedM
 split
 ·simp only
  split
  ·split
   ·have hn:=nok_enter (k:=k) h s.term m.frm (Int.le_refl _) hw.termM (by omega) hfn
    generalize enterM s k s.term m.frm=p at *
    split
    ·exact nok_ticks0 hn 0
    ·exact hn
   ·exact nok_ticks0 h 0
  ·exact h
 ·exact h
theorem nok_voted (h:NOk s) (m:Msg) (hN:1≤m.N.getD 0 0):NOk (votedM s k m).2.1:=by
 unfold votedM
 split
 ·exact h
 ·rename_i hb
  have h1:NOk { s with votes:=s.votes.set m.frm.toNat true }:=h.of rfl rfl id rfl rfl rfl h.lead
  simp only [Bool.or_eq_true,Bool.not_eq_true',not_or,Bool.not_eq_false,beq_iff_eq] at hb
  simp only
  split
  ·exact nok_lead h1 (by show 1≤s.term;rw [←hb.1.1.2];exact hN)
  ·exact h1
theorem nok_answered (h:NOk s) (m:Msg):NOk (answeredM s m).2:=by
 unfold answeredM
 split
 ·exact h
 ·simp only
  split
  ·split
   ·exact h
   ·exact h.of rfl rfl id rfl rfl rfl h.lead
  ·split
   ·exact h
   ·have h1:NOk { s with mat:=s.mat.set m.frm.toNat (m.N.getD 2 0).toNat,next:=s.next.set m.frm.toNat (max (m.N.getD 2 0).toNat (s.next.getD m.frm.toNat 0))}:=h.of rfl rfl id rfl rfl rfl h.lead
    have h2:=nok_settle h1
    split
    ·exact h2
    ·split<;>exact h2
theorem nok_laysF (f:Nat) (l:List (Int×List UInt8)):∀(i:Nat) (s:Rp) (k:Dk),NOk s→Wf s k→s.leads=false→f+i≤s.log.length→NOk (laysF f l i s k).2.1:=by
 induction l with
 | nil=>intro i s k h hw hl hf;exact h
 | cons a l ih =>
  intro i s k h hw hl hf
  obtain ⟨t,rec⟩:=a
  unfold laysF
  by_cases h1:f+i<s.log.length∧(s.log.map Ent.term).getD (f+i) 0=t
  ·rw [if_pos h1]
   exact ih (i+1) s k h hw hl (by omega)
  ·rw [if_neg h1]
   by_cases h2:8000<rec.length∨t<1∨s.term<t∨f+i<s.agreed
   ·rw [if_pos h2];exact h
   ·rw [if_neg h2]
    have hn:=nok_place (k:=k) h (f+i) ⟨t,rec⟩ hf (by show 1≤t;omega) (by show t≤s.term;omega) (by show rec.length≤8000;omega)
    have hw2:=wf_place hw (f+i) ⟨t,rec⟩ hf (by omega) (fun e=>by rw [hl] at e;cases e) (by show rec.length≤8000;omega)
    have hs:=same_place (s:=s) (k:=k) (f+i) ⟨t,rec⟩
    have hg:=place_logG (s:=s) (k:=k) (f+i) ⟨t,rec⟩
    generalize placeM s k (f+i) ⟨t,rec⟩=p at *
    simp only
    by_cases h3:p.1=true
    ·rw [if_pos h3]
     have hlen:p.2.1.log.length=f+i+1:=by
      rw [hg h3];simp [Nat.min_eq_left hf]
     exact ih (i+1) p.2.1 p.2.2 hn hw2 (hs.all.2.2.2.1.trans hl) (by omega)
    ·rw [if_neg h3];exact hn
theorem nok_lays (h:NOk s) (hw:Wf s k) (m:Msg) (hle:m.N.getD 0 0≤s.term):NOk (laysM s k m).2.1:=by
 unfold laysM
 by_cases hb:(!(m.N.length==4+m.B.length)||decide (m.N.getD 1 0<0)||(m.N.getD 0 0==s.term&&s.leads))=true
 ·rw [if_pos hb];exact h
 rw [if_neg hb]
 by_cases h1:m.N.getD 0 0<s.term
 ·rw [if_pos h1];exact h
 rw [if_neg h1]
 have h0:=nok_ticks0 h 0
 have w0:Wf { s with ticks:=0 } k:=wf_scal hw s.lives 0 s.clock _ (Nat.zero_le _) hw.vl (Nat.le_refl _)
 simp only
 simp only [Bool.or_eq_true,Bool.not_eq_true',not_or,Bool.not_eq_false,decide_eq_true_eq,Bool.and_eq_true,beq_iff_eq,not_and] at hb
 obtain ⟨⟨hNl,hN1⟩,hld⟩:=hb
 have hld2:s.leads=false:=by
  have:=hld (by omega)
  simpa using this
 by_cases hft:fitsM { s with ticks:=0 } (m.N.getD 1 0) (m.N.getD 2 0)=true
 ·rw [if_pos hft]
  have hfl:(m.N.getD 1 0).toNat≤s.log.length:=by
   unfold fitsM at hft
   simp only [Bool.and_eq_true,decide_eq_true_eq] at hft
   omega
  have hF:=nok_laysF (m.N.getD 1 0).toNat ((m.N.drop 4).zip m.B) 0 { s with ticks:=0 } k h0 w0 hld2 hfl
  generalize laysF (m.N.getD 1 0).toNat ((m.N.drop 4).zip m.B) 0 { s with ticks:=0 } k=p at *
  by_cases hp:p.1=true
  ·rw [if_pos hp]
   have hq:NOk (if m.B.length=0 then p.2 else syncM p.2.1 p.2.2).1:=by
    split
    ·exact hF
    ·exact hF.sync
   generalize (if m.B.length=0 then p.2 else syncM p.2.1 p.2.2)=q at *
   split
   ·exact hq
   ·exact nok_agree hq _
  ·rw [if_neg hp];exact hF
 ·rw [if_neg hft];exact h0
theorem nok_get (h:NOk s) (hw:Wf s k) (m:Msg):NOk (getM s k m).2.1:=by
 have h0:=nok_doneS (k:=k) h
 have w0:=wf_doneS hw
 unfold getM
 by_cases hb:((doneS s k).done||badM (doneS s k) m)=true
 ·rw [if_pos hb];exact h0
 rw [if_neg hb]
 simp only [Bool.or_eq_true,not_or] at hb
 have hbad:=hb.2
 unfold badM at hbad
 simp only [Bool.or_eq_true,Bool.not_eq_true',not_or,Bool.not_eq_false,decide_eq_true_eq] at hbad
 obtain ⟨⟨⟨⟨⟨⟨_,hfo⟩,hf0⟩,hfn⟩,hln⟩,hN0⟩,hNM⟩:=hbad
 have hfn:m.frm<(s.n:Int):=by
  have:¬((s.n:Int)≤m.frm):=hfn
  omega
 have hp:∃p:Bool×Rp×Dk,p=(if (doneS s k).term<m.N.getD 0 0 then enterM (doneS s k) k (m.N.getD 0 0) (-1) else (true,doneS s k,k))∧NOk p.2.1∧Wf p.2.1 p.2.2∧p.2.1.n=s.n∧(p.1=true→m.N.getD 0 0≤p.2.1.term):=by
  by_cases ht:(doneS s k).term<m.N.getD 0 0
  ·rw [if_pos ht]
   have he:=enter_sameG (s:=doneS s k) (k:=k) (m.N.getD 0 0) (-1)
   exact ⟨_,rfl,nok_enter h0 _ _ (Int.le_of_lt ht) (by omega) (by omega) (by have:=w0.n1;omega),wf_enter w0 _ _ (by omega) (by omega) (by omega) (by have:=w0.n1;omega),he.2.1,fun e=>by rw [he.2.2.2 e];exact Int.le_refl _⟩
  ·rw [if_neg ht]
   exact ⟨_,rfl,h0,w0,rfl,fun _=>by show _≤(doneS s k).term;omega⟩
 obtain ⟨p,hpe,hn,hw1,p2,p4⟩:=hp
 simp only
 rw [←hpe]
 by_cases h1:p.1=true
 ·rw [if_pos h1]
  split
  ·exact nok_asked hn hw1 m (by omega) (by rw [p2];exact hfn)
  ·split
   ·exact nok_voted hn m (by omega)
   ·split
    ·exact nok_lays hn hw1 m (p4 h1)
    ·split
     ·exact nok_answered hn m
     ·split
      ·split
       ·exact hn.of rfl rfl id rfl rfl rfl hn.lead
       ·exact hn
      ·exact hn
 ·rw [if_neg h1];exact hn
end
end Go.Proofs.Ytnicaicjgaoolaa
