/- What the law leans on. No condition. -/
import Derived.Test.YtnhefallmioefaaGreatW0
import Derived.Test.YtnhefallmioefaaGreatW1
import Derived.Test.YtnhefallmioefaaGreatW5
import Derived.Test.YtnhefallmioefaaGreatW4
import Derived.Test.YtnhefallmioefaaGreatW2
set_option maxHeartbeats 8000000
set_option linter.unusedVariables false
set_option linter.unusedSimpArgs false
namespace Go.Proofs.YtnhefallmioefaaGreat
open Go.RowKit Go.ChangeMaps Go.WideMaps Go.Maps
set_option maxRecDepth 20000
theorem tz {p:Prop} (h:p:=by
 have aD:=TA.out.PW;refine Oj 14 (by (repeat apply QC.s)<;>exact QC.z) (λw hSw=>yJ rfl _ jy (Iq own n d l k.lives gv gn gm gh w)) ?_;refine dh 15 λK hK=>?_;go_simp
 refine hK.out _ _ (TA.out.PW.alloc TA.out.VG _) (λaD=>?_);clear hK K;refine bX ?_;refine aJ 16 ?_;refine iX ?_;clear aD;go_wp2_with fail
 go_meet
 exact ⟨_,gv,gn,gm,gh,rfl,P7.out _ _ _ _ _ TA.out⟩):p:=h
theorem xv {p:Prop} (h:p:=by
 have aD:=Pk.out.PW;refine dh 13 λK hK=>?_;go_simp
 refine hK.out _ _ Pk.out.h'.PW (λaD=>?_);clear hK K;refine bX ?_;have TA:=af Pk.out.h';clear aD;generalize V3.heap.size=gh at *;generalize V3.alloc (oH n)=V4 at *;exact tz):p:=h
theorem xu {p:Prop} (h:p:=by
 have aD:=Pk.out.PW;refine dh 11 λK hK=>?_;go_simp
 refine hK.out _ _ Pk.out.m'.PW (λaD=>?_);clear hK K;refine bX ?_;have TA:=af Pk.out.m';clear aD;generalize V3.heap.size=gm at *;generalize V3.alloc (oN n)=V4 at *;exact tz):p:=h
theorem xt {p:Prop} (h:p:=by
 have aD:=Pk.out.PW;refine dh 9 λK hK=>?_;go_simp
 refine hK.out _ _ Pk.out.a'.PW (λaD=>?_);clear hK K;refine bX ?_;have TA:=af Pk.out.a';clear aD;generalize V3.heap.size=gn at *;generalize V3.alloc (oN n)=V4 at *;exact tz):p:=h
theorem xq {p:Prop} (h:p:=by
 have aD:=Pk.out.PW;refine dh 7 λK hK=>?_;go_simp
 refine hK.out _ _ Pk.out.v'.PW (λaD=>?_);clear hK K;refine bX ?_;have TA:=af Pk.out.v';clear aD;generalize V3.heap.size=gv at *;generalize V3.alloc (oV n)=V4 at *;exact tz):p:=h
theorem CA {p:Prop} (h:p:=by
 generalize V1.alloc (oN n)=V2 at *;have aD:=O5.out.PW;refine mf 7 13 (λK hK=>?_) λK hK=>?_
 ·go_simp
  refine hK.out _ _ O5.out.v'.PW (λaD=>?_);clear hK K;refine bX ?_;have Pk:=af O5.out.v';clear aD;generalize V2.heap.size=gv at *;generalize V2.alloc (oV n)=V3 at *;exact xv
 ·go_simp
  refine hK.out _ _ O5.out.h'.PW (λaD=>?_);clear hK K;refine bX ?_;have Pk:=af O5.out.h';clear aD;generalize V2.heap.size=gh at *;generalize V2.alloc (oH n)=V3 at *;exact xq):p:=h
theorem Cz {p:Prop} (h:p:=by
 have aD:=O5.out.PW;refine mf 11 13 (λK hK=>?_) λK hK=>?_
 ·go_simp
  refine hK.out _ _ O5.out.m'.PW (λaD=>?_);clear hK K;refine bX ?_;have Pk:=af O5.out.m';clear aD;generalize V2.heap.size=gm at *;generalize V2.alloc (oN n)=V3 at *;exact xv
 ·go_simp
  refine hK.out _ _ O5.out.h'.PW (λaD=>?_);clear hK K;refine bX ?_;have Pk:=af O5.out.h';clear aD;generalize V2.heap.size=gh at *;generalize V2.alloc (oH n)=V3 at *;exact xu):p:=h
theorem Cy {p:Prop} (h:p:=by
 have aD:=O5.out.PW;refine mf 9 13 (λK hK=>?_) λK hK=>?_
 ·go_simp
  refine hK.out _ _ O5.out.a'.PW (λaD=>?_);clear hK K;refine bX ?_;have Pk:=af O5.out.a';clear aD;generalize V2.heap.size=gn at *;generalize V2.alloc (oN n)=V3 at *;exact xv
 ·go_simp
  refine hK.out _ _ O5.out.h'.PW (λaD=>?_);clear hK K;refine bX ?_;have Pk:=af O5.out.h';clear aD;generalize V2.heap.size=gh at *;generalize V2.alloc (oH n)=V3 at *;exact xt):p:=h
theorem Cx {p:Prop} (h:p:=by
 have aD:=O5.out.PW;refine mf 9 11 (λK hK=>?_) λK hK=>?_
 ·go_simp
  refine hK.out _ _ O5.out.a'.PW (λaD=>?_);clear hK K;refine bX ?_;have Pk:=af O5.out.a';clear aD;generalize V2.heap.size=gn at *;generalize V2.alloc (oN n)=V3 at *;exact xu
 ·go_simp
  refine hK.out _ _ O5.out.m'.PW (λaD=>?_);clear hK K;refine bX ?_;have Pk:=af O5.out.m';clear aD;generalize V2.heap.size=gm at *;generalize V2.alloc (oN n)=V3 at *;exact xt):p:=h
theorem Cv {p:Prop} (h:p:=by
 have aD:=O5.out.PW;refine mf 7 11 (λK hK=>?_) λK hK=>?_
 ·go_simp
  refine hK.out _ _ O5.out.v'.PW (λaD=>?_);clear hK K;refine bX ?_;have Pk:=af O5.out.v';clear aD;generalize V2.heap.size=gv at *;generalize V2.alloc (oV n)=V3 at *;exact xu
 ·go_simp
  refine hK.out _ _ O5.out.m'.PW (λaD=>?_);clear hK K;refine bX ?_;have Pk:=af O5.out.m';clear aD;generalize V2.heap.size=gm at *;generalize V2.alloc (oN n)=V3 at *;exact xq):p:=h
theorem y7 {p:Prop} (h:p:=by
 have aD:=O5.out.PW;refine mf 7 9 (λK hK=>?_) λK hK=>?_
 ·go_simp
  refine hK.out _ _ O5.out.v'.PW (λaD=>?_);clear hK K;refine bX ?_;have Pk:=af O5.out.v';clear aD;generalize V2.heap.size=gv at *;generalize V2.alloc (oV n)=V3 at *;exact xt
 ·go_simp
  refine hK.out _ _ O5.out.a'.PW (λaD=>?_);clear hK K;refine bX ?_;have Pk:=af O5.out.a';clear aD;generalize V2.heap.size=gn at *;generalize V2.alloc (oN n)=V3 at *;exact xq):p:=h
theorem Bu (n:Nat) (hn:n<=5) (w:World):(Instr.makeSlice 74 (.int .i64 (n:Int)) (.int .i64 (n:Int))).run Tryz.prog w = .ok (.slice (some ⟨w.heap.size,0,none⟩) n n) (w.alloc (.cells (jZ (List.replicate n 0)) 3)):=by
 have h:=run_make_row' (P:=Tryz.prog) 74 3 (.int .i64 0) 8 Tryz.underlying74 F.info3 rfl .i64 .i64 n az az w;rw [h];have e:madeCells #[Value.int .i64 0] n=jZ (List.replicate n 0):=by
  apply Array.ext';rw [toList_madeCells_one];simp [jZ]
 rw [e]
theorem Hw:(Tryz.prog.info? 117).map (λi=>(i.zero,i.size,i.bytes))=some (some (.agg #[.int .i64 0,.int .i64 0,.int .i64 0]),3,24):=dW
theorem yw:∀n,n<=5->madeCells (Value.agg #[.int .i64 0,.int .i64 0,.int .i64 0]).cells (n*3)=fZ (List.replicate n (0,0,0))
 | 0,_=>dW
 | 1,_=>dW
 | 2,_=>dW
 | 3,_=>dW
 | 4,_=>dW
 | 5,_=>dW
 | n+6,h=>az
theorem yk (n:Nat) (hn:n<=5) (w:World):(Instr.makeSlice 75 (.int .i64 (n:Int)) (.int .i64 (n:Int))).run Tryz.prog w = .ok (.slice (some ⟨w.heap.size,0,none⟩) n n) (w.alloc (.cells (fZ (List.replicate n (0,0,0))) 117)):=by
 obtain ⟨i0,Q4,hz0,hz1,hz2⟩:=info_parts Hw;have h:=run_make (P:=Tryz.prog) w 75 117 i0 _ Tryz.underlying75 Q4 hz0 .i64 .i64 (n:Int) (n:Int) az az Bm az;rw [h,bU,hz1];have e:=yw n hn;rw [e]
def dX (own n:Nat) (lives:Int) (recs:List (List UInt8)):Rp :=
  { own:=own,n:=n,wl:=⟨lives,false,recs⟩,lives:=lives,done:=false,Ow:=0,OC := -1,Oz:=[],agreed:=0,many:=0,Oy:=false,
    OB:=List.replicate n false,next:=List.replicate n 0,OE:=List.replicate n 0,Ox:=0,OA:=0,heard:=List.replicate n (0,0,0)}
theorem Iq (own n:Nat) (d l:Nat) (lives:Int) (gv gn gm gh:Nat) (w:World):(Instr.build 78 #[(0,.int .i64 (own:Int)),(1,.int .i64 (n:Int)),(2,.pointer (some ⟨d,0,none⟩)),(3,.pointer (some ⟨l,0,none⟩)),(4,.int .i64 lives),(7,.int .i64 (-1)),(12,.slice (some ⟨gv,0,none⟩) n n),(13,.slice (some ⟨gn,0,none⟩) n n),(14,.slice (some ⟨gm,0,none⟩) n n),(17,.slice (some ⟨gh,0,none⟩) n n)]).run Tryz.prog w =
 .ok (.agg #[.int .i64 (own:Int),.int .i64 (n:Int),.pointer (some ⟨d,0,none⟩),.pointer (some ⟨l,0,none⟩),.int .i64 lives,.bool false,.int .i64 0,.int .i64 (-1),.slice none 0 0,.int .i64 0,.int .i64 0,.bool false,.slice (some ⟨gv,0,none⟩) n n,.slice (some ⟨gn,0,none⟩) n n,.slice (some ⟨gm,0,none⟩) n n,.int .i64 0,.int .i64 0,.slice (some ⟨gh,0,none⟩) n n]) w:=run_build w 78 _ _ dW
@[reducible] def oV (n:Nat):Obj:=.cells (eg (List.replicate n false)) 4
@[reducible] def oN (n:Nat):Obj:=.cells (jZ (List.replicate n 0)) 3
@[reducible] def oH (n:Nat):Obj:=.cells (fZ (List.replicate n (0,0,0))) 117
structure Xd (B n:Nat) (W V:World) (v a m h:Option Nat):Prop where
 PW:Below B W V
 VG:B<=V.heap.size
 fv:∀g,v=some g->V.heap[g]? = some (oV n)/\B<=g
 fa:∀g,a=some g->V.heap[g]? = some (oN n)/\B<=g
 fm:∀g,m=some g->V.heap[g]? = some (oN n)/\B<=g
 fh:∀g,h=some g->V.heap[g]? = some (oH n)/\B<=g
 ne:∀x y,a=some x->m=some y->x≠y
section
variable {B n:Nat} {W V:World} {v a m h:Option Nat}
theorem Xd.v' (k:Xd B n W V none a m h):Xd B n W (V.alloc (oV n)) (some V.heap.size) a m h :=
 ⟨k.PW.alloc k.VG _,aF k.VG bL,λg e=>by cases e;exact ⟨aV _ _,k.VG⟩,λg e=>⟨bD (k.fa g e).1 _,(k.fa g e).2⟩,λg e=>⟨bD (k.fm g e).1 _,(k.fm g e).2⟩,λg e=>⟨bD (k.fh g e).1 _,(k.fh g e).2⟩,k.ne⟩
theorem Xd.a' (k:Xd B n W V v none m h):Xd B n W (V.alloc (oN n)) v (some V.heap.size) m h :=
 ⟨k.PW.alloc k.VG _,aF k.VG bL,λg e=>⟨bD (k.fv g e).1 _,(k.fv g e).2⟩,λg e=>by cases e;exact ⟨aV _ _,k.VG⟩,λg e=>⟨bD (k.fm g e).1 _,(k.fm g e).2⟩,λg e=>⟨bD (k.fh g e).1 _,(k.fh g e).2⟩,λx y e f=>by cases e;exact (Nat.ne_of_lt (bg (k.fm y f).1)).symm⟩
theorem Xd.m' (k:Xd B n W V v a none h):Xd B n W (V.alloc (oN n)) v a (some V.heap.size) h :=
 ⟨k.PW.alloc k.VG _,aF k.VG bL,λg e=>⟨bD (k.fv g e).1 _,(k.fv g e).2⟩,λg e=>⟨bD (k.fa g e).1 _,(k.fa g e).2⟩,λg e=>by cases e;exact ⟨aV _ _,k.VG⟩,λg e=>⟨bD (k.fh g e).1 _,(k.fh g e).2⟩,λx y e f=>by cases f;exact Nat.ne_of_lt (bg (k.fa x e).1)⟩
theorem Xd.h' (k:Xd B n W V v a m none):Xd B n W (V.alloc (oH n)) v a m (some V.heap.size) :=
 ⟨k.PW.alloc k.VG _,aF k.VG bL,λg e=>⟨bD (k.fv g e).1 _,(k.fv g e).2⟩,λg e=>⟨bD (k.fa g e).1 _,(k.fa g e).2⟩,λg e=>⟨bD (k.fm g e).1 _,(k.fm g e).2⟩,λg e=>by cases e;exact ⟨aV _ _,k.VG⟩,k.ne⟩
end
@[reducible] def oR (own n d l:Nat) (lives:Int) (gv gn gm gh:Nat):Obj:=.cells #[.int .i64 (own:Int),.int .i64 (n:Int),.pointer (some ⟨d,0,none⟩),.pointer (some ⟨l,0,none⟩),.int .i64 lives,.bool false,.int .i64 0,.int .i64 (-1),.slice none 0 0,.int .i64 0,.int .i64 0,.bool false,.slice (some ⟨gv,0,none⟩) n n,.slice (some ⟨gn,0,none⟩) n n,.slice (some ⟨gm,0,none⟩) n n,.int .i64 0,.int .i64 0,.slice (some ⟨gh,0,none⟩) n n] 78
structure Xc (W wx:World) (s:Rp) (l d r gv gn gm gh:Nat):Prop where
 cell:wx.heap[r]? = some (.cells (fs d l s (.slice none 0 0) gv gn gm gh) 78 (0,0))
 OB:wx.heap[gv]? = some (.cells (eg s.OB) 4 (0,0))
 next:wx.heap[gn]? = some (.cells (jZ s.next) 3 (0,0))
 OE:wx.heap[gm]? = some (.cells (jZ s.OE) 3 (0,0))
 heard:wx.heap[gh]? = some (.cells (fZ s.heard) 117 (0,0))
 nm:gn≠gm
 ge:∀b∈[r,gv,gn,gm,gh],W.heap.size<=b
 below:Below W.heap.size W wx
theorem Xc.nd {w W wx:World} {s:Rp} {A D D1 L:List Nat} {l d r gv gn gm gh:Nat} {k:Dk} (h:Xc W wx s l d r gv gn gm gh) (hl:s.Oz=[]) (hA:∀b∈A,b<w.heap.size) (hD:∀b∈D,b∈A)
  (hwd:WD W (A++(D1++L)) D1 L l d s.wl k) (hL:∀b∈L,w.heap.size<=b) (hm:OY D D1 w W) :
  ∃A' X',Nd wx A' X' r d l s k/\Mv A A' D X' w wx:=by
 have hlt:∀b∈[r,gv,gn,gm,gh],b<wx.heap.size:=λb hb=>by
  simp only [cA,ki,or_false] at hb;rcases hb with rfl | rfl | rfl | rfl | rfl
  ·exact bg h.cell
  ·exact bg h.OB
  ·exact bg h.next
  ·exact bg h.OE
  ·exact bg h.heard
 have QG:Ext (A++(D1++L)) ((A++(D1++L))++[r,gv,gn,gm,gh]) W:=λb hb=>by
  rcases aA.1 hb with h1 | h1
  ·exact .inl h1
  ·exact .inr (h.ge b h1)
 have ho:Only [] W wx:=Only.OL h.below [];have hw2:WD wx ((A++(D1++L))++[r,gv,gn,gm,gh]) D1 L l d s.wl k :=
  ⟨hwd.wl.keep ho (λb _=>by simp) (λb hb=>by cases hb) QG,hwd.dk.below h.below,hwd.Vm,λb hb=>aI _ (hwd.dA b hb),λb hb=>aI _ (hwd.lA b hb),λb hb=>by
   rcases aA.1 hb with h1 | h1
   ·exact aK (hwd.alt b h1) h.below.size
   ·exact hlt b h1⟩
 have hdis:∀S:List Nat,(∀b∈S,b<W.heap.size)->SR [r,gv,gn,gm,gh] S:=λS hS b hb hs=>by
  have:=h.ge b hb;have:=hS b hs;omega
 have hn:QK wx ((A++(D1++L))++[r,gv,gn,gm,gh]) D1 L [r,gv,gn,gm,gh] r d l s k (.slice none 0 0) gv gn gm gh :=
  ⟨hw2,h.cell,.inl ⟨rfl,hl⟩,h.OB,h.next,h.OE,h.heard,h.nm,by simp,by simp,by simp,by simp,by simp,hdis _ (λb hb=>hwd.alt b (hwd.dA b hb)),hdis _ (λb hb=>hwd.alt b (hwd.lA b hb)),λb hb=>aR _ hb⟩
 refine ⟨_,D1++(L++[r,gv,gn,gm,gh]),hn.nd (λb=>by simp [aA]),⟨⟨hm.only.trans (Only.OL h.below D),λb hb=>?_,λb hb=>aI _ (hm.sub b hb)⟩,λb hb=>?_,λb hb=>aI _ (aI _ hb)⟩⟩
 ·rcases aA.1 hb with h1 | h1
  ·exact hm.gr b h1
  ·rcases aA.1 h1 with h1 | h1
   ·exact .inr (hL b h1)
   ·exact .inr (aF hm.only.size (h.ge b h1))
 ·rcases aA.1 hb with h1 | h1
  ·rcases aA.1 h1 with h1 | h1
   ·exact .inl h1
   ·rcases aA.1 h1 with h1 | h1
    ·rcases hm.gr b h1 with h2 | h2
     ·exact .inl (hD b h2)
     ·exact .inr h2
    ·exact .inr (hL b h1)
  ·exact .inr (aF hm.only.size (h.ge b h1))
section
variable {w w':World} {A A' X X' D:List Nat} {r d l:Nat} {s s':Rp} {k k':Dk}
theorem qF (h:O6 w D d k) (ho:k.off=false) (own n:Nat) (O8:n<=5) (hown:own<n) (ns:List O3) (ht:Torn k (ns.map O3.bytes)) (hr:∀x∈ns.map O3.bytes,x.length<=20000) (VM:k.total<=1048576)
  (Qo:dz (dX own n k.lives (ns.map O3.bytes)) ns) (hb:ns.length<=100000) (hA:∀b∈A,b<w.heap.size) (hD:∀b∈D,b∈A) :
  Calls Tryz.prog 18 #[.int .i64 (own:Int),.int .i64 (n:Int),.pointer (some ⟨d,0,none⟩)] w λe w'=>∃r l A' X',e = .returned (.tuple #[.pointer (some ⟨r,0,none⟩),.int .i64 0])/\Nd w' A' X' r d l (da (dX own n k.lives (ns.map O3.bytes)) ns) (fJ k (ns.map O3.bytes))/\Mv A A' D X' w w':=by
 have ZZ:Hid ((fJ k (ns.map O3.bytes)).lives=k.lives/\(fJ k (ns.map O3.bytes)).off=false):=af (by unfold fJ;split<;>exact ⟨rfl,ho⟩);have HO:=af (AU h ho ht hr VM);have HREC:Hid (∀W A2 X2 r l,Nd W A2 X2 r d l (dX own n k.lives (ns.map O3.bytes)) (fJ k (ns.map O3.bytes))->Calls Tryz.prog 36 #[.pointer (some ⟨r,0,none⟩)] W λe w'=>e = .returned (.bool true)/\Py W w' A2 X2 r d l (da (dX own n k.lives (ns.map O3.bytes)) ns) (fJ k (ns.map O3.bytes))):=af (λW A2 X2 r l h2 =>
  xN h2 ns rfl Qo (aP _) Ha O8 rfl hb hr (by unfold n8;rw [ZZ.out.1,ZZ.out.2];simp [dX]))
 have HA:=af hA;have HD:=af hD;have HFT:Hid ((dX own n k.lives (ns.map O3.bytes)).OB=List.replicate n false/\(dX own n k.lives (ns.map O3.bytes)).next=List.replicate n 0/\(dX own n k.lives (ns.map O3.bytes)).OE=List.replicate n 0/\(dX own n k.lives (ns.map O3.bytes)).heard=List.replicate n (0,0,0)/\(dX own n k.lives (ns.map O3.bytes)).Oz=[]/\(dX own n k.lives (ns.map O3.bytes)).wl=⟨k.lives,false,ns.map O3.bytes⟩):=af ⟨rfl,rfl,rfl,rfl,rfl,rfl⟩;have HRP:Hid (∀l gv gn gm gh,fs d l (dX own n k.lives (ns.map O3.bytes)) (.slice none 0 0) gv gn gm gh=#[.int .i64 (own:Int),.int .i64 (n:Int),.pointer (some ⟨d,0,none⟩),.pointer (some ⟨l,0,none⟩),.int .i64 k.lives,.bool false,.int .i64 0,.int .i64 (-1),.slice none 0 0,.int .i64 0,.int .i64 0,.bool false,
  .slice (some ⟨gv,0,none⟩) n n,.slice (some ⟨gn,0,none⟩) n n,.slice (some ⟨gm,0,none⟩) n n,.int .i64 0,.int .i64 0,.slice (some ⟨gh,0,none⟩) n n]):=af (λ_ _ _ _ _=>rfl)
 have g1:¬(n:Int)<1:=az;have g2:¬(5:Int)<(n:Int):=az;have g3:¬(own:Int)<0:=az;have g4:¬(n:Int)<=(own:Int):=az;have XC:=af O8;clear h ho ht hr VM Qo hb hA hD hown O8;generalize dX own n k.lives (ns.map O3.bytes)=s0 at *;generalize fJ k (ns.map O3.bytes)=k1 at *;generalize ns.map O3.bytes=recs at *;go_enter Tryz.func18,Tryz.ntmps18
 go_wp2_with fail
 refine HO.out.mono ?_;rintro e W ⟨l,D1,L,rfl,hwd,hL,Uo⟩;have HWD:=af (hwd A HA.out);have HL:=af hL;have VE:=af Uo;have HDK:=af (hwd [] (λb hb=>by cases hb)).dk;clear hwd hL Uo;obtain ⟨B,hB⟩:∃B,B=W.drew.heap.size:=⟨_,rfl⟩
 have HS:Hid (∀w',Below B W.drew w'->Calls Tryz.prog 35 #[.pointer (some ⟨d,0,none⟩)] w' λe w2=>e = .returned (.int .i64 k.lives)/\w'=w2):=af (λw' hb=>by
  rw [hB] at hb;have h:=iq ((HDK.out.below (aB W 1)).below hb);rw [ZZ.out.1] at h;exact h)
 have QQ:Hid (Xd B n W.drew W.drew none none none none):=af ⟨by rw [hB];exact aG _ _,by rw [hB];exact ah _,(λg e=>by cases e),(λg e=>by cases e),(λg e=>by cases e),(λg e=>by cases e),(λx y e=>by cases e)⟩;have P7:Hid (∀(V:World) (gv gn gm gh:Nat),Xd B n W.drew V (some gv) (some gn) (some gm) (some gh)->Xc W (V.alloc (oR own n d l k.lives gv gn gm gh)) s0 l d V.heap.size gv gn gm gh):=af (λV gv gn gm gh h=>by
  have Vz:B=W.heap.size:=hB;obtain ⟨f1,f2,f3,f4,_⟩:=HFT.out;refine ⟨by rw [HRP.out];exact aV _ _,by rw [f1];exact bD (h.fv _ rfl).1 _,by rw [f2];exact bD (h.fa _ rfl).1 _,by rw [f3];exact bD (h.fm _ rfl).1 _,by rw [f4];exact bD (h.fh _ rfl).1 _,h.ne _ _ rfl rfl,λb hm=>?_,?_⟩
  · have:=h.VG;have:=(h.fv _ rfl).2;have:=(h.fa _ rfl).2;have:=(h.fm _ rfl).2;have:=(h.fh _ rfl).2;simp only [cA,ki,or_false] at hm;rcases hm with rfl | rfl | rfl | rfl | rfl<;>omega
  · have h9:=h.PW.alloc h.VG (oR own n d l k.lives gv gn gm gh);rw [Vz] at h9;exact (aB W 1).trans h9)
 clear hB;have hmk1:=qX n XC.out;have hmk2:=Bu n XC.out;have hmk3:=yk n XC.out;go_upto_region 6 with (fail)
 go_cut [10] (λv wx=>∃r gv gn gm gh,v = .pointer (some ⟨r,0,none⟩)/\Xc W wx s0 l d r gv gn gm gh)
 case first =>
  as_aux_lemma =>
  refine wp_region_held_drew (S:=λw'=>Below B W.drew w') dW QQ.out.PW (λaD=>?_);refine aJ 0 ?_;refine aJ 1 ?_;refine aJ 2 ?_;refine aJ 3 ?_;refine aJ 4 ?_;refine gW (i:=5) (oi:={ dst:=some 39,op:=Op.call { callee:=Callee.value (Operand.func 35),args:=#[Operand.tmp 38],argTypes:=#[50]},type:=3,pos:=_,after:=#[{ on:=4,ground:=Ground.data }],guard:=none }) (v:=(.int .i64 k.lives)) rfl dW dW dW (λ_ _ _ h=>h) jy 35 #[.pointer (some ⟨d,0,none⟩)] (λw hSw=>by simp [execOp,resolve,invoke,Act.eval,Deferred.ofValue,Result.andThen]) (λw hSw=>HS.out w hSw) (by exact aD) ?_;refine bX ?_;refine aJ 6 ?_;refine aJ 8 ?_;refine aJ 10 ?_;refine aJ 12 ?_;generalize W.drew=V0 at *;refine Ol 7 9 11 13 (λK hK=>?_) (λK hK=>?_) (λK hK=>?_) λK hK=>?_
  ·go_simp
   refine hK.out _ _ QQ.out.v'.PW (λaD=>?_);clear hK K;refine bX ?_;have PK:=af QQ.out.v';clear aD;generalize V0.heap.size=gv at *;generalize V0.alloc (oV n)=V1 at *;have aD:=PK.out.PW;refine LF 9 11 13 (λK hK=>?_) (λK hK=>?_) λK hK=>?_
   ·go_simp
    refine hK.out _ _ PK.out.a'.PW (λaD=>?_);clear hK K;refine bX ?_;have O5:=af PK.out.a';clear aD;generalize V1.heap.size=gn at *;generalize V1.alloc (oN n)=V2 at *;exact Cz
   ·go_simp
    refine hK.out _ _ PK.out.m'.PW (λaD=>?_);clear hK K;refine bX ?_;have O5:=af PK.out.m';clear aD;generalize V1.heap.size=gm at *;generalize V1.alloc (oN n)=V2 at *;exact Cy
   ·go_simp
    refine hK.out _ _ PK.out.h'.PW (λaD=>?_);clear hK K;refine bX ?_;have O5:=af PK.out.h';clear aD;generalize V1.heap.size=gh at *;generalize V1.alloc (oH n)=V2 at *;exact Cx
  ·go_simp
   refine hK.out _ _ QQ.out.a'.PW (λaD=>?_);clear hK K;refine bX ?_;have PK:=af QQ.out.a';clear aD;generalize V0.heap.size=gn at *;generalize V0.alloc (oN n)=V1 at *;have aD:=PK.out.PW;refine LF 7 11 13 (λK hK=>?_) (λK hK=>?_) λK hK=>?_
   ·go_simp
    refine hK.out _ _ PK.out.v'.PW (λaD=>?_);clear hK K;refine bX ?_;have O5:=af PK.out.v';clear aD;generalize V1.heap.size=gv at *;generalize V1.alloc (oV n)=V2 at *;exact Cz
   ·go_simp
    refine hK.out _ _ PK.out.m'.PW (λaD=>?_);clear hK K;refine bX ?_;have O5:=af PK.out.m';clear aD;generalize V1.heap.size=gm at *;exact CA
   ·go_simp
    refine hK.out _ _ PK.out.h'.PW (λaD=>?_);clear hK K;refine bX ?_;have O5:=af PK.out.h';clear aD;generalize V1.heap.size=gh at *;generalize V1.alloc (oH n)=V2 at *;exact Cv
  ·go_simp
   refine hK.out _ _ QQ.out.m'.PW (λaD=>?_);clear hK K;refine bX ?_;have PK:=af QQ.out.m';clear aD;generalize V0.heap.size=gm at *;generalize V0.alloc (oN n)=V1 at *;have aD:=PK.out.PW;refine LF 7 9 13 (λK hK=>?_) (λK hK=>?_) λK hK=>?_
   ·go_simp
    refine hK.out _ _ PK.out.v'.PW (λaD=>?_);clear hK K;refine bX ?_;have O5:=af PK.out.v';clear aD;generalize V1.heap.size=gv at *;generalize V1.alloc (oV n)=V2 at *;exact Cy
   ·go_simp
    refine hK.out _ _ PK.out.a'.PW (λaD=>?_);clear hK K;refine bX ?_;have O5:=af PK.out.a';clear aD;generalize V1.heap.size=gn at *;exact CA
   ·go_simp
    refine hK.out _ _ PK.out.h'.PW (λaD=>?_);clear hK K;refine bX ?_;have O5:=af PK.out.h';clear aD;generalize V1.heap.size=gh at *;generalize V1.alloc (oH n)=V2 at *;exact y7
  ·go_simp
   refine hK.out _ _ QQ.out.h'.PW (λaD=>?_);clear hK K;refine bX ?_;have PK:=af QQ.out.h';clear aD;generalize V0.heap.size=gh at *;generalize V0.alloc (oH n)=V1 at *;have aD:=PK.out.PW;refine LF 7 9 11 (λK hK=>?_) (λK hK=>?_) λK hK=>?_
   ·go_simp
    refine hK.out _ _ PK.out.v'.PW (λaD=>?_);clear hK K;refine bX ?_;have O5:=af PK.out.v';clear aD;generalize V1.heap.size=gv at *;generalize V1.alloc (oV n)=V2 at *;exact Cx
   ·go_simp
    refine hK.out _ _ PK.out.a'.PW (λaD=>?_);clear hK K;refine bX ?_;have O5:=af PK.out.a';clear aD;generalize V1.heap.size=gn at *;generalize V1.alloc (oN n)=V2 at *;exact Cv
   ·go_simp
    refine hK.out _ _ PK.out.m'.PW (λaD=>?_);clear hK K;refine bX ?_;have O5:=af PK.out.m';clear aD;generalize V1.heap.size=gm at *;generalize V1.alloc (oN n)=V2 at *;exact y7
 case rest =>
 obtain ⟨r,gv,gn,gm,gh,rfl,hf⟩:=hcut;rename World=>wx;obtain ⟨A2,X2,h2,m2⟩:=hf.nd HFT.out.2.2.2.2.1 HA.out HD.out (by rw [HFT.out.2.2.2.2.2,<-ZZ.out.1];exact HWD.out) HL.out VE.out;have H2:=af h2;have M2:=af m2;clear hf h2 m2 hmk1 hmk2 hmk3;go_wp2_with fail
 refine (HREC.out wx A2 X2 r l H2.out).mono ?_;rintro e w5 ⟨rfl,O8⟩;have Vo:=af O8;clear O8;go_wp2_with fail
 go_ret2
 obtain ⟨A5,X5,h5,m5⟩:=Vo.out;exact ⟨r,l,A5,X5,rfl,h5,M2.out.trans m5⟩
end
structure Wo where
 s:Rp
 k:Dk
 up:Bool
structure Mn where
 nodes:List Wo
 q:List OM
 long:List (List UInt8)
 bad:Bool
 gn:Nat
def Oi:Rp:=dX 0 1 0 []
def NY:Wo:=⟨Oi,⟨0,true,0,none⟩,false⟩
def Mn.at (S:Mn) (i:Nat):Wo:=S.nodes.getD i NY
structure QY (w:World) (A X:List Nat) (r d l:Nat) (nd:Wo):Prop where
 up:nd.up=true->Nd w A X r d l nd.s nd.k
 dn:nd.up=false->O6 w X d nd.k
 xA:∀b∈X,b∈A
theorem Nd.keepS {w w':World} {A A' X S:List Nat} {r d l:Nat} {s:Rp} {k:Dk} (h:Nd w A X r d l s k) (ho:Only S w w') (hS:∀b∈S,b∈A) (hd:∀b∈X,b∉S) (he:Ext A A' w) (hs:∀b∈A,b∈A') (ha:∀b∈A',b<w'.heap.size):Nd w' A' X r d l s k:=by
 obtain ⟨D,L,R,vl,gv,gn,gm,gh,h,hX⟩:=h;have hD:∀b∈D,b∉S:=λb hb=>hd b ((hX b).2 (.inl hb));have hL:∀b∈L,b∉S:=λb hb=>hd b ((hX b).2 (.inr (.inl hb)));have hR:∀b∈R,b∉S:=λb hb=>hd b ((hX b).2 (.inr (.inr hb)));exact ⟨D,L,R,vl,gv,gn,gm,gh,⟨⟨h.wd.wl.keep ho hL hS he,h.wd.dk.keep ho hD,h.wd.Vm,λb hb=>hs b (h.wd.dA b hb),λb hb=>hs b (h.wd.lA b hb),ha⟩,
  ho.keeps h.cell (hR _ h.rR),h.Oz.step ho hS he,ho.keeps h.OB (hR _ h.vR),ho.keeps h.next (hR _ h.nR),ho.keeps h.OE (hR _ h.mR),ho.keeps h.heard (hR _ h.hR),h.nm,h.rR,h.vR,h.nR,h.mR,h.hR,h.Yi,h.Yh,λb hb=>hs b (h.rA b hb)⟩,hX⟩
theorem QY.keep {w w':World} {A A' X S:List Nat} {r d l:Nat} {nd:Wo} (h:QY w A X r d l nd) (ho:Only S w w') (hS:∀b∈S,b∈A) (hd:∀b∈X,b∉S) (he:Ext A A' w) (hs:∀b∈A,b∈A') (ha:∀b∈A',b<w'.heap.size):QY w' A' X r d l nd :=
 ⟨λhu=>(h.up hu).keepS ho hS hd he hs ha,λhu=>(h.dn hu).keep ho hd,λb hb=>hs b (h.xA b hb)⟩
def fq (p:Nat):Value:=.pointer (some ⟨p,0,none⟩)
def tW (f:Nat->Nat) (n:Nat):List Value:=(List.range n).map λi=>fq (f i)
def lX {β:Type} (f:Nat->β) (i:Nat) (x:β):Nat->β:=λj=>if j=i then x else f j
theorem dK {β:Type} (f:Nat->β) (i:Nat) (x:β):lX f i x i=x:=ay rfl
theorem dE {β:Type} (f:Nat->β) {i j:Nat} (x:β) (h:j≠i):lX f i x j=f j:=am h
def Mn.set (S:Mn) (i:Nat) (nd:Wo):Mn:={ S with nodes:=S.nodes.set i nd }
theorem Mn.at_set (S:Mn) (i j:Nat) (nd:Wo) (hi:i<S.nodes.length):(S.set i nd).at j=if j=i then nd else S.at j:=by
 grind [Mn.set,Mn.at]
theorem sD {β:Type} (f:Nat->β) (i:Nat):lX f i (f i)=f:=by
 grind [lX]
section
variable {w w':World} {A A' Y Z:List Nat} {n:Nat} {Xs:Nat->List Nat}
theorem ua {X':List Nat} {i:Nat} (hi:i<n) (hz:∀b,b∈Z↔b∈Y\/∃i,i<n/\b∈Xs i) (hm:Mv A A' (Xs i) X' w w'):∃Z',(∀b,b∈Z'↔b∈Y\/∃j,j<n/\b∈lX Xs i X' j)/\Mv A A' Z Z' w w':=by
 refine ⟨Z++X',λb=>?_,⟨⟨hm.mv.only.mono (λb hb=>(hz b).2 (.inr ⟨i,hi,hb⟩)),λb hb=>?_,λb hb=>aI _ hb⟩,hm.ext,hm.sub⟩⟩
 ·rw [aA,hz b];constructor
  ·rintro ((h1 | ⟨j,hj,hb⟩) | h1)
   ·exact .inl h1
   ·by_cases e:j=i
    ·subst e;exact .inr ⟨j,hj,by rw [dK];exact hm.mv.sub b hb⟩
    ·exact .inr ⟨j,hj,by rw [dE _ _ e];exact hb⟩
   ·exact .inr ⟨i,hi,by rw [dK];exact h1⟩
  ·grind [dK,dE]
 ·rcases aA.1 hb with h1 | h1
  ·exact .inl h1
  ·rcases hm.mv.gr b h1 with h2 | h2
   ·grind
   ·exact .inr h2
end
structure PZ (w:World) (A Y:List Nat) (g n:Nat) (S:Mn) (es:Pn) (os rs ds ls:Nat->Nat) (Xs:Nat->List Nat) (vl:Value) (nb mb:Nat) (qv lv:Value):Prop where
 cell:w.heap[g]? = some (.cells #[vl,fq nb,lv] 47 (0,0))
 lr:w.ownsRow 0 56 1 vl n (tW os n)
 one:∀i,i<n->w.heap[os i]? = some (.cells #[fq (ds i),fq (rs i),.bool (S.at i).up] 58 (0,0))
 RL:w.heap[nb]? = some (.cells #[.int .i64 (n:Int),.int .i64 2000,qv,.map (some mb)] 66 (0,0))
 cut:IsCut w mb es
 node:∀i,i<n->QY w A (Xs i) (rs i) (ds i) (ls i) (S.at i)
 q:Ue w A Y qv S.q
 z:uK qv
 long:PV w A lv S.long
 nl:S.nodes.length=n
 n5:n<=5
 gY:g∈Y
 oY:∀i,i<n->os i∈Y
 lY:∀b,vl.ownBlock=some b->b∈Y
 nY:nb∈Y
 mY:mb∈Y
 oo:∀i j,i<n->j<n->os i=os j->i=j
 yx:∀i,i<n->SR Y (Xs i)
 xx:∀i j,i<n->j<n->i≠j->SR (Xs i) (Xs j)
 yA:∀b∈Y,b∈A
 alt:∀b∈A,b<w.heap.size
structure Gy (w:World) (A Z:List Nat) (g n:Nat) (S:Mn) (es:Pn):Prop where
 ex:∃Y os rs ds ls Xs vl nb mb qv lv,PZ w A Y g n S es os rs ds ls Xs vl nb mb qv lv/\∀b,b∈Z↔b∈Y\/∃i,i<n/\b∈Xs i
structure Px (w w':World) (A Z:List Nat) (g n:Nat) (S:Mn) (es:Pn):Prop where
 ex:∃A' Z',Gy w' A' Z' g n S es/\Mv A A' Z Z' w w'
section
variable {w w':World} {A A' Y Z Z':List Nat} {g n:Nat} {S:Mn} {es:Pn} {os rs ds ls:Nat->Nat} {Xs:Nat->List Nat} {vl:Value} {nb mb:Nat} {qv lv:Value}
theorem Px.trans {w'':World} {S':Mn} {es':Pn} (m:Mv A A' Z Z' w w') (h:Px w' w'' A' Z' g n S' es'):Px w w'' A Z g n S' es':=by
 obtain ⟨A2,Z2,h,m2⟩:=h;exact ⟨A2,Z2,h,m.trans m2⟩
theorem Gy.gyp (h:Gy w' A' Z' g n S es) (m:Mv A A' Z Z' w w'):Px w w' A Z g n S es:=⟨A',Z',h,m⟩
theorem PZ.keep {T:List Nat} (h:PZ w A Y g n S es os rs ds ls Xs vl nb mb qv lv) (ho:Only T w w') (hT:∀b∈T,b∈A) (hY:∀b∈Y,b∉T) (hX:∀i,i<n->∀b∈Xs i,b∉T) (he:Ext A A' w) (hs:∀b∈A,b∈A') (ha:∀b∈A',b<w'.heap.size):PZ w' A' Y g n S es os rs ds ls Xs vl nb mb qv lv :=
 ⟨ho.keeps h.cell (hY _ h.gY),bR h.lr ho (λb hb=>hY _ (h.lY b hb)),λi hi=>ho.keeps (h.one i hi) (hY _ (h.oY i hi)),ho.keeps h.RL (hY _ h.nY),h.cut.only ho (hY _ h.mY),λi hi=>(h.node i hi).keep ho hT (hX i hi) he hs ha,
  h.q.keep ho hT (λb hb _ _=>hY b hb) he (λb hb=>hb),h.z,h.long.step ho hT he,h.nl,h.n5,h.gY,h.oY,h.lY,h.nY,h.mY,h.oo,h.yx,h.xx,λb hb=>hs b (h.yA b hb),ha⟩
theorem PZ.below (h:PZ w A Y g n S es os rs ds ls Xs vl nb mb qv lv) (hb:Below w.heap.size w w'):PZ w' A Y g n S es os rs ds ls Xs vl nb mb qv lv :=
 h.keep (Only.OL hb []) (λb hb=>by cases hb) (λb _=>by simp) (λi _ b _=>by simp) (Ext.refl _ _) (λb hb=>hb) (λb hb2=>aK (h.alt b hb2) hb.size)
theorem Gy.below (h:Gy w A Z g n S es) (hb:Below w.heap.size w w'):Gy w' A Z g n S es:=by
 obtain ⟨Y,os,rs,ds,ls,Xs,vl,nb,mb,qv,lv,h,hz⟩:=h;exact ⟨Y,os,rs,ds,ls,Xs,vl,nb,mb,qv,lv,h.below hb,hz⟩
theorem Gy.zA (h:Gy w A Z g n S es):∀b∈Z,b∈A:=by
 obtain ⟨Y,os,rs,ds,ls,Xs,vl,nb,mb,qv,lv,h,hz⟩:=h;intro b hb;rcases (hz b).1 hb with h1 | ⟨i,hi,h1⟩
 ·exact h.yA b h1
 ·exact (h.node i hi).xA b h1
theorem Gy.alt (h:Gy w A Z g n S es):∀b∈A,b<w.heap.size:=by
 obtain ⟨Y,os,rs,ds,ls,Xs,vl,nb,mb,qv,lv,h,hz⟩:=h;exact h.alt
theorem PZ.call {X':List Nat} {i:Nat} {nd:Wo} (h:PZ w A Y g n S es os rs ds ls Xs vl nb mb qv lv) (hi:i<n) (hm:Mv A A' (Xs i) X' w w') (hn:QY w' A' X' (rs i) (ds i) (ls i) nd) (hu:nd.up=(S.at i).up) (ha:∀b∈A',b<w'.heap.size) :
  PZ w' A' Y g n (S.set i nd) es os rs ds ls (lX Xs i X') vl nb mb qv lv:=by
 have hT:∀b∈Xs i,b∈A:=(h.node i hi).xA;have hY:∀b∈Y,b∉Xs i:=h.yx i hi;have ho:=hm.mv.only;have RY:∀P:List Nat,(∀b∈P,b∈A)->SR P (Xs i)->SR P X':=λP hP hd b hb hx=>Jv;refine ⟨ho.keeps h.cell (hY _ h.gY),bR h.lr ho (λb hb=>hY _ (h.lY b hb)),λj hj=>?_,ho.keeps h.RL (hY _ h.nY),h.cut.only ho (hY _ h.mY),λj hj=>?_,
  h.q.keep ho hT (λb hb _ _=>hY b hb) hm.ext (λb hb=>hb),h.z,h.long.step ho hT hm.ext,by simp [Mn.set,h.nl],h.n5,h.gY,h.oY,h.lY,h.nY,h.mY,h.oo,λj hj=>?_,λj1 j2 h1 h2 hne=>?_,λb hb=>hm.sub b (h.yA b hb),ha⟩
 ·grind [Mn.at_set,h.nl,ho.keeps,h.one,h.oY]
 ·rw [Mn.at_set _ _ _ _ (by rw [h.nl];exact hi)];by_cases SX:j=i
  ·subst SX;rw [ay rfl,dK];exact hn
  ·rw [am SX,dE _ _ SX];exact (h.node j hj).keep ho hT (h.xx j i hj hi SX) hm.ext hm.sub ha
 ·grind [dK,dE,h.yA,h.yx]
 ·by_cases e1:j1=i
  ·subst e1;have e2:j2≠j1:=λe=>hne e.symm;exact JA
  ·by_cases e2:j2=i
   ·subst e2;rw [dK,dE _ _ e1];exact RY (Xs j1) (h.node j1 h1).xA (h.xx j1 j2 h1 h2 hne)
   ·grind [dE,h.xx]
end
section
variable {w w':World} {A A' Y Y' Z Z':List Nat} {g n:Nat} {S:Mn} {es es':Pn} {os rs ds ls:Nat->Nat} {Xs:Nat->List Nat} {vl:Value} {nb mb Q8:Nat} {qv lv TW:Value} {q':List OM}
theorem PZ.nt (h:PZ w A Y g n S es os rs ds ls Xs vl nb mb qv lv):Pv w A Y nb mb n qv S.q es:=⟨h.RL,h.cut,h.q,h.z,h.nY,h.mY,h.yA,h.alt⟩
theorem PZ.netx (h:PZ w A Y g n S es os rs ds ls Xs vl nb mb qv lv) (hn:Pv w' A' Y' nb Q8 n TW q' es') (x:NtX w w' A Y A' Y' nb mb Q8):PZ w' A' Y' g n { S with q:=q' } es' os rs ds ls Xs vl nb Q8 TW lv:=by
 obtain ⟨m,y,e,T,ho,ht⟩:=x;have hne:∀{b:Nat} {cs:Array Value} {t:TypeId} {fr:Nat×Nat},w.heap[b]? = some (.cells cs t fr)->t≠66->t≠83->b∉T:=λ{b cs t fr} hb h1 h2 hm=>by
  obtain ⟨_,k | k | ⟨cur,k⟩⟩:=ht b hm
  ·grind [h.RL]
  ·obtain ⟨arr,c,h3,_⟩:=h.cut.map;rw [k,h3] at hb;cases hb
  ·rw [hb] at k;simp at k;exact h2 k.2.1
 have WY:∀b∈T,b∈A:=λb hb=>h.yA b (ht b hb).1;refine ⟨ho.keeps h.cell (hne h.cell dZ dZ),bR h.lr ho (λb hb=>?_),λi hi=>ho.keeps (h.one i hi) (hne (h.one i hi) dZ dZ),hn.RL,hn.cut,λi hi=>?_,
  hn.q,hn.z,h.long.step ho WY m.ext,h.nl,h.n5,m.mv.sub g h.gY,λi hi=>m.mv.sub _ (h.oY i hi),λb hb=>m.mv.sub b (h.lY b hb),hn.nY,hn.mY,h.oo,λi hi b hb hx=>?_,h.xx,hn.yA,hn.alt⟩
 ·obtain ⟨_,cur,hc⟩:=fG h.lr hb;exact hne hc dZ dZ
 ·exact (h.node i hi).keep ho WY (λb hb hm=>h.yx i hi b (ht b hm).1 hb) m.ext m.sub hn.alt
 ·rcases y b hb with h1 | h1
  ·exact h.yx i hi b h1 hx
  ·have:=h.alt b ((h.node i hi).xA b hx);omega
theorem Gy.Yw {mq:List OM} (h:PZ w A Y g n S es os rs ds ls Xs vl nb mb qv lv) (hz:∀b,b∈Z↔b∈Y\/∃i,i<n/\b∈Xs i) (p:Sz w w' A Y nb n mb mq es'):Px w w' A Z g n { S with q:=mq } es':=by
 obtain ⟨A',Y',Q8,TW,hn,x⟩:=p.open;have hc:=h.netx hn x;obtain ⟨m,y,e,T,ho,ht⟩:=x;refine ⟨A',Y'++(List.range n).flatMap Xs,⟨Y',os,rs,ds,ls,Xs,vl,nb,Q8,TW,lv,hc,λb=>?_⟩,?_⟩
 ·simp [Ck]
 ·refine ⟨⟨ho.mono (λb hb=>(hz b).2 (.inl (ht b hb).1)),λb hb=>?_,λb hb=>?_⟩,m.ext,m.sub⟩
  ·grind
  ·exact JK
end
section
variable {w w':World} {A A' Y Y' Z Z':List Nat} {g n:Nat} {S:Mn} {es es':Pn} {os rs ds ls:Nat->Nat} {Xs:Nat->List Nat} {vl:Value} {nb mb Q8:Nat} {qv lv TW pn:Value} {q':List OM}
theorem fM {ar:Option Addr} {cr:Nat} (h:w.heap[g]? = some (.cells #[.slice ar n cr,pn,lv] 47 (0,0))) (x:Int) :
  Calls Tryz.prog 29 #[.pointer (some ⟨g,0,none⟩),.int .i64 x] w λe w'=>e = .returned (.bool (decide (0<=x)&&decide (x<(n:Int))))/\w=w':=by
 have hc0:w.cell? ⟨g,0,none⟩=some (.slice ar n cr):=G4;clear h;by_cases hx:0<=x
 ·rw [aO hx,z9];go_enter Tryz.func29,Tryz.ntmps29
  exact oK
 ·have hd:decide (0<=x)=false:=bp hx;rw [hd,uQ];clear hx;go_enter Tryz.func29,Tryz.ntmps29
  exact oK
theorem GB (f:Nat->Nat) (n i:Nat) (h:i<n):(tW f n)[i]? = some (fq (f i)):=by simp [tW,h]
theorem PZ.Ss (h:PZ w A Y g n S es os rs ds ls Xs vl nb mb qv lv) (h0:0<n):∃gl cr,vl = .slice (some ⟨gl,0,none⟩) n cr/\n<=cr/\∀i,i<n->w.cell? ⟨gl,i,none⟩=some (fq (os i)):=by
 have hl:=h.lr;rcases hl.2 with ⟨rfl,h1⟩ | ⟨gl,cr,cur,rfl,hb,hh,hn,hm,hs,ht⟩
 ·omega
 ·refine ⟨gl,cr,rfl,hn,λi hi=>?_⟩;have:=World.ownsRow.cellAt h.lr i az;rw [this,GB _ _ _ hi]
theorem Mn.U5 (S:Mn) (i:Nat):S.set i (S.at i)=S:=by
 unfold Mn.set Mn.at;congr 1;refine List.ext_getElem? λj=>?_;rw [jA];split
 ·grind
 ·rfl
theorem um (h:PZ w A Y g n S es os rs ds ls Xs vl nb mb qv lv) (x:Int) (hx:(decide (0<=x)&&decide (x<(n:Int)))=false) :
  Calls Tryz.prog 13 #[.pointer (some ⟨g,0,none⟩),.int .i64 x] w λe w'=>e = .returned (.bool false)/\w=w':=by
 obtain ⟨ar,cr,rfl,_,_⟩:=ej h.lr;have HH:=af (fM h.cell x);rw [hx] at HH;clear h hx;go_enter Tryz.func13,Tryz.ntmps13
 go_wp2_with fail
 refine HH.out.mono ?_;rintro e w1 ⟨rfl,rfl⟩;exact oK
theorem iL (h:PZ w A Y g n S es os rs ds ls Xs vl nb mb qv lv) (i:Nat) (hi:i<n) (hu:(S.at i).up=false) :
  Calls Tryz.prog 13 #[.pointer (some ⟨g,0,none⟩),.int .i64 (i:Int)] w λe w'=>e = .returned (.bool false)/\w=w':=by
 obtain ⟨gl,cr,rfl,Vk,hrow⟩:=h.Ss az;have HH:=af (fM h.cell (i:Int));rw [aO az,aO az] at HH;have c0:w.cell? ⟨g,0,none⟩=some (.slice (some ⟨gl,0,none⟩) n cr):=mU;have c1:=hrow i hi;unfold fq at c1;have c2:w.cell? ⟨os i,2,none⟩=some (.bool false):=Hd;have O9:(i:Int)<(n:Int):=az;clear h hu hrow;generalize os i=o at *;go_enter Tryz.func13,Tryz.ntmps13
 go_wp2_with fail
 refine HH.out.mono ?_;rintro e w1 ⟨rfl,rfl⟩;exact oK
theorem lk (h:PZ w A Y g n S es os rs ds ls Xs vl nb mb qv lv) (i:Nat) (hi:i<n) (hu:(S.at i).up=true) (hd:eG (S.at i).s (S.at i).k=false) :
  Calls Tryz.prog 13 #[.pointer (some ⟨g,0,none⟩),.int .i64 (i:Int)] w λe w'=>e = .returned (.bool true)/\PZ w' A Y g n S es os rs ds ls Xs vl nb mb qv lv/\Only [rs i] w w'/\rs i∈Xs i:=by
 obtain ⟨gl,cr,rfl,Vk,hrow⟩:=h.Ss az;have HH:=af (fM h.cell (i:Int));rw [aO az,aO az] at HH;have c0:w.cell? ⟨g,0,none⟩=some (.slice (some ⟨gl,0,none⟩) n cr):=mU;have c1:=hrow i hi;unfold fq at c1;have c2:w.cell? ⟨os i,2,none⟩=some (.bool true):=Hd;have c3:w.cell? ⟨os i,1,none⟩=some (.pointer (some ⟨rs i,0,none⟩)):=KO;have O9:(i:Int)<(n:Int):=az;have PO:=(h.node i hi).up hu;have HD:=af (ke PO);have hds:bw (S.at i).s (S.at i).k=(S.at i).s:=by
  unfold bw;have:(S.at i).s.done=false:=by unfold eG at hd;simp only [dw] at hd;exact hd.1
  rw [hd,<-this]
 rw [hds,hd] at HD;have P7:Hid (∀w2,Nd w2 A (Xs i) (rs i) (ds i) (ls i) (S.at i).s (S.at i).k->Only [rs i] w w2->PZ w2 A Y g n S es os rs ds ls Xs (.slice (some ⟨gl,0,none⟩) n cr) nb mb qv lv/\Only [rs i] w w2/\rs i∈Xs i):=af λw2 h2 ho=>by
  have hr:=PO.rX;have hm:Mv A A (Xs i) (Xs i) w w2:=Mv.only ho (λb hb=>by rw [aj.1 hb];exact hr);have:=h.call hi hm (nd:=S.at i) ⟨λ_=>h2,λe=>(by rw [hu] at e;cases e),(h.node i hi).xA⟩ rfl (λb hb=>aK (h.alt b hb) ho.size);rw [Mn.U5,sD] at this;exact ⟨this,ho,hr⟩
 clear h hu hrow PO hds hd;generalize os i=o at *;generalize rs i=r at *;go_enter Tryz.func13,Tryz.ntmps13
 go_wp2_with fail
 refine HH.out.mono ?_;rintro e w1 ⟨rfl,rfl⟩;go_wp2_with fail
 refine HD.out.mono ?_;rintro e w2 ⟨rfl,h2,ho⟩;have HR:=af (P7.out w2 h2 ho);clear h2 ho;go_wp2_with fail
 go_ret
 exact ⟨rfl,HR.out⟩
end
theorem AG (l:List Po) (j:Nat) (h:j<l.length):recs (l.take (j+1))=if ((l.map Po.bs).getD j []).length=0 then recs (l.take j) else recs (l.take j)++[(l.map Po.bs).getD j []]:=by
 have e2:(l.map Po.bs).getD j []=l[j].bs:=Eo;rw [e2,<-bO h];unfold recs;rw [cz,cy];generalize l[j]=x;obtain ⟨t,bs⟩:=x;cases bs<;>simp
theorem zm (l:List Po):(recs l).length<=l.length:=by
 unfold recs;rw [aW];exact cX _ _
section
variable {w w':World} {A A' X X':List Nat} {r d l:Nat} {s s':Rp} {k k':Dk}
theorem rO (h:Nd w A X r d l s k) (hw:Wf s k):Calls Tryz.prog 28 #[.pointer (some ⟨r,0,none⟩)] w λe w'=>∃v,e = .returned v/\PC w' w.heap.size v (de s)/\Below w.heap.size w w':=by
 have hlogb:=hw.QV;have hagr:=hw.Rg;have UO:=af hw.Rk;obtain ⟨ao,c,Qp⟩:=h.Yy;have Rq:=Qp.c8;have hle:=Qp.le;have hcm:=Qp.cm;have HL:=af Qp;obtain ⟨vl,gv,gn,gm,gh,hcell⟩:=h.cells;have Q5:w.cell? ⟨r,9,none⟩=some (.int .i64 (s.agreed:Int)):=iI;have HAM:Hid (de s=recs (s.Oz.take s.agreed)):=af rfl;have HST:=af (λj (hj:j<s.Oz.length)=>AG s.Oz j hj);have HRC:=af (λj=>zm (s.Oz.take j));clear Qp hcell h hw;generalize s.agreed=m at *;go_enter Tryz.func28,Tryz.ntmps28
 go_upto_region 2 with (fail)
 go_cut [14,15,16] (λv n i wx=>v = .slice ao m c/\n = .int .i64 (m:Int)/\i = .int .i64 0/\∃nq,wx=w.drewN nq)
 case first =>
  cases ao with
  | none =>
   have h0:=HL.out.nil rfl;subst h0;have WR:m=0:=az;subst WR;have hl0:s.Oz.length=0:=az;rw [hl0] at Rq;exact GR
  | some p =>
   obtain ⟨g,rfl⟩:=HL.out.form p rfl;have q1:(m:Int)<=(c:Int):=az;exact GR
 case rest =>
 obtain ⟨rfl,rfl,rfl,nq,rfl⟩:=hcut;have HBQ:Hid (Below w.heap.size w (w.drewN nq)):=af (aB w nq);go_wp2_with fail
 go_loopw [3,16] (λv i wr=>∃j:Nat,j<=m/\i = .int .i64 (j:Int)/\PC wr w.heap.size v (recs (s.Oz.take j))/\Below w.heap.size w wr) (λ_ i _=>m - (intOf i).toNat)
 case atStart=>exact ⟨0,aH _,rfl,by simpa [recs] using PC.nil _ _,HBQ.out⟩
 case round =>
  obtain ⟨j,hj,rfl,hB,hBV⟩:=hrel;have Vp:=af hB;have QZ:=af hBV;clear hB hBV;by_cases hlt:j<m
  ·have PI:j<s.Oz.length:=by omega
   obtain ⟨g,rfl⟩:∃g,ao=some ⟨g,0,none⟩:=Ma;obtain ⟨u,Su,PN,Qz⟩:=HL.out.at_ j PI g rfl;have HSTJ:=af (HST.out j PI);have WX:((s.Oz.map Po.bs).getD j []).length<=8000:=by
    have e:(s.Oz.map Po.bs).getD j []=s.Oz[j].bs:=by simp [List.getD,PI]
    rw [e];exact UO.out _ (cW _)
   obtain ⟨au,cu,e,_⟩:=id Qz;subst e;generalize Yc:(s.Oz.map Po.bs).getD j []=bs at *;generalize hbl:bs.length=bl at *;have Q0:Hid (bs.length=bl):=af hbl;have Xl:Hid (∀W',Below w.heap.size w W'->Pg W' au bl cu bs):=af (λW' hb=>by
    obtain ⟨Wj,c',e,h1,_⟩:=Qz.below hb;cases e;rw [hbl] at h1;exact h1)
   generalize (s.Oz.map Po.Ow).getD j 0=t at *;have Su:=cell_later QZ.out Su;have PN:=cell_later QZ.out PN;have q5:(j:Int)<(m:Int):=az;have q6:IntKind.i64.wrap ((j:Int)+1)=(j:Int)+1:=IntWalk.i64_in _ az;have HRJ:Hid ((recs (s.Oz.take j)).length+1<=1000000):=af (by have:=HRC.out j;rw [aQ] at this;omega);have HE5:=af (aV wr (.cells #[.int .i64 t,.slice au bl cu] 94));have Q6:=af (Vp.out.below ((aG _ _).alloc (ah _) (.cells #[.int .i64 t,.slice au bl cu] 94)));have Uh:=af (QZ.out.alloc QZ.out.size (.cells #[.int .i64 t,.slice au bl cu] 94));clear Qz;go_upto_region 5 with (fail)
   generalize hW5:wr.alloc (.cells #[.int .i64 t,.slice au bl cu] 94)=W5 at *;clear hW5 Su PN;generalize wr.heap.size=E at *;have Ya:W5.cell? ⟨E,1,none⟩=some (.slice au bl cu):=(ap HE5.out 1).trans rfl;by_cases hb0:bl=0
   ·subst hb0;have Ws:Hid (recs (s.Oz.take (j+1))=recs (s.Oz.take j)):=af (by rw [HSTJ.out,ay rfl]);go_wp2_with fail
    go_roundw
    case rel=>exact ⟨j+1,by omega,rfl,by rw [Ws.out];exact Q6.out,Uh.out⟩
    case measure=>simp [intOf];omega
   ·have Ws:Hid (recs (s.Oz.take (j+1))=recs (s.Oz.take j)++[bs]):=af (by rw [HSTJ.out,am hb0]);have q7:(0:Int)<(bl:Int):=az;generalize hrj:recs (s.Oz.take j)=rj at *;obtain ⟨al,cl,evb,_⟩:=Q6.out.shape;subst evb;go_wp2_with fail
    refine (F.dV au bl cu bs _ (Xl.out _ Uh.out) az).mono ?_;rintro e W6 ⟨v5,rfl,PS,PA⟩;have TQ:=af (Q6.out.below PA);have WA:=af (Uh.out.trans (PA.mono Uh.out.size));have Zh:=af (PS.mono Uh.out.size);obtain ⟨a5,c5,e5,_⟩:=id Zh.out.S9;rw [Q0.out] at e5;subst e5;clear PS PA;go_wp2_with (at_builtin;refine dU rfl (.tmp 24) (.tmp 28) rfl w.heap.size (.slice al rj.length cl) rj jy (TQ.out.below ((aG _ _).alloc (ah _) _)) W6.heap.size (.slice a5 bl c5) bs jy ((ap (aV W6 _) 0).trans rfl) (Zh.out.alloc _) HRJ.out (WA.out.alloc WA.out.size _).size ?_)
    exact MO
  ·obtain rfl:j=m:=by omega
   go_wp2_with fail
   go_ret
   exact ⟨_,rfl,by rw [HAM.out];exact Vp.out,QZ.out⟩
end
def gN (S:Mn):Nat->Nat->List (List UInt8)->List (List UInt8)
 | 0,_,lg=>lg
 | m+1,i,lg=>gN S m (i+1) (if (S.at i).up then (if lg.length<(S.at i).s.many then de (S.at i).s else lg) else lg)
theorem yj (S:Mn) (n t:Nat) (lg:List (List UInt8)) (h:t<n):gN S (n - t) t lg=gN S (n - (t+1)) (t+1) (if (S.at t).up then (if lg.length<(S.at t).s.many then de (S.at t).s else lg) else lg):=by
 rw [show n - t=(n - (t+1))+1 by omega];rfl
section
variable {w w':World} {A A' X Y Y' Z Z':List Nat} {g n:Nat} {S:Mn} {es es':Pn} {os rs ds ls:Nat->Nat} {Xs:Nat->List Nat} {vl:Value} {nb mb Q8:Nat} {qv lv TW pn:Value} {q':List OM} {r d l:Nat} {s:Rp} {k:Dk}
theorem PZ.setl {v':Value} {lg:List (List UInt8)} (h:PZ w A Y g n S es os rs ds ls Xs vl nb mb qv lv) (hl:PV w A v' lg) :
  PZ (w.setCell ⟨g,2,none⟩ v') A Y g n { S with long:=lg } es os rs ds ls Xs vl nb mb qv v':=by
 have P8:Only [g] w (w.setCell ⟨g,2,none⟩ v'):=(Only.refl _ _).setCell bL _;have WY:∀b∈[g],b∈A:=λb hb=>by rw [aj.1 hb];exact h.yA _ h.gY
 have hne:∀{b:Nat} {cs:Array Value} {t:TypeId} {fr:Nat×Nat},w.heap[b]? = some (.cells cs t fr)->t≠47->b∉[g]:=λ{b cs t fr} hb h1 hm=>by
  grind [h.cell]
 have hmg:mb∉[g]:=λhm=>by
  obtain ⟨arr,c,h3,_⟩:=h.cut.map;rw [aj.1 hm,h.cell] at h3;cases h3
 refine ⟨by rw [be h.cell];rfl,bR h.lr P8 (λb hb=>?_),λi hi=>P8.keeps (h.one i hi) (hne (h.one i hi) dZ),P8.keeps h.RL (hne h.RL dZ),h.cut.only P8 hmg,λi hi=>?_,
  h.q.keep P8 WY (λb _ cur Sv=>hne Sv dZ) (Ext.refl _ _) (λb hb=>hb),h.z,hl.step P8 WY (Ext.refl _ _),h.nl,h.n5,h.gY,h.oY,h.lY,h.nY,h.mY,h.oo,h.yx,h.xx,h.yA,λb hb=>by simpa using h.alt b hb⟩
 ·obtain ⟨_,cur,hc⟩:=fG h.lr hb;exact hne hc dZ
 ·exact (h.node i hi).keep P8 WY (λb hb hm=>h.yx i hi b (by rw [aj.1 hm];exact h.gY) hb) (Ext.refl _ _) (λb hb=>hb) (λb hb=>by simpa using h.alt b hb)
theorem PZ.netc {mq:List OM} (h:PZ w A Y g n S es os rs ds ls Xs vl nb mb qv lv) (hz:∀b,b∈Z↔b∈Y\/∃i,i<n/\b∈Xs i) (p:Sz w w' A Y nb n mb mq es') :
  ∃A' Y' Q8 TW Z',PZ w' A' Y' g n { S with q:=mq } es' os rs ds ls Xs vl nb Q8 TW lv/\(∀b,b∈Z'↔b∈Y'\/∃i,i<n/\b∈Xs i)/\Mv A A' Z Z' w w':=by
 obtain ⟨A',Y',Q8,TW,hn,x⟩:=p.open;have hc:=h.netx hn x;obtain ⟨m,y,e,T,ho,ht⟩:=x;refine ⟨A',Y',Q8,TW,Y'++(List.range n).flatMap Xs,hc,λb=>by simp [Ck],⟨⟨ho.mono (λb hb=>(hz b).2 (.inl (ht b hb).1)),λb hb=>?_,λb hb=>?_⟩,m.ext,m.sub⟩⟩
 ·grind
 ·exact JK
theorem Eu (h:Nd w A X r d l s k):Calls Tryz.prog 61 #[.pointer (some ⟨r,0,none⟩)] w λe w'=>e = .returned (.int .i64 (s.many:Int))/\w=w':=by
 obtain ⟨vl,gv,gn,gm,gh,hcell⟩:=h.cells;have hc:w.cell? ⟨r,10,none⟩=some (.int .i64 (s.many:Int)):=iI;clear hcell h;go_enter Tryz.func61,Tryz.ntmps61
 exact oK
theorem rk {v:Value} {lg:List (List UInt8)} (h:PV w A v lg):∃ao c,v = .slice ao lg.length c:=by
 rcases h with ⟨rfl,rfl⟩ | ⟨g,c,cur,rfl,_⟩
 ·exact ⟨none,0,rfl⟩
 ·exact ⟨_,_,rfl⟩
theorem pr {ms:List OM} (h:Gy w A Z g n S es) (hq:S.q.length<=2000) (v:Value) (hr:QD w A v ms) (hg:∀m∈ms,jt m/\(0<=m.OD/\m.OD<(n:Int))/\0<=m.dst/\m.dst<(n:Int))
  (QW:∀i,i<n->(S.at i).up=true->Wf (S.at i).s (S.at i).k/\eG (S.at i).s (S.at i).k=false) (hn0:0<n) :
  Calls Tryz.prog 37 #[.pointer (some ⟨g,0,none⟩),v] w λe w'=>e = .returned (.tuple #[])/\Px w w' A Z g n { S with q:=ms.foldl (fP (ey es)) S.q,long:=gN S n 0 S.long } es:=by
 obtain ⟨Y,os,rs,ds,ls,Xs,vl,nb,mb,qv,lv,h,hz⟩:=h;have HS:=af (AY h.nt h.n5 hq v hr hg);have HC:=af h;have HZ:=af hz;have XK:=af QW;have c1:w.cell? ⟨g,1,none⟩=some (.pointer (some ⟨nb,0,none⟩)):=mU;clear h hz QW hq hr hg;generalize ms.foldl (fP (ey es)) S.q=Q at *;go_enter Tryz.func37,Tryz.ntmps37
 go_wp2_with fail
 refine HS.out.mono ?_;rintro e w1 ⟨⟨c,rfl⟩,hp⟩;obtain ⟨A1,Y1,mb1,qv1,Z1,h1,hz1,m1⟩:=HC.out.netc HZ.out hp;obtain ⟨gl,cr,rfl,Vk,hrow⟩:=h1.Ss hn0;have HZ1:=af hz1;have H1:=af h1;have M1:=af m1;have c0:w1.cell? ⟨g,0,none⟩=some (.slice (some ⟨gl,0,none⟩) n cr):=by rw [ap h1.cell];rfl
 have O8:=h1.n5;clear h1 hz1 m1 hp hrow;go_wp2_with fail
 go_loopw [17,4,5] (λi a b wr=>∃(t:Nat) (lg:List (List UInt8)) (lv1:Value),t<=n/\i = .int .i64 (t:Int)/\PZ wr A1 Y1 g n { S with q:=Q,long:=lg } es os rs ds ls Xs (.slice (some ⟨gl,0,none⟩) n cr) nb mb1 qv1 lv1/\Mv A A1 Z Z1 w wr/\gN S n 0 S.long=gN S (n - t) t lg) (λi _ _ _=>n - (intOf i).toNat)
 case atStart=>exact ⟨0,S.long,_,aH _,rfl,H1.out,M1.out,rfl⟩
 case round =>
  obtain ⟨t,lg,lv1,ht,rfl,hc,m2,UE⟩:=hrel;by_cases hlt:t<n
  ·obtain ⟨gl',cr',e9,_,hrow⟩:=hc.Ss hn0;cases e9;have r1:=hrow t hlt;unfold fq at r1;have HML:=af (UE.trans (yj S n t lg hlt));have q6:IntKind.i64.wrap ((t:Int)+1)=(t:Int)+1:=IntWalk.i64_in _ az;have hti:(t:Int)<(n:Int):=az;have VD:=af m2;have U2:=af hc;clear hrow UE m2 c0 c1;by_cases hu:(S.at t).up=true
   ·obtain ⟨WK,P5⟩:=XK.out t hlt hu;have HU:=af (lk hc t hlt hu P5);have Yn:=af hu;have Ze:=af WK;clear hc hu P5 WK;go_wp2_with fail
    refine HU.out.mono ?_;rintro e w2 ⟨rfl,hc2,OZ,Tt⟩;have o1:w2.cell? ⟨os t,1,none⟩=some (.pointer (some ⟨rs t,0,none⟩)):=by rw [ap (hc2.one t hlt)];rfl
    obtain ⟨al,cl,rfl⟩:=rk hc2.long;have g2:w2.cell? ⟨g,2,none⟩=some (.slice al lg.length cl):=by rw [ap hc2.cell];rfl
    have HM:Hid (∀d,Calls Tryz.prog 61 #[.pointer (some ⟨rs t,0,none⟩)] (w2.drewN d) λe w'=>e = .returned (.int .i64 ((S.at t).s.many:Int))/\w2.drewN d=w'):=af λd=>Eu (((hc2.below (aB w2 d)).node t hlt).up Yn.out);have Xn:Hid (∀d,Calls Tryz.prog 28 #[.pointer (some ⟨rs t,0,none⟩)] (w2.drewN d) λe w'=>∃v,e = .returned v/\PC w' (w2.drewN d).heap.size v (de (S.at t).s)/\Below (w2.drewN d).heap.size (w2.drewN d) w'):=af λd=>rO (((hc2.below (aB w2 d)).node t hlt).up Yn.out) Ze.out;have Rz:Hid (Mv A A1 Z Z1 w w2):=af (VD.out.trans (Mv.only OZ (λb hb=>by rw [aj.1 hb];exact (HZ1.out _).2 (.inr ⟨t,hlt,Tt⟩))));have Zw:=af hc2;clear hc2 OZ Tt r1;generalize (S.at t).s.many=mm at *;go_upto_region 5 with (fail)
    go_quiet ((go_at_call 61;exact mG (HM.out _)))
    by_cases hm:lg.length<mm
    ·have Qb:decide ((lg.length:Int)<(mm:Int))=true:=aO az;have HMM:=af hm;clear hm;go_wp2_with fail
     refine (Xn.out _).mono ?_;rintro e W ⟨va,rfl,hva,hba⟩;obtain ⟨aa,ca,rfl,_⟩:=hva.shape;have Vl:=Zw.out.below (aB w2 nq);have hlv:=PV.new hva Vl.alt;have UZ:=Vl.below hba;have z2:=aU UZ.cell 2;have c2:W.cell? ⟨g,2,none⟩=some (.slice al lg.length cl):=by rw [ap UZ.cell];rfl
     have HF:=af (UZ.setl hlv);have TU:Hid (Mv A A1 Z Z1 w (W.setCell ⟨g,2,none⟩ (.slice aa (de (S.at t).s).length ca))):=af (((Rz.out.trans (Mv.below (aB w2 nq))).trans (Mv.below hba)).trans (Mv.only (S:=[g]) ((Only.refl _ _).setCell bL _) (λb hb=>by rw [aj.1 hb];exact (HZ1.out _).2 (.inl UZ.gY))));clear Vl UZ hlv hva hba;go_wp2_with fail
     go_roundw
     case rel =>
      refine ⟨t+1,_,_,by omega,by simp,HF.out,TU.out,?_⟩;rw [HML.out,ay Yn.out,ay HMM.out]
     case measure=>simp [intOf];omega
    ·have Qb:decide ((lg.length:Int)<(mm:Int))=false:=bp az;have HMM:=af hm;clear hm;have HF:=af (Zw.out.below (aB w2 nq));have TU:=af (Rz.out.trans (Mv.below (aB w2 nq)));go_wp2_with fail
     go_roundw
     case rel =>
      refine ⟨t+1,_,_,by omega,by simp,HF.out,TU.out,?_⟩;rw [HML.out,ay Yn.out,am HMM.out]
     case measure=>simp [intOf];omega
   ·have PN:(S.at t).up=false:=by simpa using hu
    have HU:=af (iL hc t hlt PN);have Yn:=af hu;clear hc hu PN;go_wp2_with fail
    refine HU.out.mono ?_;rintro e w2 ⟨rfl,rfl⟩;go_wp2_with fail
    go_roundw
    case rel =>
     refine ⟨t+1,lg,_,by omega,by simp,U2.out,VD.out,?_⟩;rw [HML.out,am Yn.out]
    case measure=>simp [intOf];omega
  ·obtain rfl:t=n:=by omega
   have HF:Hid (Px w wr A Z g t { S with q:=Q,long:=gN S t 0 S.long } es):=af (by
    rw [UE,F6];exact ⟨A1,Z1,⟨_,_,_,_,_,_,_,_,_,_,_,hc,HZ1.out⟩,m2⟩)
   clear hc m2 UE;exact D6
end
def Mn.SS (n:Nat) (es:Pn) (S:Mn) (i:Nat) (p:List OM×Rp×Dk):Mn :=
 { S.set i ⟨p.2.1,p.2.2,true⟩ with q:=p.1.foldl (fP (ey es)) S.q,long:=gN (S.set i ⟨p.2.1,p.2.2,true⟩) n 0 S.long }
section
variable {w w':World} {A A' X Y Y' Z Z':List Nat} {g n:Nat} {S:Mn} {es es':Pn} {os rs ds ls:Nat->Nat} {Xs:Nat->List Nat} {vl:Value} {nb mb Q8:Nat} {qv lv TW pn:Value} {q':List OM} {r d l:Nat} {s:Rp} {k:Dk}
theorem PZ.turn {p:List OM×Rp×Dk} {e:Ending} {i:Nat} (h:PZ w A Y g n S es os rs ds ls Xs vl nb mb qv lv) (hz:∀b,b∈Z↔b∈Y\/∃i,i<n/\b∈Xs i) (hi:i<n) (hu:(S.at i).up=true) (hp:PE w w' A (Xs i) (rs i) (ds i) (ls i) e p) :
  ∃v A' Z',e = .returned v/\Gy w' A' Z' g n (S.set i ⟨p.2.1,p.2.2,true⟩) es/\QD w' A' v p.1/\Mv A A' Z Z' w w':=by
 obtain ⟨v,A',X',rfl,hn,Rn,m,hv⟩:=hp;have hx:=hn.xA;have ha:=hn.alt;have hc:=h.call hi m (nd:=⟨p.2.1,p.2.2,true⟩) ⟨λ_=>hn,(λe=>by cases e),hx⟩ hu.symm ha;exact Mi
def z6 (n:Nat) (ms:List OM):Prop:=∀m∈ms,jt m/\(0<=m.OD/\m.OD<(n:Int))/\0<=m.dst/\m.dst<(n:Int)
def p9 (n:Nat) (S:Mn):Prop:=∀i,i<n->(S.at i).up=true->Wf (S.at i).s (S.at i).k/\eG (S.at i).s (S.at i).k=false
theorem EZ (h:Gy w A Z g n S es) (i:Nat) (hi:i<n) (hq:S.q.length<=2000) (hU:p9 n S) (hu:(S.at i).up=true) (hck:(S.at i).s.OA+1<=1000000)
  (hg:z6 n (eM (S.at i).s (S.at i).k).1) (hU2:p9 n (S.set i ⟨(eM (S.at i).s (S.at i).k).2.1,(eM (S.at i).s (S.at i).k).2.2,true⟩)) :
  Calls Tryz.prog 19 #[.pointer (some ⟨g,0,none⟩),.int .i64 (i:Int)] w λe w'=>e = .returned (.bool true)/\Px w w' A Z g n (S.SS n es i (eM (S.at i).s (S.at i).k)) es:=by
 obtain ⟨Y,os,rs,ds,ls,Xs,vl,nb,mb,qv,lv,h,hz⟩:=h;have HU:=af (lk h i hi hu (hU i hi hu).2);obtain ⟨gl,cr,rfl,Vk,hrow⟩:=h.Ss az;have HZ:=af hz;have Wq:Hid (∀w2,PZ w2 A Y g n S es os rs ds ls Xs (.slice (some ⟨gl,0,none⟩) n cr) nb mb qv lv->Calls Tryz.prog 38 #[.pointer (some ⟨rs i,0,none⟩)] w2 λe w'=>PE w2 w' A (Xs i) (rs i) (ds i) (ls i) e (eM (S.at i).s (S.at i).k)):=af λw2 h2=>C6 ((h2.node i hi).up hu) (hU i hi hu).1 hck;have Xf:Hid (∀w2 w3 e,PZ w2 A Y g n S es os rs ds ls Xs (.slice (some ⟨gl,0,none⟩) n cr) nb mb qv lv->PE w2 w3 A (Xs i) (rs i) (ds i) (ls i) e (eM (S.at i).s (S.at i).k)->∃v A' Z',e = .returned v/\Gy w3 A' Z' g n (S.set i ⟨(eM (S.at i).s (S.at i).k).2.1,(eM (S.at i).s (S.at i).k).2.2,true⟩) es/\QD w3 A' v (eM (S.at i).s (S.at i).k).1/\Mv A A' Z Z' w2 w3):=af λw2 w3 e h2 hp=>h2.turn HZ.out hi hu hp;have Xg:Hid (∀w3 A' Z' v,Gy w3 A' Z' g n (S.set i ⟨(eM (S.at i).s (S.at i).k).2.1,(eM (S.at i).s (S.at i).k).2.2,true⟩) es->QD w3 A' v (eM (S.at i).s (S.at i).k).1->Calls Tryz.prog 37 #[.pointer (some ⟨g,0,none⟩),v] w3 λe w'=>e = .returned (.tuple #[])/\Px w3 w' A' Z' g n (S.SS n es i (eM (S.at i).s (S.at i).k)) es):=af λw3 A' Z' v h3 hr=>pr h3 hq v hr hg hU2 az;have Ww:Hid (∀w2,PZ w2 A Y g n S es os rs ds ls Xs (.slice (some ⟨gl,0,none⟩) n cr) nb mb qv lv->w2.cell? ⟨g,0,none⟩=some (.slice (some ⟨gl,0,none⟩) n cr)/\w2.cell? ⟨gl,i,none⟩=some (.pointer (some ⟨os i,0,none⟩))/\w2.cell? ⟨os i,1,none⟩=some (.pointer (some ⟨rs i,0,none⟩))):=af λw2 h2=>GU;have O9:(i:Int)<(n:Int):=az;clear h hz hrow hU hu hg hU2 hck hq;go_enter Tryz.func19,Tryz.ntmps19
 go_wp2_with fail
 refine HU.out.mono ?_;rintro e w2 ⟨rfl,hc2,OZ,Tt⟩;have TU:Hid (Mv A A Z Z w w2):=af (Mv.only OZ (λb hb=>by rw [aj.1 hb];exact (HZ.out _).2 (.inr ⟨i,hi,Tt⟩)));obtain ⟨k0,k1,k2⟩:=Ww.out w2 hc2;have HT2:=af (Wq.out w2 hc2);exact MX
theorem wA (h:Gy w A Z g n S es) (x:Int) (hx:(decide (0<=x)&&decide (x<(n:Int)))=false\/∃i:Nat,i<n/\x=(i:Int)/\(S.at i).up=false) :
  Calls Tryz.prog 19 #[.pointer (some ⟨g,0,none⟩),.int .i64 x] w λe w'=>e = .returned (.bool false)/\w=w':=by
 obtain ⟨Y,os,rs,ds,ls,Xs,vl,nb,mb,qv,lv,h,hz⟩:=h;have HU:Hid (Calls Tryz.prog 13 #[.pointer (some ⟨g,0,none⟩),.int .i64 x] w λe w'=>e = .returned (.bool false)/\w=w'):=af (by
  rcases hx with hx | ⟨i,hi,rfl,hu⟩
  ·exact um h x hx
  ·exact iL h i hi hu)
 clear h hz hx;go_enter Tryz.func19,Tryz.ntmps19
 go_wp2_with fail
 refine HU.out.mono ?_;rintro e w1 ⟨rfl,rfl⟩;exact oK
end
section
variable {w w' w2:World} {A A' X Y Y' Z Z':List Nat} {g n:Nat} {S:Mn} {es es':Pn} {os rs ds ls:Nat->Nat} {Xs:Nat->List Nat} {vl:Value} {nb mb Q8:Nat} {qv lv TW pn:Value} {q':List OM} {r d l:Nat} {s:Rp} {k:Dk}
theorem PZ.callO {X':List Nat} {i r' l':Nat} {nd:Wo} (h:PZ w A Y g n S es os rs ds ls Xs vl nb mb qv lv) (hi:i<n) (hm:Mv A A' (Xs i) X' w w') (hn:QY w' A' X' r' (ds i) l' nd) (ha:∀b∈A',b<w'.heap.size)
  (OZ:Only [os i] w' w2) (PL:w2.heap[os i]? = some (.cells #[fq (ds i),fq r',.bool nd.up] 58 (0,0))) :
  PZ w2 A' Y g n (S.set i nd) es os (lX rs i r') ds (lX ls i l') (lX Xs i X') vl nb mb qv lv:=by
 have hT:∀b∈Xs i,b∈A:=(h.node i hi).xA;have hY:∀b∈Y,b∉Xs i:=h.yx i hi;have ho:=hm.mv.only;have RY:∀P:List Nat,(∀b∈P,b∈A)->SR P (Xs i)->SR P X':=λP hP hd b hb hx=>Jv;have hoi:=ho.keeps (h.one i hi) (hY _ (h.oY i hi));have WY:∀b∈[os i],b∈A':=λb hb=>by rw [aj.1 hb];exact hm.sub _ (h.yA _ (h.oY i hi))
 have hne:∀{b:Nat} {cs:Array Value} {t:TypeId} {fr:Nat×Nat},w'.heap[b]? = some (.cells cs t fr)->t≠58->b∉[os i]:=λ{b cs t fr} hb h1 hm=>by
  grind
 have hyx':=RY Y h.yA (h.yx i hi);have ha2:∀b∈A',b<w2.heap.size:=λb hb=>aK (ha b hb) OZ.size;have hc1:=ho.keeps h.cell (hY _ h.gY);have PH:=bR h.lr ho (λb hb=>hY _ (h.lY b hb));have PT:=ho.keeps h.RL (hY _ h.nY);have hcut1:=h.cut.only ho (hY _ h.mY);have hmg:mb∉[os i]:=λhm=>by
  grind [hcut1.map]
 have hq1:=h.q.keep ho hT (λb hb _ _=>hY b hb) hm.ext (λb hb=>hb);refine ⟨OZ.keeps hc1 (hne hc1 dZ),bR PH OZ (λb hb=>?_),λj hj=>?_,OZ.keeps PT (hne PT dZ),hcut1.only OZ hmg,λj hj=>?_,
  hq1.keep OZ WY (λb _ cur hc=>hne hc dZ) (Ext.refl _ _) (λb hb=>hb),h.z,(h.long.step ho hT hm.ext).step OZ WY (Ext.refl _ _),by simp [Mn.set,h.nl],h.n5,h.gY,h.oY,h.lY,h.nY,h.mY,h.oo,λj hj=>?_,λj1 j2 h1 h2 hnj=>?_,λb hb=>hm.sub b (h.yA b hb),ha2⟩
 ·obtain ⟨_,cur,hc⟩:=fG PH hb;exact hne hc dZ
 ·rw [Mn.at_set _ _ _ _ (by rw [h.nl];exact hi)];by_cases SX:j=i
  ·grind [dK]
  ·grind [dE,aj.1,OZ.keeps,ho.keeps,h.one,h.oY,h.oo]
 ·rw [Mn.at_set _ _ _ _ (by rw [h.nl];exact hi)];by_cases SX:j=i
  ·subst SX;rw [ay rfl,dK,dK,dK];exact hn.keep OZ WY (λb hb hb2=>hyx' b (by rw [aj.1 hb2];exact h.oY j hj) hb) (Ext.refl _ _) (λb hb=>hb) ha2
  ·rw [am SX,dE _ _ SX,dE _ _ SX,dE _ _ SX];exact ((h.node j hj).keep ho hT (h.xx j i hj hi SX) hm.ext hm.sub ha).keep OZ WY (λb hb hb2=>h.yx j hj b (by rw [aj.1 hb2];exact h.oY i hi) hb) (Ext.refl _ _) (λb hb=>hb) ha2
 ·grind [dK,dE,h.yx]
 ·by_cases e1:j1=i
  ·subst e1;have e2:j2≠j1:=λe=>hnj e.symm;exact JA
  ·by_cases e2:j2=i
   ·subst e2;rw [dK,dE _ _ e1];exact RY (Xs j1) (h.node j1 h1).xA (h.xx j1 j2 h1 h2 hnj)
   ·grind [dE,h.xx]
theorem QY.dk {X:List Nat} {r d l:Nat} {nd:Wo} (h:QY w A X r d l nd):∃D,O6 w D d nd.k/\∀b∈D,b∈X:=by
 cases hu:nd.up with
 | true =>
  obtain ⟨D,L,R,vl,gv,gn,gm,gh,hn,hX⟩:=h.up hu;exact ⟨D,hn.wd.dk,λb hb=>(hX b).2 (.inl hb)⟩
 | false=>exact ⟨X,h.dn hu,λb hb=>hb⟩
theorem GV {D D' X:List Nat} (hD:∀b∈D,b∈X) (hDA:∀b∈D,b∈A) (hm:OY D D' w w'):Mv A (A++D') X (X++D') w w'/\((∀b∈X,b∈A)->∀b∈X++D',b∈A++D') :=
 ⟨⟨⟨hm.only.mono hD,λb hb=>by
  rcases aA.1 hb with h1 | h1
  ·exact .inl h1
  ·exact (hm.gr b h1).imp (hD b) id,λb hb=>aI _ hb⟩,λb hb=>by
  rcases aA.1 hb with h1 | h1
  ·exact .inl h1
  ·rcases hm.gr b h1 with h2 | h2
   ·exact .inl (hDA b h2)
   ·exact .inr h2,λb hb=>aI _ hb⟩,λhX b hb=>by
  rcases aA.1 hb with h1 | h1
  ·exact aI _ (hX b h1)
  ·exact aR _ h1⟩
theorem O6.grow {D D2:List Nat} {d:Nat} {k:Dk} (h:O6 w D d k) (hs:∀b∈D,b∈D2) (hl:∀b∈D2,b<w.heap.size):O6 w D2 d k:=by
 obtain ⟨⟨mb,h1,h2,h3⟩,h4,h5⟩:=h;refine ⟨⟨mb,h1,hs mb h2,?_⟩,hs d h4,hl⟩;cases hf:k.file with
 | none=>rw [hf] at h3;exact h3
 | some p =>
  rw [hf] at h3;obtain ⟨c,fb,b0,v,k1,k2,k3,k4,k5,k6⟩:=h3;exact ⟨c,fb,b0,v,k1,k2,hs fb k3,k4,k5,λb hb=>hs b (k6 b hb)⟩
theorem PZ.crashed {i:Nat} {D D':List Nat} {k':Dk} (h:PZ w A Y g n S es os rs ds ls Xs vl nb mb qv lv) (hz:∀b,b∈Z↔b∈Y\/∃i,i<n/\b∈Xs i) (hi:i<n) (hD:∀b∈D,b∈Xs i) (hk:O6 w' D' (ds i) k') (hm:OY D D' w w') :
  Px w (w'.setCell ⟨os i,2,none⟩ (.bool false)) A Z g n (S.set i ⟨(S.at i).s,k',false⟩) es:=by
 have hXA:=(h.node i hi).xA;obtain ⟨hmv,hxA⟩:=GV (A:=A) hD (λb hb=>hXA b (hD b hb)) hm;have XF:∀b∈A++D',b<w'.heap.size:=λb hb=>by
  rcases aA.1 hb with h1 | h1
  ·exact aK (h.alt b h1) hm.only.size
  ·exact hk.lt b h1
 have hoi:=hm.only.keeps (h.one i hi) (λhd=>h.yx i hi _ (h.oY i hi) (hD _ hd));have P8:Only [os i] w' (w'.setCell ⟨os i,2,none⟩ (.bool false)):=(Only.refl _ _).setCell bL _;have hs:=h.callO (nd:=⟨(S.at i).s,k',false⟩) hi hmv ⟨(λe=>by cases e),λ_=>hk.grow (λb hb=>aR _ hb) (λb hb=>XF b (hxA hXA b hb)),hxA hXA⟩ XF P8
  (by rw [be hoi];rfl) (l':=ls i) (r':=rs i)
 obtain ⟨Z',hz',hmz⟩:=ua (Y:=Y) hi hz hmv;exact ⟨A++D',Z',⟨_,_,_,_,_,_,_,_,_,_,_,hs,hz'⟩,hmz.trans (Mv.only P8 (λb hb=>by rw [aj.1 hb];exact (hz' _).2 (.inl (h.oY i hi))))⟩
theorem PZ.backed {i r' l':Nat} {X':List Nat} {nd:Wo} (h:PZ w A Y g n S es os rs ds ls Xs vl nb mb qv lv) (hz:∀b,b∈Z↔b∈Y\/∃i,i<n/\b∈Xs i) (hi:i<n) (hm:Mv A A' (Xs i) X' w w') (hn:Nd w' A' X' r' (ds i) l' nd.s nd.k) (hu:nd.up=true) :
  Px w ((w'.setCell ⟨os i,1,none⟩ (fq r')).setCell ⟨os i,2,none⟩ (.bool true)) A Z g n (S.set i nd) es:=by
 have hoi:=hm.mv.only.keeps (h.one i hi) (h.yx i hi _ (h.oY i hi));have Vt:Only [os i] w' (w'.setCell ⟨os i,1,none⟩ (fq r')):=(Only.refl _ _).setCell bL _;have OZ:Only [os i] w' ((w'.setCell ⟨os i,1,none⟩ (fq r')).setCell ⟨os i,2,none⟩ (.bool true)):=Vt.setCell bL _;have hs:=h.callO (nd:=nd) hi hm ⟨λ_=>hn,(λe=>by rw [hu] at e;cases e),hn.xA⟩ hn.alt OZ (by rw [be (be hoi 1 _),hu];rfl);obtain ⟨Z',hz',hmz⟩:=ua (Y:=Y) hi hz hm;exact ⟨A',Z',⟨_,_,_,_,_,_,_,_,_,_,_,hs,hz'⟩,hmz.trans (Mv.only OZ (λb hb=>by rw [aj.1 hb];exact (hz' _).2 (.inl (h.oY i hi))))⟩
end
structure RP (own n:Nat) (m:OM):Prop where
 OD:m.OD=(own:Int)
 ne:(m.dst==(own:Int))=false
 d0:0<=m.dst
 dn:m.dst<(n:Int)
 n1:m.N.getD 1 0<=1000000
 bl:m.B.length<=20
 nl:m.N.length<=24
 bs:∀l∈m.B,l.length<=8000
structure Out (s:Rp) (d:Nat) (p:List OM×Rp×Dk):Prop where
 wf:Wf p.2.1 p.2.2
 own:p.2.1.own=s.own
 n:p.2.1.n=s.n
 OA:p.2.1.OA<=s.OA+d
 ms:∀m∈p.1,RP s.own s.n m
section
variable {s s':Rp} {k k':Dk}
theorem Out.none {d:Nat} (h:Wf s' k') (h1:s'.own=s.own) (h2:s'.n=s.n) (h3:s'.OA<=s.OA+d):Out s d ([],s',k'):=⟨h,h1,h2,h3,λm hm=>by cases hm⟩
theorem lp (h:Wf s k) (hl:s.Oy=true) (i:Nat) (hi:i<s.n) (hne:i≠s.own):RP s.own s.n (cF s i):=by
 have Uq:=h.QV;have hb:=(h.lead hl i).1;refine ⟨rfl,?_,by unfold cF;simp,by unfold cF;simp;exact hi,?_,?_,?_,?_⟩
 ·unfold cF;simp;omega
 ·grind [cF,List.getD_cons_succ,List.getD_cons_zero]
 ·unfold cF;simp;omega
 ·unfold cF;simp;omega
 ·intro l hl2;unfold cF at hl2;simp only [d7] at hl2;obtain ⟨x,hx,rfl⟩:=hl2;exact h.Rk x (gV (fK hx))
theorem uo (h:Wf s k) (kind:Int) (i:Nat) (hi:i<s.n) (hne:i≠s.own):RP s.own s.n (br s kind i):=by
 have Uq:=h.QV;refine ⟨rfl,?_,by unfold br dQ;simp,by unfold br dQ;simp;exact hi,?_,by unfold br dQ;simp,by unfold br dQ;simp,by unfold br dQ;simp⟩
 ·unfold br dQ;simp;omega
 ·grind [br,dQ,List.getD_cons_succ,List.getD_cons_zero]
theorem j8 (d kind:Int) (N:List Int) (hd0:0<=d) (P5:d<(s.n:Int)) (hne:(d==(s.own:Int))=false) (h1:N.getD 1 0<=1000000) (h2:N.length<=24):RP s.own s.n (dQ s d kind N) :=
 ⟨rfl,hne,hd0,P5,h1,by unfold dQ;simp,h2,by unfold dQ;simp⟩
theorem jD (f:Nat->OM) (m:OM) (h:m∈dB s f):∃i,i<s.n/\i≠s.own/\m=f i:=by
 grind [dB,d7.1,rY.1,eJ.1]
theorem iY (h:Wf s k) (hl:s.Oy=true):∀m∈dB s (cF s),RP s.own s.n m:=λm hm=>by
 obtain ⟨i,h1,h2,rfl⟩:=jD _ _ hm;exact lp h hl i h1 h2
theorem mh (h:Wf s k) (kind:Int):∀m∈dB s (br s kind),RP s.own s.n m:=λm hm=>by
 obtain ⟨i,h1,h2,rfl⟩:=jD _ _ hm;exact uo h kind i h1 h2
theorem kt:(bZ s).2.own=s.own/\(bZ s).2.n=s.n/\(bZ s).2.OA=s.OA/\(bZ s).2.Oy=s.Oy:=by
 grind [cI,bZ]
theorem R8.all (h:R8 s s'):s'.own=s.own/\s'.n=s.n/\s'.OA=s.OA/\s'.Oy=s.Oy/\s'.Ow=s.Ow/\s'.agreed=s.agreed:=by
 obtain ⟨w,d,l,rfl⟩:=h;exact ⟨rfl,rfl,rfl,rfl,rfl,rfl⟩
theorem iM (Ow who:Int):(bB s k Ow who).2.1.own=s.own/\(bB s k Ow who).2.1.n=s.n/\(bB s k Ow who).2.1.OA=s.OA/\((bB s k Ow who).1=true->(bB s k Ow who).2.1.Ow=Ow):=by
 grind [kx,ez,bB,bQ,jS,cO]
theorem vw (h:Wf s k):Out s 0 (hJ s k):=by
 have h1:=qr (qu h) ⟨s.Ow,[]⟩ bL;have hs:=(nT (s:={ s with Oy:=true,next:=List.replicate s.n s.Oz.length,OE:=List.replicate s.n 0 }) (k:=k) ⟨s.Ow,[]⟩).all;refine ⟨Gd h,?_,?_,?_,?_⟩;all_goals
  unfold hJ;simp only;generalize gt { s with Oy:=true,next:=List.replicate s.n s.Oz.length,OE:=List.replicate s.n 0 } k ⟨s.Ow,[]⟩=p at *;have hst:=kt (s:=p.2.1);split
 ·exact hst.1.trans hs.1
 ·exact hs.1
 ·exact hst.2.1.trans hs.2.1
 ·exact hs.2.1
 ·grind
 ·rw [hs.2.2.1];exact ah _
 ·have e1:(bZ p.2.1).2.own=s.own:=hst.1.trans hs.1;have e2:(bZ p.2.1).2.n=s.n:=hst.2.1.trans hs.2.1;rw [<-e1,<-e2];exact iY (gL h1) (by rw [hst.2.2.2,hs.2.2.2.1])
 ·intro m hm;cases hm
theorem Out.of {a b:Rp} {d d':Nat} {p:List OM×Rp×Dk} (h:Out b d p) (h1:b.own=a.own) (h2:b.n=a.n) (h3:b.OA+d<=a.OA+d'):Out a d' p :=
 ⟨h.wf,h.own.trans h1,h.n.trans h2,aF h.OA h3,by rw [<-h1,<-h2];exact h.ms⟩
theorem AP (h:Wf s k):Out s 0 (gZ s k):=by
 unfold gZ;by_cases ht:1099511627776<=s.Ow
 ·rw [ay ht];exact DV
 ·rw [am ht];have hw:=jP h (s.Ow+1) (s.own:Int) (by have:=h.Ql;omega) az az (by have:=h.own;omega);have he:=iM (s:=s) (k:=k) (s.Ow+1) (s.own:Int);generalize bB s k (s.Ow+1) (s.own:Int)=p at *;simp only;split
  ·have hv:((List.replicate s.n false).set s.own true).length=p.2.1.n:=by simp [he.2.1]
   have h1:Wf { p.2.1 with Ox:=0,OB:=(List.replicate s.n false).set s.own true } p.2.2:=fF hw p.2.1.lives 0 p.2.1.OA _ (aH _) hv (ah _);split
   ·exact (vw h1).of he.1 he.2.1 (iR he.2.2.1)
   ·refine ⟨h1,he.1,he.2.1,by rw [show (_:Rp).OA=p.2.1.OA from rfl,he.2.2.1];exact ah _,?_⟩;rw [<-he.1,<-he.2.1];exact mh h1 1
  ·exact Out.none hw he.1 he.2.1 (by rw [he.2.2.1];exact ah _)
theorem vu (h:Wf s k):Out s 1 (eM s k):=by
 have h0:=iC h;unfold eM;simp only;split
 ·exact Out.none h0 rfl rfl (cZ _)
 ·have h1:Wf { bw s k with OA:=(bw s k).OA+1 } k:=fF h0 (bw s k).lives (bw s k).Ox ((bw s k).OA+1) (bw s k).OB (Nat.le_succ_of_le h0.tick) h0.vl (cZ _);split
  ·rename_i hl;exact ⟨h1,rfl,rfl,ah _,iY h1 hl⟩
  ·have h2:Wf { bw s k with OA:=(bw s k).OA+1,Ox:=(bw s k).Ox+1 } k:=fF h0 (bw s k).lives ((bw s k).Ox+1) ((bw s k).OA+1) (bw s k).OB (Nat.succ_le_succ h0.tick) h0.vl (cZ _);split
   ·exact (AP h2).of rfl rfl (ah _)
   ·split
    ·exact ⟨h2,rfl,rfl,ah _,mh h2 5⟩
    ·exact Out.none h2 rfl rfl (ah _)
theorem qO (h:Wf s k) (rec:List UInt8):Out s 0 ((bF s k rec).1,(bF s k rec).2.2):=by
 have h0:=iC h;unfold bF;by_cases h1:rec.length=0
 ·rw [ay h1];exact Out.none h rfl rfl (ah _)
 rw [am h1];by_cases h2:8000<rec.length
 ·rw [ay h2];exact Out.none h rfl rfl (ah _)
 rw [am h2];by_cases h3:(bw s k).done=true
 ·rw [ay h3];exact Out.none h0 rfl rfl (ah _)
 rw [am h3];by_cases h4:(!(bw s k).Oy)=true
 ·rw [ay h4];exact Out.none h0 rfl rfl (ah _)
 rw [am h4];by_cases h5:200<=jC (bw s k)\/2000<=(bw s k).many
 ·rw [ay h5];exact Out.none h0 rfl rfl (ah _)
 rw [am h5];have hw:=qr h0 ⟨(bw s k).Ow,rec⟩ (by simpa using h2);have hs:=(nT (s:=bw s k) (k:=k) ⟨(bw s k).Ow,rec⟩).all;generalize gt (bw s k) k ⟨(bw s k).Ow,rec⟩=p at *;have hst:=kt (s:=p.2.1);by_cases h6:p.1=true
 ·rw [ay h6];refine ⟨gL hw,hst.1.trans hs.1,hst.2.1.trans hs.2.1,?_,?_⟩
  ·rw [hst.2.2.1,hs.2.2.1];exact ah _
  ·have e1:(bZ p.2.1).2.own=s.own:=hst.1.trans hs.1;have e2:(bZ p.2.1).2.n=s.n:=hst.2.1.trans hs.2.1;rw [<-e1,<-e2];exact iY (gL hw) (by rw [hst.2.2.2,hs.2.2.2.1];simpa using h4)
 ·rw [am h6];exact Out.none hw hs.1 hs.2.1 (by rw [hs.2.2.1];exact ah _)
section
variable (m:OM) (SL:0<=m.OD) (hfn:m.OD<(s.n:Int)) (R5:(m.OD==(s.own:Int))=false)
include SL hfn R5
theorem AQ (h:Wf s k):Out s 0 (eX s k m):=by
 unfold eX;split
 ·simp only;split
  ·split
   ·have hw:=jP h s.Ow m.OD h.Ql h.Qy az hfn;have he:=iM (s:=s) (k:=k) s.Ow m.OD;generalize bB s k s.Ow m.OD=p at *;split
    ·have h1:Wf { p.2.1 with Ox:=0 } p.2.2:=fF hw p.2.1.lives 0 p.2.1.OA _ (aH _) hw.vl (ah _);refine ⟨h1,he.1,he.2.1,iR he.2.2.1,λx hx=>?_⟩;rw [aj.1 hx];have:=j8 (s:={ p.2.1 with Ox:=0 }) m.OD 2 [p.2.1.Ow,1] SL (by rw [show (_:Rp).n=p.2.1.n from rfl,he.2.1];exact hfn) (by rw [show (_:Rp).own=p.2.1.own from rfl,he.1];exact R5) bL bL;rw [show (_:Rp).own=p.2.1.own from rfl,show (_:Rp).n=p.2.1.n from rfl,he.1,he.2.1] at this;exact this
    ·grind [Out.none,iR]
   ·have h1:Wf { s with Ox:=0 } k:=fF h s.lives 0 s.OA _ (aH _) h.vl (ah _);refine ⟨h1,rfl,rfl,ah _,λx hx=>?_⟩;rw [aj.1 hx];exact j8 (s:={ s with Ox:=0 }) m.OD 2 [s.Ow,1] SL hfn R5 bL bL
  ·refine ⟨h,rfl,rfl,ah _,λx hx=>?_⟩;rw [aj.1 hx];exact j8 m.OD 2 [s.Ow,0] SL hfn R5 bL bL
 ·exact DV
omit SL hfn R5 in
theorem AO (h:Wf s k):Out s 0 (fS s k m):=by
 unfold fS;split
 ·exact DV
 ·have h1:Wf { s with OB:=s.OB.set m.OD.toNat true } k:=fF h s.lives s.Ox s.OA _ h.tick (by simpa using h.vl) (ah _);simp only;split
  ·exact (vw h1).of rfl rfl (ah _)
  ·exact Out.none h1 rfl rfl (ah _)
theorem tZ (h:Wf s k):Out s 0 ((cG s m).1,(cG s m).2,k):=by
 unfold cG;by_cases hb:(!s.Oy || !(m.N.getD 0 0==s.Ow) || !(m.N.length==3)||decide (m.N.getD 2 0<0)||decide ((s.Oz.length:Int)<m.N.getD 2 0))=true
 ·rw [ay hb];exact Out.none h rfl rfl (ah _)
 rw [am hb];simp only [bi,bb,not_or,dy,aZ] at hb;obtain ⟨⟨⟨⟨hl,_⟩,_⟩,WT⟩,hkl⟩:=hb;have hk:(m.N.getD 2 0).toNat<=s.Oz.length:=az;have hwn:m.OD.toNat<s.n:=az;have hwo:m.OD.toNat≠s.own:=λe=>by
  grind
 simp only;by_cases h1:m.N.getD 1 0=0
 ·rw [ay h1];split
  ·exact DV
  ·have hw:=qc h m.OD.toNat (max (m.N.getD 2 0).toNat (s.OE.getD m.OD.toNat 0)) (λhl=>by have:=(h.lead hl m.OD.toNat).2;omega);refine ⟨hw,rfl,rfl,ah _,λx hx=>?_⟩;rw [aj.1 hx];exact lp hw hl _ hwn hwo
 ·rw [am h1];split
  ·exact DV
  ·have YB:=xC h m.OD.toNat (m.N.getD 2 0).toNat (λ_=>hk);have hw:=qc YB m.OD.toNat (max (m.N.getD 2 0).toNat (s.next.getD m.OD.toNat 0)) (λhl=>by have:=(h.lead hl m.OD.toNat).1;show _<=s.Oz.length;omega);have hws:=gL hw;have hst:=kt (s:={ s with OE:=s.OE.set m.OD.toNat (m.N.getD 2 0).toNat,next:=s.next.set m.OD.toNat (max (m.N.getD 2 0).toNat (s.next.getD m.OD.toNat 0))});generalize bZ { s with OE:=s.OE.set m.OD.toNat (m.N.getD 2 0).toNat,next:=s.next.set m.OD.toNat (max (m.N.getD 2 0).toNat (s.next.getD m.OD.toNat 0))}=p at *;have e1:p.2.own=s.own:=hst.1;have e2:p.2.n=s.n:=hst.2.1;have e3:p.2.OA<=s.OA+0:=iR hst.2.2.1;have e4:p.2.Oy=true:=hst.2.2.2.trans hl;split
   ·refine ⟨hws,e1,e2,e3,?_⟩;rw [<-e1,<-e2];exact iY hws e4
   ·split
    ·refine ⟨hws,e1,e2,e3,λx hx=>?_⟩;rw [aj.1 hx,<-e1,<-e2];exact lp hws e4 _ (by rw [e2];exact hwn) (by rw [e1];exact hwo)
    ·exact Out.none hws e1 e2 e3
end
theorem mJ (p:Nat) (x:Po) (h:(cR s k p x).1=true):(cR s k p x).2.1.Oz=s.Oz.take p++[x]:=by
 grind [fj,dY,cR,bQ]
theorem Bz (f:Nat) (l:List (Int×List UInt8)):∀(i:Nat) (s:Rp) (k:Dk),Wf s k->s.Oy=false->f+i<=s.Oz.length ->
  Wf (bH f l i s k).2.1 (bH f l i s k).2.2/\R8 s (bH f l i s k).2.1/\((bH f l i s k).1=true->f+i+l.length<=(bH f l i s k).2.1.Oz.length):=by
 induction l with
 | nil=>intro i s k h hl hf;exact ⟨h,R8.refl _,λ_=>hf⟩
 | cons a l ih =>
  intro i s k h hl hf;obtain ⟨t,rec⟩:=a;unfold bH;by_cases h1:f+i<s.Oz.length/\(s.Oz.map Po.Ow).getD (f+i) 0=t
  ·grind
  ·rw [am h1];by_cases h2:8000<rec.length\/t<1\/s.Ow<t\/f+i<s.agreed
   ·grind [R8.refl]
   ·rw [am h2];have hw:=nJ h (f+i) ⟨t,rec⟩ hf az (λe=>by rw [hl] at e;cases e) KM;have hs:=ky (s:=s) (k:=k) (f+i) ⟨t,rec⟩;have hg:=mJ (s:=s) (k:=k) (f+i) ⟨t,rec⟩;generalize cR s k (f+i) ⟨t,rec⟩=p at *;by_cases h3:p.1=true
    ·rw [ay h3];have hlen:p.2.1.Oz.length=f+i+1:=D0;have h4:=ih (i+1) p.2.1 p.2.2 hw (hs.all.2.2.2.1.trans hl) az;refine ⟨h4.1,hs.trans h4.2.1,λe=>?_⟩;have:=h4.2.2 e;simp only [aX];omega
    ·grind
theorem xh (n:Nat):(cI s n).own=s.own/\(cI s n).n=s.n/\(cI s n).OA=s.OA/\(cI s n).Oy=s.Oy/\(cI s n).Ow=s.Ow/\(cI s n).Oz=s.Oz:=by
 grind [cI]
theorem DC (m:OM) (SL:0<=m.OD) (hfn:m.OD<(s.n:Int)) (R5:(m.OD==(s.own:Int))=false) (h:Wf s k) (hle:m.N.getD 0 0<=s.Ow):Out s 0 (eA s k m):=by
 unfold eA;by_cases hb:(!(m.N.length==4+m.B.length)||decide (m.N.getD 1 0<0)||(m.N.getD 0 0==s.Ow&&s.Oy))=true
 ·rw [ay hb];exact Out.none h rfl rfl (ah _)
 rw [am hb];have h0:Wf { s with Ox:=0 } k:=fF h s.lives 0 s.OA _ (aH _) h.vl (ah _);by_cases h1:m.N.getD 0 0<s.Ow
 ·rw [ay h1];refine ⟨h,rfl,rfl,ah _,λx hx=>?_⟩;rw [aj.1 hx];exact j8 m.OD 4 [s.Ow,0,0] SL hfn R5 bL bL
 rw [am h1];simp only;simp only [bi,bb,not_or,dy,aZ,bu,cE,not_and] at hb;obtain ⟨⟨hNl,Sk⟩,P9⟩:=hb;have YO:s.Oy=false:=by
  have:=P9 az;simpa using this
 by_cases SJ:fN { s with Ox:=0 } (m.N.getD 1 0) (m.N.getD 2 0)=true
 ·rw [ay SJ];have Rh:(m.N.getD 1 0).toNat<=s.Oz.length:=Kv;have hz:((m.N.drop 4).zip m.B).length=m.B.length:=by
   grind
  have hF:=Bz (m.N.getD 1 0).toNat ((m.N.drop 4).zip m.B) 0 { s with Ox:=0 } k h0 YO Rh;rw [hz] at hF;generalize bH (m.N.getD 1 0).toNat ((m.N.drop 4).zip m.B) 0 { s with Ox:=0 } k=p at *;obtain ⟨hw,hs,hlen⟩:=hF;have hsa:=hs.all;by_cases hp:p.1=true
  ·rw [ay hp];have hlen:=hlen hp;have hq:∃q:Rp×Dk,q=(if m.B.length=0 then p.2 else cO p.2.1 p.2.2)/\Wf q.1 q.2/\q.1.own=s.own/\q.1.n=s.n/\q.1.OA=s.OA/\q.1.Oz=p.2.1.Oz:=by
    grind [jS,qb,fQ]
   obtain ⟨q,hqe,hqw,q1,q2,q3,q4⟩:=hq;rw [<-hqe];split
   ·exact Out.none hqw q1 q2 (iR q3)
   ·have QJ:=xh (s:=q.1) (min (m.N.getD 3 0) (((m.N.getD 1 0).toNat+m.B.length:Nat):Int)).toNat;have hwa:=uV hqw (min (m.N.getD 3 0) (((m.N.getD 1 0).toNat+m.B.length:Nat):Int)).toNat (by rw [q4];omega);generalize cI q.1 (min (m.N.getD 3 0) (((m.N.getD 1 0).toNat+m.B.length:Nat):Int)).toNat=s2 at *;refine ⟨hwa,QJ.1.trans q1,QJ.2.1.trans q2,iR (QJ.2.2.1.trans q3),λx hx=>?_⟩;rw [aj.1 hx,<-QJ.1.trans q1,<-QJ.2.1.trans q2];exact j8 m.OD 4 _ SL (by rw [QJ.2.1.trans q2];exact hfn) (by rw [QJ.1.trans q1];exact R5) bL bL
  ·grind [Out.none,iR]
 ·rw [am SJ];refine ⟨h0,rfl,rfl,ah _,λx hx=>?_⟩;rw [aj.1 hx];exact j8 (s:={ s with Ox:=0 }) m.OD 4 _ SL hfn R5 bL bL
theorem CS (h:Wf s k) (i:Nat) (a b:Int):Wf { s with heard:=s.heard.set i ((s.OA:Int),a,b)} k :=
 ⟨h.n1,h.n5,h.own,h.vl,h.nl,h.ml,by simpa using h.hl,h.room,h.RQ,h.Uv,h.RU,h.Rg,h.VK,h.lead,h.Ql,h.Qy,h.Yj,h.Th,h.Rk,h.tick,λx hx=>by
  rcases List.mem_or_eq_of_mem_set hx with h1 | h1
  ·exact h.Sc x h1
  ·rw [h1];exact ⟨by simp,aP _⟩⟩
theorem zt (h:Wf s k) (m:OM):Out s 0 (gJ s k m):=by
 have h0:=iC h;unfold gJ;by_cases hb:((bw s k).done||pD (bw s k) m)=true
 ·rw [ay hb];exact Out.none h0 rfl rfl (ah _)
 rw [am hb];simp only [bi,not_or] at hb;have PF:=hb.2;unfold pD at PF;simp only [bi,bb,not_or,dy,aZ] at PF;obtain ⟨⟨⟨⟨⟨⟨_,R5⟩,SL⟩,hfn⟩,Pr⟩,Uu⟩,hNM⟩:=PF;have R5:(m.OD==(s.own:Int))=false:=by
  grind [bw]
 have hfn:m.OD<(s.n:Int):=by
  have:¬((s.n:Int)<=m.OD):=hfn;omega
 have SL:0<=m.OD:=az;have hp:∃p:Bool×Rp×Dk,p=(if (bw s k).Ow<m.N.getD 0 0 then bB (bw s k) k (m.N.getD 0 0) (-1) else (true,bw s k,k))/\Wf p.2.1 p.2.2/\p.2.1.own=s.own/\p.2.1.n=s.n/\p.2.1.OA=s.OA/\(p.1=true->m.N.getD 0 0<=p.2.1.Ow):=by
  by_cases ht:(bw s k).Ow<m.N.getD 0 0
  ·rw [ay ht];have he:=iM (s:=bw s k) (k:=k) (m.N.getD 0 0) (-1);exact ⟨_,rfl,jP h0 _ _ az az az (by have:=h0.n1;omega),he.1,he.2.1,he.2.2.1,λe=>by rw [he.2.2.2 e];exact aP _⟩
  ·grind [bw]
 obtain ⟨p,hpe,hw,p1,p2,p3,p4⟩:=hp;simp only;rw [<-hpe];by_cases h1:p.1=true
 ·rw [ay h1];have hfn2:m.OD<(p.2.1.n:Int):=by rw [p2];exact hfn
  have hfo2:(m.OD==(p.2.1.own:Int))=false:=by rw [p1];exact R5
  have Sw:p.2.1.OA+0<=s.OA+0:=iR p3;split
  ·exact (AQ m SL hfn2 hfo2 hw).of p1 p2 Sw
  ·split
   ·exact (AO m hw).of p1 p2 Sw
   ·split
    ·exact (DC m SL hfn2 hfo2 hw (p4 h1)).of p1 p2 Sw
    ·split
     ·exact (tZ m SL hfn2 hfo2 hw).of p1 p2 Sw
     ·grind [Out.none,CS]
 ·grind [Out.none,iR]
end
def uI (k:Dk):Prop:=∀l q,k.file=some (l,q)->q<=l.length
structure KS (k k':Dk):Prop where
 room:k'.room=k.room
 off:k'.off=k.off
 lives:k'.lives=k.lives
 sf:uI k->uI k'
theorem KS.refl (k:Dk):KS k k:=⟨rfl,rfl,rfl,id⟩
theorem KS.trans {a b c:Dk} (h:KS a b) (g:KS b c):KS a c:=⟨g.room.trans h.room,g.off.trans h.off,g.lives.trans h.lives,λx=>g.sf (h.sf x)⟩
section
variable {s s':Rp} {k k':Dk}
theorem K7 (k:Dk) (b:List UInt8):KS k (nw k b):=by
 refine ⟨rfl,rfl,rfl,λh l q hf=>?_⟩;unfold nw FP at hf;cases hk:k.file with
 | none=>rw [hk] at hf;cases hf;exact aH _
 | some p =>
  obtain ⟨m,z⟩:=p;rw [hk] at hf;cases hf;have:=h m q hk;simp;omega
theorem Hq (w:Wl) (k:Dk) (b:List UInt8):KS k (gx w k b).2.2:=by
 grind [gx,KS.refl,K7]
theorem EN (w:Wl) (k:Dk):KS k (gX w k).2.2:=by
 unfold gX;split
 ·exact KS.refl k
 ·split
  ·exact KS.refl k
  ·refine ⟨rfl,rfl,rfl,λh l q hf=>?_⟩;cases hf;exact ah _
theorem wt (b:List UInt8):KS k (bQ s k b).2:=by
 grind [bQ,KS.refl,Hq]
theorem uh:KS k (cO s k).2:=by
 grind [cO,KS.refl,EN]
theorem rh (t w:Int):KS k (bB s k t w).2.2:=by
 have h:=wt (s:=s) (k:=k) (ez t w);unfold bB;generalize bQ s k (ez t w)=p at *;simp only;split
 ·exact h
 ·have g:=uh (s:=p.1) (k:=p.2);split<;>exact h.trans g
theorem wu (p:Nat) (x:Po):KS k (cR s k p x).2.2:=by
 grind [wt,dY,cR,bQ]
theorem EP (x:Po):KS k (gt s k x).2.2:=by
 have h:=wu (s:=s) (k:=k) s.Oz.length x;unfold gt;generalize cR s k s.Oz.length x=q at *;simp only;split
 ·exact h.trans uh
 ·exact h
theorem zJ:KS k (hJ s k).2.2:=by
 grind [hJ,EP,List.replicate]
theorem EO:KS k (gZ s k).2.2:=by
 unfold gZ;split
 ·exact KS.refl k
 ·have h:=rh (s:=s) (k:=k) (s.Ow+1) (s.own:Int);generalize bB s k (s.Ow+1) (s.own:Int)=p at *;simp only;split
  ·split
   ·exact h.trans zJ
   ·exact h
  ·exact h
theorem Ho:KS k (eM s k).2.2:=by
 grind [eM,KS.refl,EO]
theorem BD (rec:List UInt8):KS k (bF s k rec).2.2.2:=by
 grind [bF,KS.refl,bw,jC,EP,gt]
theorem ES (m:OM):KS k (eX s k m).2.2:=by
 grind [eX,rh,bB,KS.refl]
theorem EM (m:OM):KS k (fS s k m).2.2:=by
 grind [fS,KS.refl,zJ]
theorem ER (f:Nat) (l:List (Int×List UInt8)):∀(i:Nat) (s:Rp) (k:Dk),KS k (bH f l i s k).2.2:=by
 induction l with
 | nil=>intro i s k;exact KS.refl k
 | cons a l ih =>
  intro i s k;obtain ⟨t,rec⟩:=a;unfold bH;split
  ·exact ih _ _ _
  ·split
   ·exact KS.refl k
   ·have h:=wu (s:=s) (k:=k) (f+i) ⟨t,rec⟩;generalize cR s k (f+i) ⟨t,rec⟩=p at *;simp only;split
    ·exact h.trans (ih _ _ _)
    ·exact h
theorem Hp (m:OM):KS k (eA s k m).2.2:=by
 unfold eA;by_cases hb:(!(m.N.length==4+m.B.length)||decide (m.N.getD 1 0<0)||(m.N.getD 0 0==s.Ow&&s.Oy))=true
 ·rw [ay hb];exact KS.refl k
 rw [am hb];by_cases h1:m.N.getD 0 0<s.Ow
 ·rw [ay h1];exact KS.refl k
 rw [am h1];simp only;by_cases SJ:fN { s with Ox:=0 } (m.N.getD 1 0) (m.N.getD 2 0)=true
 ·rw [ay SJ];have hF:=ER (m.N.getD 1 0).toNat ((m.N.drop 4).zip m.B) 0 { s with Ox:=0 } k;generalize bH (m.N.getD 1 0).toNat ((m.N.drop 4).zip m.B) 0 { s with Ox:=0 } k=p at *;by_cases hp:p.1=true
  ·rw [ay hp];have hq:KS k (if m.B.length=0 then p.2 else cO p.2.1 p.2.2).2:=by
    split
    ·exact hF
    ·exact hF.trans uh
   generalize (if m.B.length=0 then p.2 else cO p.2.1 p.2.2)=q at *;split<;>exact hq
  ·rw [am hp];exact hF
 ·rw [am SJ];exact KS.refl k
theorem K6 (m:OM):KS k (gJ s k m).2.2:=by
 unfold gJ;by_cases hb:((bw s k).done||pD (bw s k) m)=true
 ·rw [ay hb];exact KS.refl k
 rw [am hb];have hp:∃p:Bool×Rp×Dk,p=(if (bw s k).Ow<m.N.getD 0 0 then bB (bw s k) k (m.N.getD 0 0) (-1) else (true,bw s k,k))/\KS k p.2.2:=by
  grind [rh,KS.refl]
 obtain ⟨p,hpe,hk⟩:=hp;rw [<-hpe];by_cases h1:p.1=true
 ·rw [ay h1];split
  ·exact hk.trans (ES m)
  ·split
   ·exact hk.trans (EM m)
   ·split
    ·exact hk.trans (Hp m)
    ·grind
 ·rw [am h1];exact hk
end
def jT (n:Nat):Rp:=dX 0 n 0 []
def Match (n:Nat) (ns:List O3) (Ow OC:Int) (Oz:List Po):Prop:=(da (jT n) ns).Ow=Ow/\(da (jT n) ns).OC=OC/\(da (jT n) ns).Oz=Oz
structure Qj (s:Rp):Prop where
 ex:∃ns,s.wl.recs=ns.map O3.bytes/\dz (jT s.n) ns/\(s.done=false->Match s.n ns s.Ow s.OC s.Oz)
 lead:s.Oy=true->1<=s.Ow
section
variable {s s':Rp} {k k':Dk}
theorem Ch (w:Wl) (k:Dk) (b:List UInt8):((gx w k b).1=0/\(gx w k b).2.1.recs=w.recs++[b])\/((gx w k b).1≠0/\(gx w k b).2.1.recs=w.recs):=by
 unfold gx;split
 ·exact .inr ⟨by simp,rfl⟩
 ·split
  ·exact .inr ⟨by simp,rfl⟩
  ·split
   ·exact .inr ⟨by simp,rfl⟩
   ·exact .inl ⟨rfl,rfl⟩
theorem xF (w:Wl) (k:Dk):(gX w k).2.1.recs=w.recs:=by
 unfold gX;split
 ·rfl
 ·split<;>rfl
theorem mj (b:List UInt8):((bQ s k b).1.done=false/\s.done=false/\(bQ s k b).1.wl.recs=s.wl.recs++[b])\/((bQ s k b).1.done=true/\(bQ s k b).1.wl.recs=s.wl.recs):=by
 grind [bQ,Ch]
theorem oT:(cO s k).1.wl.recs=s.wl.recs/\((cO s k).1.done=false->s.done=false):=by
 grind [cO,xF]
theorem Qj.sync (h:Qj s):Qj (cO s k).1:=by
 obtain ⟨⟨ns,h1,h2,h3⟩,h4⟩:=h;obtain ⟨r1,r2⟩:=oT (s:=s) (k:=k);have e:=(jS (s:=s) (k:=k))
 have ea:=e.all;have es:=fQ (s:=s) (k:=k);refine ⟨⟨ns,by rw [r1,h1],by rw [ea.2.1];exact h2,λhd=>?_⟩,λhl=>?_⟩
 ·grind
 ·grind
theorem Match.snoc {n:Nat} {ns:List O3} {t c:Int} {l:List Po} (h:Match n ns t c l) (a:O3):Match n (ns++[a]) (ep { jT n with Ow:=t,OC:=c,Oz:=l } a).Ow (ep { jT n with Ow:=t,OC:=c,Oz:=l } a).OC (ep { jT n with Ow:=t,OC:=c,Oz:=l } a).Oz:=by
 obtain ⟨h1,h2,h3⟩:=h;obtain ⟨t',c',g',e⟩:=gM (jT n) ns;unfold Match;rw [mc];rw [e] at h1 h2 h3 ⊢;subst h1;subst h2;subst h3;exact ⟨rfl,rfl,rfl⟩
theorem pO {n:Nat} {ns:List O3} {t c:Int} {l:List Po} (h:Match n ns t c l) (hk:dz (jT n) ns) (a:O3) (ha:li { jT n with Ow:=t,OC:=c,Oz:=l } a):dz (jT n) (ns++[a]):=by
 rw [iO];refine ⟨hk,?_,trivial⟩;obtain ⟨h1,h2,h3⟩:=h;obtain ⟨t',c',g',e⟩:=gM (jT n) ns;rw [e] at h1 h2 h3 ⊢;subst h1;subst h2;subst h3;exact ha
theorem pe (h:Qj s) (Ow who:Int) (h1:s.Ow<=Ow) (h2:Ow<=1099511627776) (h3 : -1<=who) (h4:who<s.n):Qj (bB s k Ow who).2.1:=by
 obtain ⟨⟨ns,g1,g2,g3⟩,g4⟩:=h;have e1:=fj (s:=s) (k:=k) (ez Ow who);have ea:=(kx (s:=s) (k:=k) (ez Ow who)).all;have hr:=mj (s:=s) (k:=k) (ez Ow who);unfold bB;generalize bQ s k (ez Ow who)=p at *;rcases hr with ⟨r1,r2,r3⟩ | ⟨r1,r2⟩
 ·rw [am (by rw [r1];decide)];have hm:=g3 r2;have hk:=pO hm g2 (.t Ow who) ⟨h1,h2,h3,h4⟩;have Qb:=hm.snoc (.t Ow who);have q1:=oT (s:=p.1) (k:=p.2);have qa:=(jS (s:=p.1) (k:=p.2)).all;have qs:=fQ (s:=p.1) (k:=p.2);have SH:(cO p.1 p.2).1.wl.recs=(ns++[O3.t Ow who]).map O3.bytes:=by rw [q1.1,r3,g1];simp [O3.bytes]
  have hn:(cO p.1 p.2).1.n=s.n:=qa.2.1.trans ea.2.1;have Pz:(cO p.1 p.2).1.Oz=s.Oz:=by rw [qs,e1]
  have UU:(cO p.1 p.2).1.Ow=s.Ow:=qa.2.2.2.2.1.trans ea.2.2.2.2.1;have P9:(cO p.1 p.2).1.Oy=s.Oy:=qa.2.2.2.1.trans ea.2.2.2.1;generalize cO p.1 p.2=q at *;by_cases hd:q.1.done=true
  ·rw [ay hd];exact ⟨⟨_,SH,by rw [hn];exact hk,λe=>by rw [hd] at e;cases e⟩,λhl=>by rw [UU];exact g4 (by rw [<-P9];exact hl)⟩
  ·rw [am hd];refine ⟨⟨_,SH,by show dz (jT q.1.n) _;rw [hn];exact hk,λ_=>?_⟩,λhl=>?_⟩
   ·rw [hn,Pz];exact Qb
   ·grind
 ·rw [ay r1];have hn:p.1.n=s.n:=ea.2.1;exact ⟨⟨ns,by rw [r2,g1],by rw [hn];exact g2,λe=>by rw [r1] at e;cases e⟩,λhl=>by rw [ea.2.2.2.2.1];exact g4 (by rw [<-ea.2.2.2.1];exact hl)⟩
theorem sM (h:Qj s) (p:Nat) (x:Po) (h1:p<=s.Oz.length) (h2:1<=x.Ow) (h3:x.Ow<=s.Ow) (h4:x.bs.length<=8000):Qj (cR s k p x).2.1:=by
 obtain ⟨⟨ns,g1,g2,g3⟩,g4⟩:=h;have e1:=fj (s:=s) (k:=k) (dY p x);have ea:=(kx (s:=s) (k:=k) (dY p x)).all;have hr:=mj (s:=s) (k:=k) (dY p x);unfold cR;generalize bQ s k (dY p x)=q at *;rcases hr with ⟨r1,r2,r3⟩ | ⟨r1,r2⟩
 ·rw [am (by rw [r1];decide)];have hm:=g3 r2;have hk:=pO hm g2 (.e p x) ⟨h1,h2,h3,h4⟩;have Qb:=hm.snoc (.e p x);refine ⟨⟨ns++[O3.e p x],by show q.1.wl.recs=_;rw [r3,g1];simp [O3.bytes],by show dz (jT q.1.n) _;rw [ea.2.1];exact hk,λ_=>?_⟩,λhl=>?_⟩
  ·rw [e1];exact Qb
  ·grind
 ·rw [ay r1];exact ⟨⟨ns,by rw [r2,g1],by rw [ea.2.1];exact g2,λe=>by rw [r1] at e;cases e⟩,λhl=>by rw [ea.2.2.2.2.1];exact g4 (by rw [<-ea.2.2.2.1];exact hl)⟩
theorem zx (h:Qj s) (x:Po) (h2:1<=x.Ow) (h3:x.Ow<=s.Ow) (h4:x.bs.length<=8000):Qj (gt s k x).2.1:=by
 have hp:=sM (k:=k) h s.Oz.length x (ah _) h2 h3 h4;unfold gt;generalize cR s k s.Oz.length x=p at *;simp only;split
 ·exact hp.sync
 ·exact hp
theorem Qj.of {s s':Rp} (h:Qj s) (h1:s'.wl.recs=s.wl.recs) (h2:s'.n=s.n) (h3:s'.done=false->s.done=false) (h4:s'.Ow=s.Ow) (h5:s'.OC=s.OC) (h6:s'.Oz=s.Oz) (h7:s'.Oy=true->1<=s.Ow):Qj s':=by
 obtain ⟨⟨ns,g1,g2,g3⟩,g4⟩:=h;exact ⟨⟨ns,h1.trans g1,by rw [h2];exact g2,λhd=>by rw [h2,h4,h5,h6];exact g3 (h3 hd)⟩,λhl=>by rw [h4];exact h7 hl⟩
theorem mO (h:Qj s):Qj (bZ s).2:=by
 have ha:∀(t:Rp) (m:Nat),(cI t m).wl.recs=t.wl.recs/\(cI t m).n=t.n/\(cI t m).done=t.done/\(cI t m).Ow=t.Ow/\(cI t m).OC=t.OC/\(cI t m).Oz=t.Oz/\(cI t m).Oy=t.Oy:=λt m=>by unfold cI;split<;>exact ⟨rfl,rfl,rfl,rfl,rfl,rfl,rfl⟩
 have hk:∀t:Rp,Qj t->∀m,Qj (cI t m):=λt ht m=>by
  grind [ht.of,ht.lead]
 have h1:Qj { s with OE:=s.OE.set s.own s.Oz.length }:=h.of rfl rfl id rfl rfl rfl h.lead;unfold bZ;simp only;split
 ·exact hk _ h1 _
 ·exact h1
theorem Bf (h:Qj s) (m:Nat):Qj (cI s m):=by
 grind [cI,h.of,h.lead]
theorem vC (h:Qj s) (ht:1<=s.Ow):Qj (hJ s k).2.1:=by
 have h0:Qj { s with Oy:=true,next:=List.replicate s.n s.Oz.length,OE:=List.replicate s.n 0 }:=h.of rfl rfl id rfl rfl rfl (λ_=>ht);have h1:=zx (k:=k) h0 ⟨s.Ow,[]⟩ ht (aP _) bL;unfold hJ;simp only;split
 ·exact mO h1
 ·exact h1
theorem Bc (h:Qj s) (hw:Wf s k):Qj (gZ s k).2.1:=by
 unfold gZ;by_cases ht:1099511627776<=s.Ow
 ·rw [ay ht];exact h
 ·rw [am ht];have h0:=hw.Ql;have hn:=pe (k:=k) h (s.Ow+1) (s.own:Int) az az az (by have:=hw.own;omega);have he:=iM (s:=s) (k:=k) (s.Ow+1) (s.own:Int);generalize bB s k (s.Ow+1) (s.own:Int)=p at *;simp only;by_cases hp:p.1=true
  ·rw [ay hp];have h1:Qj { p.2.1 with Ox:=0,OB:=(List.replicate s.n false).set s.own true }:=hn.of rfl rfl id rfl rfl rfl hn.lead;split
   ·grind [vC]
   ·exact h1
  ·rw [am hp];exact hn
theorem pf (h:Qj s):Qj (bw s k):=h.of rfl rfl (λhd=>by
 have:eG s k=false:=hd;unfold eG at this;rw [dw] at this;exact this.1) rfl rfl rfl h.lead
theorem DJ (h:Qj s) (hw:Wf s k):Qj (eM s k).2.1:=by
 have h0:=pf (k:=k) h;have w0:=iC hw;unfold eM;simp only;split
 ·exact h0
 ·split
  ·exact h0.of rfl rfl id rfl rfl rfl h0.lead
  ·have h2:Qj { bw s k with OA:=(bw s k).OA+1,Ox:=(bw s k).Ox+1 }:=h0.of rfl rfl id rfl rfl rfl h0.lead;have w2:Wf { bw s k with OA:=(bw s k).OA+1,Ox:=(bw s k).Ox+1 } k:=fF w0 (bw s k).lives ((bw s k).Ox+1) ((bw s k).OA+1) (bw s k).OB (Nat.succ_le_succ w0.tick) w0.vl (cZ _);split
   ·exact Bc h2 w2
   ·split<;>exact h2
theorem x7 (h:Qj s) (rec:List UInt8):Qj (bF s k rec).2.2.1:=by
 have h0:=pf (k:=k) h;unfold bF;by_cases h1:rec.length=0
 ·rw [ay h1];exact h
 rw [am h1];by_cases h2:8000<rec.length
 ·rw [ay h2];exact h
 rw [am h2];by_cases h3:(bw s k).done=true
 ·rw [ay h3];exact h0
 rw [am h3];by_cases h4:(!(bw s k).Oy)=true
 ·rw [ay h4];exact h0
 rw [am h4];by_cases h5:200<=jC (bw s k)\/2000<=(bw s k).many
 ·rw [ay h5];exact h0
 rw [am h5];have hw:=zx (k:=k) h0 ⟨(bw s k).Ow,rec⟩ (h0.lead (by simpa using h4)) (aP _) (by simpa using h2);generalize gt (bw s k) k ⟨(bw s k).Ow,rec⟩=p at *;by_cases h6:p.1=true
 ·rw [ay h6];exact mO hw
 ·rw [am h6];exact hw
theorem mN (h:Qj s) (t:Nat):Qj { s with Ox:=t }:=h.of rfl rfl id rfl rfl rfl h.lead
theorem Be (h:Qj s) (hw:Wf s k) (m:OM) (SL:0<=m.OD) (hfn:m.OD<(s.n:Int)):Qj (eX s k m).2.1:=by
 unfold eX;split
 ·simp only;split
  ·split
   ·have hn:=pe (k:=k) h s.Ow m.OD (aP _) hw.Qy az hfn;generalize bB s k s.Ow m.OD=p at *;split
    ·exact mN hn 0
    ·exact hn
   ·exact mN h 0
  ·exact h
 ·exact h
theorem Bb (h:Qj s) (m:OM) (hN:1<=m.N.getD 0 0):Qj (fS s k m).2.1:=by
 unfold fS;split
 ·exact h
 ·rename_i hb;have h1:Qj { s with OB:=s.OB.set m.OD.toNat true }:=h.of rfl rfl id rfl rfl rfl h.lead;simp only;split
  ·grind [vC]
  ·exact h1
theorem t9 (h:Qj s) (m:OM):Qj (cG s m).2:=by
 grind [cG,mO,h.of,h.lead]
theorem Bd (f:Nat) (l:List (Int×List UInt8)):∀(i:Nat) (s:Rp) (k:Dk),Qj s->Wf s k->s.Oy=false->f+i<=s.Oz.length->Qj (bH f l i s k).2.1:=by
 induction l with
 | nil=>intro i s k h hw hl hf;exact h
 | cons a l ih =>
  intro i s k h hw hl hf;obtain ⟨t,rec⟩:=a;unfold bH;by_cases h1:f+i<s.Oz.length/\(s.Oz.map Po.Ow).getD (f+i) 0=t
  ·grind
  ·rw [am h1];by_cases h2:8000<rec.length\/t<1\/s.Ow<t\/f+i<s.agreed
   ·rw [ay h2];exact h
   ·rw [am h2];have hn:=sM (k:=k) h (f+i) ⟨t,rec⟩ hf (by show 1<=t;omega) (by show t<=s.Ow;omega) KM;have hw2:=nJ hw (f+i) ⟨t,rec⟩ hf az (λe=>by rw [hl] at e;cases e) KM;have hs:=ky (s:=s) (k:=k) (f+i) ⟨t,rec⟩;have hg:=mJ (s:=s) (k:=k) (f+i) ⟨t,rec⟩;generalize cR s k (f+i) ⟨t,rec⟩=p at *;by_cases h3:p.1=true
    ·rw [ay h3];have hlen:p.2.1.Oz.length=f+i+1:=D0;exact ih (i+1) p.2.1 p.2.2 hn hw2 (hs.all.2.2.2.1.trans hl) az
    ·rw [am h3];exact hn
theorem DK (h:Qj s) (hw:Wf s k) (m:OM) (hle:m.N.getD 0 0<=s.Ow):Qj (eA s k m).2.1:=by
 unfold eA;by_cases hb:(!(m.N.length==4+m.B.length)||decide (m.N.getD 1 0<0)||(m.N.getD 0 0==s.Ow&&s.Oy))=true
 ·rw [ay hb];exact h
 rw [am hb];by_cases h1:m.N.getD 0 0<s.Ow
 ·rw [ay h1];exact h
 rw [am h1];have h0:=mN h 0;have w0:Wf { s with Ox:=0 } k:=fF hw s.lives 0 s.OA _ (aH _) hw.vl (ah _);simp only;simp only [bi,bb,not_or,dy,aZ,bu,cE,not_and] at hb;obtain ⟨⟨hNl,Sk⟩,P9⟩:=hb;have YO:s.Oy=false:=by
  have:=P9 az;simpa using this
 by_cases SJ:fN { s with Ox:=0 } (m.N.getD 1 0) (m.N.getD 2 0)=true
 ·rw [ay SJ];have Rh:(m.N.getD 1 0).toNat<=s.Oz.length:=Kv;have hF:=Bd (m.N.getD 1 0).toNat ((m.N.drop 4).zip m.B) 0 { s with Ox:=0 } k h0 w0 YO Rh;generalize bH (m.N.getD 1 0).toNat ((m.N.drop 4).zip m.B) 0 { s with Ox:=0 } k=p at *;by_cases hp:p.1=true
  ·grind [cO,Bf,hF.sync]
  ·rw [am hp];exact hF
 ·rw [am SJ];exact h0
theorem GJ (h:Qj s) (hw:Wf s k) (m:OM):Qj (gJ s k m).2.1:=by
 have h0:=pf (k:=k) h;have w0:=iC hw;unfold gJ;by_cases hb:((bw s k).done||pD (bw s k) m)=true
 ·rw [ay hb];exact h0
 rw [am hb];simp only [bi,not_or] at hb;have PF:=hb.2;unfold pD at PF;simp only [bi,bb,not_or,dy,aZ] at PF;obtain ⟨⟨⟨⟨⟨⟨_,R5⟩,SL⟩,hfn⟩,Pr⟩,Uu⟩,hNM⟩:=PF;have hfn:m.OD<(s.n:Int):=by
  have:¬((s.n:Int)<=m.OD):=hfn;omega
 have hp:∃p:Bool×Rp×Dk,p=(if (bw s k).Ow<m.N.getD 0 0 then bB (bw s k) k (m.N.getD 0 0) (-1) else (true,bw s k,k))/\Qj p.2.1/\Wf p.2.1 p.2.2/\p.2.1.n=s.n/\(p.1=true->m.N.getD 0 0<=p.2.1.Ow):=by
  by_cases ht:(bw s k).Ow<m.N.getD 0 0
  ·rw [ay ht];have he:=iM (s:=bw s k) (k:=k) (m.N.getD 0 0) (-1);exact ⟨_,rfl,pe h0 _ _ (Int.le_of_lt ht) az az (by have:=w0.n1;omega),jP w0 _ _ az az az (by have:=w0.n1;omega),he.2.1,λe=>by rw [he.2.2.2 e];exact aP _⟩
  ·grind [bw]
 obtain ⟨p,hpe,hn,YB,p2,p4⟩:=hp;rw [<-hpe];by_cases h1:p.1=true
 ·grind [Be,Bb,DK,t9,hn.of,hn.lead]
 ·rw [am h1];exact hn
end
def ET:List (List UInt8)->Nat->Nat
 | [],_=>0
 | r::l,len=>if 12+r.length<=len then ET l (len - (12+r.length))+1 else 0
theorem Am (recs:List (List UInt8)):∀len,len<=(F.aY recs).length->∃r q,(F.aY recs).take len=F.aY (recs.take (ET recs len))++(F.cM r).take q/\q<12+r.length/\(r=[]\/r∈recs):=by
 induction recs with
 | nil =>
  intro len h;refine ⟨[],0,?_,by simp,.inl rfl⟩;simp [F.aY,ET]
 | cons a l ih =>
  intro len h;rw [F.fe,aE,F.dG] at h;unfold ET;by_cases hl:12+a.length<=len
  ·rw [ay hl];obtain ⟨r,q,h1,h2,h3⟩:=ih (len - (12+a.length)) az;refine ⟨r,q,?_,h2,h3.imp id (aM _)⟩;rw [F.fe,List.take_succ_cons,F.fe,bS,<-h1,List.take_append,F.dG,bE (by rw [F.dG];exact hl)]
  ·rw [am hl];refine ⟨a,len,?_,by omega,.inr bd⟩;rw [F.fe,cS (by rw [F.dG];omega)];simp [F.aY]
def oc (b:List UInt8):O3:=if b.length=24 then .t (sa (b.drop 8)) (sa (b.drop 16)) else .e (sa (b.drop 8)).toNat ⟨sa (b.drop 16),b.drop 32⟩
theorem GG (a c:Int) (h1 : -9223372036854775808<=a) (h2:a<=9223372036854775807) (h3 : -9223372036854775808<=c) (h4:c<=9223372036854775807):oc (ez a c) = .t a c:=by
 grind [oc,jX,pN,iy,IH,ie,LK,nK]
theorem GH (p:Nat) (x:Po) (h1:p<=1000000000) (h2 : -9223372036854775808<=x.Ow) (h3:x.Ow<=9223372036854775807):oc (dY p x) = .e p x:=by
 unfold oc;rw [am (by rw [i7];omega)];have hp:dY p x=iy 2++(iy (p:Int)++(iy x.Ow++(iy (x.bs.length:Int)++x.bs))):=by
  unfold dY kL;simp [bS]
 rw [hp];have e1:(iy 2++(iy (p:Int)++(iy x.Ow++(iy (x.bs.length:Int)++x.bs)))).drop 8=iy (p:Int)++(iy x.Ow++(iy (x.bs.length:Int)++x.bs)):=IH (ie 2);have e2:(iy 2++(iy (p:Int)++(iy x.Ow++(iy (x.bs.length:Int)++x.bs)))).drop 16=iy x.Ow++(iy (x.bs.length:Int)++x.bs):=by
  grind [LK,IH,ie]
 have e3:(iy 2++(iy (p:Int)++(iy x.Ow++(iy (x.bs.length:Int)++x.bs)))).drop 32=x.bs:=by
  grind [LK,IH,ie]
 rw [e1,e2,e3,nK (p:Int) _ az az,nK x.Ow _ h2 h3,bU]
theorem lf (a b:Rp) (h1:a.n=b.n) (h2:a.Ow=b.Ow) (h3:a.OC=b.OC) (h4:a.Oz=b.Oz) (l:List O3):(da a l).Ow=(da b l).Ow/\(da a l).OC=(da b l).OC/\(da a l).Oz=(da b l).Oz/\(dz a l↔dz b l):=by
 induction l generalizing a b with
 | nil=>exact ⟨h2,h3,h4,Iff.rfl⟩
 | cons x l ih =>
  have hk:li a x↔li b x:=by
   cases x with
   | t u v=>simp only [li];rw [h2,h1]
   | e p y=>simp only [li];rw [h4,h2]
  have hn:(ep a x).n=(ep b x).n/\(ep a x).Ow=(ep b x).Ow/\(ep a x).OC=(ep b x).OC/\(ep a x).Oz=(ep b x).Oz:=by
   cases x with
   | t u v=>exact ⟨h1,rfl,rfl,h4⟩
   | e p y=>exact ⟨h1,h2,h3,by simp only [ep];rw [h4]⟩
  obtain ⟨r1,r2,r3,r4⟩:=ih (ep a x) (ep b x) hn.1 hn.2.1 hn.2.2.1 hn.2.2.2;refine ⟨r1,r2,r3,?_⟩;simp only [dz];rw [hk,r4]
theorem nW (s:Rp) (l:List O3) (h:dz s l) (hl:s.Oz.length+l.length<=1000000000) (h0:0<=s.Ow) (hM:s.Ow<=1099511627776) (hn:s.n<=5):(l.map O3.bytes).map oc=l:=by
 induction l generalizing s with
 | nil=>rfl
 | cons a l ih =>
  obtain ⟨h1,h2⟩:=h;simp only [aX] at hl;have Pz:(ep s a).Oz.length<=s.Oz.length+1:=by
   cases a with
   | t u v=>simp [ep]
   | e p y=>simp [ep];omega
  have SU:0<=(ep s a).Ow:=by
   cases a with
   | t u v=>exact cK h0 h1.1
   | e p y=>exact h0
  have Tb:(ep s a).n<=5:=by
   cases a with
   | t u v=>exact hn
   | e p y=>exact hn
  have hMM:(ep s a).Ow<=1099511627776:=by
   cases a with
   | t u v=>exact h1.2.1
   | e p y=>exact hM
  have e:=ih (ep s a) h2 az SU hMM Tb;simp only [bJ,e];congr 1;cases a with
  | t u v =>
   obtain ⟨k1,k2,k3,k4⟩:=h1;exact GG u v az az az az
  | e p y =>
   obtain ⟨k1,k2,k3,k4⟩:=h1;exact GH p y az az az
structure XI (s:Rp) (k:Dk):Prop where
 wf:Wf s k
 nok:Qj s
 sf:uI k
 off:k.off=false
structure DnI (s:Rp) (k:Dk):Prop where
 Uv:fU k=(F.aY s.wl.recs).take (fU k).length
 len:(fU k).length<=(F.aY s.wl.recs).length
 sf:uI k
 room:k.room<=1048576
 RQ:(k.total:Int)<=k.room
 nok:Qj s
 n1:1<=s.n
 n5:s.n<=5
 own:s.own<s.n
 off:k.off=true
theorem rD (k:Dk) (keep:Int):∃m,m<=(fU k).length/\fU (dI k keep)=(fU k).take m/\(uI k->uI (dI k keep)):=by
 unfold dI rE fU uI;cases hk:k.file with
 | none=>exact ⟨0,by simp,by simp,λ_ l q hf=>by cases hf⟩
 | some p =>
  obtain ⟨l,q⟩:=p;refine ⟨min (stays l q keep) l.length,by simp;omega,?_,λh l2 q2 hf=>?_⟩
  ·grind
  ·grind [cV,vb,aQ]
theorem XI.Qm {s:Rp} {k:Dk} (h:XI s k) (keep:Int):DnI s (dI k keep):=by
 obtain ⟨m,h1,h2,h3⟩:=rD k keep;have hf:=h.wf.Uv;have hl:(fU (dI k keep)).length=m:=by rw [h2,aQ];omega
 refine ⟨by rw [hl,h2,hf],by rw [hl,<-hf];exact h1,h3 h.sf,h.wf.room,?_,h.nok,h.wf.n1,h.wf.n5,h.wf.own,rfl⟩;have:=h.wf.RQ;exact I3
theorem DnI.Qm {s:Rp} {k:Dk} (h:DnI s k) (keep:Int):DnI s (dI k keep):=by
 obtain ⟨m,h1,h2,h3⟩:=rD k keep;have hl:(fU (dI k keep)).length=m:=by rw [h2,aQ];omega
 refine ⟨?_,by rw [hl];exact aF h1 h.len,h3 h.sf,h.room,?_,h.nok,h.n1,h.n5,h.own,rfl⟩
 ·grind [h.Uv]
 ·have:=h.RQ;exact I3
def LG (k:Dk):Dk:={ k with off:=false,lives:=k.lives+1 }
def eW (s:Rp) (k:Dk):List (List UInt8):=s.wl.recs.take (ET s.wl.recs (fU k).length)
def f9 (i n:Nat) (s:Rp) (k:Dk):Rp:=da (dX i n (k.lives+1) (eW s k)) ((eW s k).map oc)
def gb (s:Rp) (k:Dk):Dk:=fJ (LG k) (eW s k)
theorem vA (s:Rp) (l:List O3) (h:dz s l):∀x∈l.map O3.bytes,x.length<=20000:=by
 induction l generalizing s with
 | nil=>intro x hx;cases hx
 | cons a l ih =>
  intro x hx;obtain ⟨h1,h2⟩:=h;rw [bJ] at hx;rcases cA.1 hx with rfl | hx
  ·cases a with
   | t u v=>show (ez u v).length<=_;rw [jX];omega
   | e p y=>show (dY p y).length<=_;rw [i7];have:=h1.2.2.2;omega
  ·exact ih _ h2 x hx
theorem uA {s:Rp} {k:Dk} (h:DnI s k):Torn (LG k) (eW s k)/\(∀x∈eW s k,x.length<=20000)/\(LG k).total<=1048576/\∃ns,eW s k=ns.map O3.bytes/\(eW s k).map oc=ns/\dz (jT s.n) ns/\ns.length<=100000:=by
 obtain ⟨ns,g1,g2,_⟩:=h.nok.ex;have ht:(fU k).length<=1048576:=by
  grind [fV,h.RQ,h.room]
 obtain ⟨r,q,t1,t2,t3⟩:=Am s.wl.recs (fU k).length h.len;have hb:eW s k=(ns.take (ET s.wl.recs (fU k).length)).map O3.bytes:=by
  unfold eW;rw [g1,jv]
 have hk:=me _ _ g2 (ET s.wl.recs (fU k).length);have hlen:∀x∈eW s k,x.length<=20000:=by rw [hb];exact vA _ _ hk
 have WU:fU k=F.aY (eW s k)++(F.cM r).take q:=by rw [h.Uv];exact t1
 have hns:(ns.take (ET s.wl.recs (fU k).length)).length<=100000:=by
  grind [jF,eW,fU,aE,ET,aW]
 refine ⟨⟨?_⟩,hlen,by rw [fV];exact ht,_,hb,?_,hk,hns⟩
 ·cases hf:k.file with
  | none =>
   refine .inl ⟨hf,?_⟩;have:fU k=[]:=by unfold fU;rw [hf]
   rw [this] at WU;have h0:(F.aY (eW s k)).length=0:=by
    grind
   have h1:=jF (eW s k);exact bP.1 az
  | some p =>
   obtain ⟨l,sf⟩:=p;have hl:fU k=l:=by unfold fU;rw [hf]
   rw [hl] at WU;have hr:r.length<=20000:=by
    grind [vA]
   exact .inr ⟨sf,r,q,by show k.file=_;rw [hf,<-WU],hr,t2,by rw [<-WU];exact h.sf l sf hf⟩
 ·rw [hb];exact nW (jT s.n) _ hk (by show 0+_<=_;omega) (aP _) Ha h.n5
theorem sg (s:Rp) (l:List O3) (h:dz s l) (h1 : -1<=s.OC) (h2:s.OC<s.n) (h3:∀x∈s.Oz,x.bs.length<=8000) : -1<=(da s l).OC/\(da s l).OC<s.n/\∀x∈(da s l).Oz,x.bs.length<=8000:=by
 induction l generalizing s with
 | nil=>exact ⟨h1,h2,h3⟩
 | cons a l ih =>
  obtain ⟨k1,k2⟩:=h;cases a with
  | t u v=>exact ih (ep s (.t u v)) k2 k1.2.2.1 k1.2.2.2 h3
  | e p y=>exact ih (ep s (.e p y)) k2 h1 h2 (λx hx=>by
   rcases aA.1 hx with hx | hx
   ·exact h3 x (fK hx)
   ·rw [aj.1 hx];exact k1.2.2.2)
theorem Iw {s:Rp} {k:Dk} (h:DnI s k):XI (f9 s.own s.n s k) (gb s k)/\(f9 s.own s.n s k).own=s.own/\(f9 s.own s.n s k).n=s.n/\(f9 s.own s.n s k).OA=0:=by
 obtain ⟨ht,hr,VM,ns,hb,hd,hk,hns⟩:=uA h;have e0:f9 s.own s.n s k=da (dX s.own s.n (k.lives+1) (eW s k)) ns:=by unfold f9;rw [hd]
 have RN:=lf (dX s.own s.n (k.lives+1) (eW s k)) (jT s.n) rfl rfl rfl rfl ns;have hk2:=RN.2.2.2.2 hk;have hbnd:=sg (dX s.own s.n (k.lives+1) (eW s k)) ns hk2 (by show (-1:Int) <= -1;omega) (by show (-1:Int)<(s.n:Int);omega) (λx hx=>by cases hx);have UU:=nV (dX s.own s.n (k.lives+1) (eW s k)) ns hk2;have hlen:=qG (dX s.own s.n (k.lives+1) (eW s k)) ns;obtain ⟨t,c,g,e⟩:=gM (dX s.own s.n (k.lives+1) (eW s k)) ns;rw [e] at hbnd UU hlen RN;have QR:(eW s k).length=ns.length:=by rw [hb,aW]
 have hfil:fU (gb s k)=F.aY (eW s k):=by
  unfold gb fJ;rcases ht.ex with ⟨hf,hn⟩ | ⟨sf,r,q,hf,_⟩
  ·rw [hf];simp only;rw [hn];unfold fU;rw [hf];rfl
  ·rw [hf];rfl
 have hroom:(gb s k).room=k.room:=by unfold gb fJ;split<;>rfl
 have QF:(gb s k).off=false:=by unfold gb fJ;split<;>rfl
 have Rh:(F.aY (eW s k)).length<=(fU k).length:=by
  rcases ht.ex with ⟨hf,hn⟩ | ⟨sf,r,q,hf,_⟩
  ·rw [hn];simp [F.aY]
  ·have:fU k=F.aY (eW s k)++(F.cM r).take q:=by
    have hf2:k.file=some (F.aY (eW s k)++(F.cM r).take q,sf):=hf;unfold fU;rw [hf2]
   rw [this,aE];omega
 have XZ:uI (gb s k):=by
  intro l q hf;unfold gb fJ at hf;split at hf
  ·rename_i hn;rw [hn] at hf;cases hf
  ·grind [cV,Nat.min_le_right]
 rw [e0,e];refine ⟨⟨⟨h.n1,h.n5,h.own,by simp [dX],by simp [dX],by simp [dX],by simp [dX],by rw [hroom];exact h.room,?_,hfil,?_,aH _,rfl,(λhl=>by cases hl),UU.1,UU.2 Ha,hbnd.1,hbnd.2.1,hbnd.2.2,ah _,λx hx=>?_⟩,⟨⟨ns,hb,hk,λ_=>⟨RN.1.symm,RN.2.1.symm,RN.2.2.1.symm⟩⟩,(λhl=>by cases hl)⟩,XZ,QF⟩,rfl,rfl,rfl⟩
 ·grind [fV,h.RQ]
 ·show g.length<=(eW s k).length;rw [QR];have:g.length<=0+ns.length:=hlen;omega
 ·have:x∈List.replicate s.n ((0:Int),(0:Int),(0:Int)):=hx;rw [List.eq_of_mem_replicate this];exact ⟨aP _,by show (0:Int)<=_;simp⟩
section
variable {w w' w2:World} {A A' X Y Y' Z Z':List Nat} {g n:Nat} {S:Mn} {es es':Pn} {os rs ds ls:Nat->Nat} {Xs:Nat->List Nat} {vl:Value} {nb mb Q8:Nat} {qv lv TW pn:Value} {q':List OM} {r d l:Nat} {s:Rp} {k:Dk}
theorem BP (h:Gy w A Z g n S es) (i:Nat) (hi:i<n) (hu:(S.at i).up=true) (P:Int) (XG : -9223372036854775808<=P) (hP2:P<=9223372036854775807) (hf:uI (S.at i).k/\(S.at i).k.total<=1048576) :
  Calls Tryz.prog 23 #[.pointer (some ⟨g,0,none⟩),.int .i64 (i:Int),.int .i64 P] w λe w'=>e = .returned (.bool true)/\Px w w' A Z g n (S.set i ⟨(S.at i).s,dI (S.at i).k P,false⟩) es:=by
 obtain ⟨Y,os,rs,ds,ls,Xs,vl,nb,mb,qv,lv,h,hz⟩:=h;obtain ⟨gl,cr,rfl,Vk,hrow⟩:=h.Ss az;have H1:=af (fM h.cell (i:Int));rw [aO (show (0:Int)<=(i:Int) by omega),aO (show (i:Int)<(n:Int) by omega)] at H1;obtain ⟨D,hdk,hDX⟩:=(h.node i hi).dk;have HCR:=af (B3 hdk P XG hP2 (λl k hl=>⟨hf.1 l k hl,by have h9:=hf.2;unfold Dk.total at h9;rw [hl] at h9;exact h9⟩));have HF:Hid (∀D' w2,O6 w2 D' (ds i) (dI (S.at i).k P)->OY D D' w w2->Px w (w2.setCell ⟨os i,2,none⟩ (.bool false)) A Z g n (S.set i ⟨(S.at i).s,dI (S.at i).k P,false⟩) es):=af λD' w2 h2 m2=>h.crashed hz hi hDX h2 m2;have c0:w.cell? ⟨g,0,none⟩=some (.slice (some ⟨gl,0,none⟩) n cr):=mU;have c1:w.cell? ⟨gl,i,none⟩=some (.pointer (some ⟨os i,0,none⟩)):=hrow i hi;have c2:w.cell? ⟨os i,0,none⟩=some (.pointer (some ⟨ds i,0,none⟩)):=KO;have c3:w.cell? ⟨os i,2,none⟩=some (.bool true):=Hd;have hno:∀b∈Y,b∉D:=λb hb hd=>h.yx i hi b hb (hDX b hd);have HK:Hid (∀w2,Only D w w2->w2.cell? ⟨g,0,none⟩=some (.slice (some ⟨gl,0,none⟩) n cr)/\w2.cell? ⟨gl,i,none⟩=some (.pointer (some ⟨os i,0,none⟩))/\w2.cell? ⟨os i,2,none⟩=some (.bool true)/\w2.frozen? ⟨os i,2,none⟩=false):=af λw2 ho =>
  ⟨ho.cell c0 (hno _ h.gY),ho.cell c1 (hno _ (h.lY gl rfl)),ho.cell c3 (hno _ (h.oY i hi)),aU (ho.keeps (h.one i hi) (hno _ (h.oY i hi))) 2⟩
 have O9:(i:Int)<(n:Int):=az;clear h hz hrow hu hf hdk hDX hno XG hP2;go_enter Tryz.func23,Tryz.ntmps23
 go_wp2_with fail
 refine H1.out.mono ?_;rintro e w1 ⟨rfl,rfl⟩;go_wp2_with fail
 refine HCR.out.mono ?_;rintro e w2 ⟨D',rfl,PJ,Qb⟩;obtain ⟨k0,k1,k3,k4⟩:=HK.out _ Qb.only;have HG:=af (HF.out D' w2 PJ Qb);clear PJ Qb;exact DX
theorem td (h:Gy w A Z g n S es) (x P:Int) (hx:(decide (0<=x)&&decide (x<(n:Int)))=false\/∃i:Nat,i<n/\x=(i:Int)/\(S.at i).up=false) :
  Calls Tryz.prog 23 #[.pointer (some ⟨g,0,none⟩),.int .i64 x,.int .i64 P] w λe w'=>e = .returned (.bool false)/\w=w':=by
 obtain ⟨Y,os,rs,ds,ls,Xs,vl,nb,mb,qv,lv,h,hz⟩:=h;obtain ⟨ar,cr,e1,_,_⟩:=ej h.lr;subst e1;have H1:=af (fM h.cell x);rcases hx with hx | ⟨i,hi,rfl,hu⟩
 ·rw [hx] at H1;clear h hz hx;go_enter Tryz.func23,Tryz.ntmps23
  go_wp2_with fail
  refine H1.out.mono ?_;rintro e w1 ⟨rfl,rfl⟩;exact oK
 ·rw [aO (show (0:Int)<=(i:Int) by omega),aO (show (i:Int)<(n:Int) by omega)] at H1;obtain ⟨gl,cr',e9,Vk,hrow⟩:=h.Ss az;cases e9;have c0:w.cell? ⟨g,0,none⟩=some (.slice (some ⟨gl,0,none⟩) n cr):=mU;have c1:w.cell? ⟨gl,i,none⟩=some (.pointer (some ⟨os i,0,none⟩)):=hrow i hi;have c3:w.cell? ⟨os i,2,none⟩=some (.bool false):=Hd;have O9:(i:Int)<(n:Int):=az;clear h hz hrow hu;go_enter Tryz.func23,Tryz.ntmps23
  go_wp2_with fail
  refine H1.out.mono ?_;rintro e w1 ⟨rfl,rfl⟩;exact oK
end
section
variable {w w' w2:World} {A A' X Y Y' Z Z':List Nat} {g n:Nat} {S:Mn} {es es':Pn} {os rs ds ls:Nat->Nat} {Xs:Nat->List Nat} {vl:Value} {nb mb Q8:Nat} {qv lv TW pn:Value} {q':List OM} {r d l:Nat} {s:Rp} {k:Dk}
theorem yE (h:Gy w A Z g n S es) (i:Nat) (hi:i<n) (hu:(S.at i).up=false) (P5:DnI (S.at i).s (S.at i).k) (ZI:(S.at i).s.n=n) (hl0:0<=(S.at i).k.lives) (PH:(S.at i).k.lives<=1000000) :
  Calls Tryz.prog 24 #[.pointer (some ⟨g,0,none⟩),.int .i64 (i:Int)] w λe w'=>e = .returned (.bool true)/\Px w w' A Z g n (S.set i ⟨f9 i n (S.at i).s (S.at i).k,gb (S.at i).s (S.at i).k,true⟩) es:=by
 have hgy:=h;obtain ⟨Y,os,rs,ds,ls,Xs,vl,nb,mb,qv,lv,h,hz⟩:=h;obtain ⟨gl,cr,rfl,Vk,hrow⟩:=h.Ss az;have H1:=af (fM h.cell (i:Int));rw [aO (show (0:Int)<=(i:Int) by omega),aO (show (i:Int)<(n:Int) by omega)] at H1;have HU:=af (iL h i hi hu);have hdk:=(h.node i hi).dn hu;have HXA:=af (h.node i hi).xA;have HON:=af (Kl hdk az hl0);obtain ⟨ht,hr,VM,ns,hb,hd,hk,hns⟩:=uA P5;have HOPEN:Hid (∀V,O6 V (Xs i) (ds i) (LG (S.at i).k)->(∀b∈A,b<V.heap.size)->Calls Tryz.prog 18 #[.int .i64 (i:Int),.int .i64 (n:Int),.pointer (some ⟨ds i,0,none⟩)] V λe w'=>∃r l A' X',e = .returned (.tuple #[.pointer (some ⟨r,0,none⟩),.int .i64 0])/\Nd w' A' X' r (ds i) l (f9 i n (S.at i).s (S.at i).k) (gb (S.at i).s (S.at i).k)/\Mv A A' (Xs i) X' V w'):=af (λV hv hA=>by
  have h9:=qF (A:=A) hv rfl i n h.n5 hi ns (by rw [<-hb];exact ht) (by rw [<-hb];exact hr) VM ((lf (dX i n (LG (S.at i).k).lives (ns.map O3.bytes)) (jT n) rfl rfl rfl rfl ns).2.2.2.2 (by rw [<-ZI];exact hk)) hns hA HXA.out;rw [<-hb] at h9;have e:f9 i n (S.at i).s (S.at i).k=da (dX i n ((S.at i).k.lives+1) (eW (S.at i).s (S.at i).k)) ns:=by unfold f9;rw [hd]
  rw [e];exact h9)
 have HF:Hid (∀A' X' r' l' w3,Nd w3 A' X' r' (ds i) l' (f9 i n (S.at i).s (S.at i).k) (gb (S.at i).s (S.at i).k)->Mv A A' (Xs i) X' w w3->Px w ((w3.setCell ⟨os i,1,none⟩ (fq r')).setCell ⟨os i,2,none⟩ (.bool true)) A Z g n (S.set i ⟨f9 i n (S.at i).s (S.at i).k,gb (S.at i).s (S.at i).k,true⟩) es):=af λA' X' r' l' w3 h3 m3=>h.backed (nd:=⟨f9 i n (S.at i).s (S.at i).k,gb (S.at i).s (S.at i).k,true⟩) hz hi m3 h3 rfl;have hno:∀b∈Y,b∉Xs i:=λb hb hd=>h.yx i hi b hb hd;have c0:w.cell? ⟨g,0,none⟩=some (.slice (some ⟨gl,0,none⟩) n cr):=mU;have c1:w.cell? ⟨gl,i,none⟩=some (.pointer (some ⟨os i,0,none⟩)):=hrow i hi;have c2:w.cell? ⟨os i,0,none⟩=some (.pointer (some ⟨ds i,0,none⟩)):=KO;have HK:Hid (∀w2,Only (Xs i) w w2->w2.cell? ⟨g,0,none⟩=some (.slice (some ⟨gl,0,none⟩) n cr)/\w2.cell? ⟨os i,0,none⟩=some (.pointer (some ⟨ds i,0,none⟩))/\w2.heap[os i]? = some (.cells #[fq (ds i),fq (rs i),.bool false] 58 (0,0))):=af λw2 ho =>
  ⟨ho.cell c0 (hno _ h.gY),ho.cell c2 (hno _ (h.oY i hi)),by have:=ho.keeps (h.one i hi) (hno _ (h.oY i hi));rw [hu] at this;exact this⟩
 have HA:=af h.alt;have O9:(i:Int)<(n:Int):=az;have O8:=h.n5;clear hgy h hz hrow hu P5 ZI hl0 PH hdk ht hr VM hb hd hk hns hno;have HSET:Hid (∀x,S.set i x=S.set i x):=af λ_=>rfl;generalize S.set i ⟨f9 i n (S.at i).s (S.at i).k,gb (S.at i).s (S.at i).k,true⟩=S2 at *;generalize f9 i n (S.at i).s (S.at i).k=sb at *;generalize gb (S.at i).s (S.at i).k=kb at *;go_enter Tryz.func24,Tryz.ntmps24
 go_wp2_with fail
 refine H1.out.mono ?_;rintro e w1 ⟨rfl,rfl⟩;go_wp2_with fail
 refine HU.out.mono ?_;rintro e w1 ⟨rfl,rfl⟩;go_wp2_with fail
 refine HON.out.mono ?_;rintro e w2 ⟨rfl,PJ,OZ⟩;have QL:=af OZ;obtain ⟨k0,k2,_⟩:=HK.out _ OZ;have Yg:∀b∈A,b<w2.drew.heap.size:=λb hb=>aK (HA.out b hb) OZ.size;have HOP:=af (HOPEN.out w2.drew (O6.below PJ (aB w2 1)) Yg);have HMX:Hid (Mv A A (Xs i) (Xs i) w w2.drew):=af ((Mv.only OZ (λb hb=>hb)).trans (Mv.below (aB w2 1)));clear PJ OZ Yg;go_wp2_with fail
 go_region_with (go_at_call 18;refine HOP.out.mono ?_;rintro e w3 ⟨r',l',A3,X3,rfl,h3,m3⟩;obtain ⟨_,_,j2⟩:=HK.out _ (HMX.out.trans m3).mv.only;have HG:=af (HF.out A3 X3 r' l' w3 h3 (HMX.out.trans m3));clear h3 m3)
 all_goals
  have z1:=aU j2 1;have z2:=aU (be j2 1 (fq r')) 2;have j3:w3.cell? ⟨os i,1,none⟩=some (.pointer (some ⟨rs i,0,none⟩)):=by rw [ap j2];rfl
  have j4:(w3.setCell ⟨os i,1,none⟩ (fq r')).cell? ⟨os i,2,none⟩=some (.bool false):=by rw [ap (be j2 1 (fq r'))];rfl
  unfold fq at z2 j4 HG;clear j2 k0 k2;exact DX
theorem Fp (h:Gy w A Z g n S es) (hU:p9 n S) (x:Int) (hx:(decide (0<=x)&&decide (x<(n:Int)))=false) :
  Calls Tryz.prog 24 #[.pointer (some ⟨g,0,none⟩),.int .i64 x] w λe w'=>e = .returned (.bool false)/\w=w':=by
 obtain ⟨Y,os,rs,ds,ls,Xs,vl,nb,mb,qv,lv,h,hz⟩:=h;obtain ⟨ar,cr,e1,_,_⟩:=ej h.lr;subst e1;have H1:=af (fM h.cell x);rw [hx] at H1;clear h hz hx hU;go_enter Tryz.func24,Tryz.ntmps24
 go_wp2_with fail
 refine H1.out.mono ?_;rintro e w1 ⟨rfl,rfl⟩;exact oK
theorem Fo (h:Gy w A Z g n S es) (hU:p9 n S) (i:Nat) (hi:i<n) (hu:(S.at i).up=true) :
  Calls Tryz.prog 24 #[.pointer (some ⟨g,0,none⟩),.int .i64 (i:Int)] w λe w'=>e = .returned (.bool false)/\Px w w' A Z g n S es:=by
 obtain ⟨Y,os,rs,ds,ls,Xs,vl,nb,mb,qv,lv,h,hz⟩:=h;obtain ⟨ar,cr,e1,_,_⟩:=ej h.lr;subst e1;have H1:=af (fM h.cell (i:Int));rw [aO (show (0:Int)<=(i:Int) by omega),aO (show (i:Int)<(n:Int) by omega)] at H1;have HU:=af (lk h i hi hu (hU i hi hu).2);have HZ:=af hz;clear h hz hU hu;go_enter Tryz.func24,Tryz.ntmps24
 go_wp2_with fail
 refine H1.out.mono ?_;rintro e w1 ⟨rfl,rfl⟩;go_wp2_with fail
 refine HU.out.mono ?_;rintro e w2 ⟨rfl,hc2,OZ,Tt⟩;have HG:Hid (Px w w2 A Z g n S es):=af ⟨A,Z,⟨_,_,_,_,_,_,_,_,_,_,_,hc2,HZ.out⟩,Mv.only OZ (λb hb=>by rw [aj.1 hb];exact (HZ.out _).2 (.inr ⟨i,hi,Tt⟩))⟩;clear hc2 OZ Tt;exact DX
end
section
variable {w:World} {g:Nat} {Q:Bool->World->Prop}
theorem Fh (N K:Int) (ba:Option Addr) (bl bc:Nat) (HC:∀w1,Below w.heap.size w w1->Calls Tryz.prog 19 #[.pointer (some ⟨g,0,none⟩),.int .i64 N] w1 λe w'=>∃b,e = .returned (.bool b)/\Q b w') :
  Calls Tryz.prog 9 #[.pointer (some ⟨g,0,none⟩),.agg #[.int .i64 0,.int .i64 N,.int .i64 K,.slice ba bl bc]] w λe w'=>∃b,e = .returned (.bool b)/\Q b w':=by
 have Pe:Below w.heap.size w (w.alloc (.cells #[.int .i64 0,.int .i64 N,.int .i64 K,.slice ba bl bc] 33)):=(aG _ _).alloc (ah _) _;have P0:=aV w (.cells #[.int .i64 0,.int .i64 N,.int .i64 K,.slice ba bl bc] 33);have k0:(w.alloc (.cells #[.int .i64 0,.int .i64 N,.int .i64 K,.slice ba bl bc] 33)).cell? ⟨w.heap.size,0,none⟩=some (.int .i64 0):=jn;have k1:(w.alloc (.cells #[.int .i64 0,.int .i64 N,.int .i64 K,.slice ba bl bc] 33)).cell? ⟨w.heap.size,1,none⟩=some (.int .i64 N):=jn;have k2:(w.alloc (.cells #[.int .i64 0,.int .i64 N,.int .i64 K,.slice ba bl bc] 33)).cell? ⟨w.heap.size,2,none⟩=some (.int .i64 K):=jn;have k3:(w.alloc (.cells #[.int .i64 0,.int .i64 N,.int .i64 K,.slice ba bl bc] 33)).cell? ⟨w.heap.size,3,none⟩=some (.slice ba bl bc):=jn;exact Ky
theorem BO (N K:Int) (ba:Option Addr) (bl bc:Nat) (HC:∀w1,Below w.heap.size w w1->Calls Tryz.prog 20 #[.pointer (some ⟨g,0,none⟩),.int .i64 N] w1 λe w'=>∃b,e = .returned (.bool b)/\Q b w') :
  Calls Tryz.prog 9 #[.pointer (some ⟨g,0,none⟩),.agg #[.int .i64 1,.int .i64 N,.int .i64 K,.slice ba bl bc]] w λe w'=>∃b,e = .returned (.bool b)/\Q b w':=by
 have Pe:Below w.heap.size w (w.alloc (.cells #[.int .i64 1,.int .i64 N,.int .i64 K,.slice ba bl bc] 33)):=(aG _ _).alloc (ah _) _;have P0:=aV w (.cells #[.int .i64 1,.int .i64 N,.int .i64 K,.slice ba bl bc] 33);have k0:(w.alloc (.cells #[.int .i64 1,.int .i64 N,.int .i64 K,.slice ba bl bc] 33)).cell? ⟨w.heap.size,0,none⟩=some (.int .i64 1):=jn;have k1:(w.alloc (.cells #[.int .i64 1,.int .i64 N,.int .i64 K,.slice ba bl bc] 33)).cell? ⟨w.heap.size,1,none⟩=some (.int .i64 N):=jn;have k2:(w.alloc (.cells #[.int .i64 1,.int .i64 N,.int .i64 K,.slice ba bl bc] 33)).cell? ⟨w.heap.size,2,none⟩=some (.int .i64 K):=jn;have k3:(w.alloc (.cells #[.int .i64 1,.int .i64 N,.int .i64 K,.slice ba bl bc] 33)).cell? ⟨w.heap.size,3,none⟩=some (.slice ba bl bc):=jn;exact Ky
theorem Fk (N K:Int) (ba:Option Addr) (bl bc:Nat) (nb:Nat) (hn:w.cell? ⟨g,1,none⟩=some (.pointer (some ⟨nb,0,none⟩))) (HC:∀w1,Below w.heap.size w w1->Calls Tryz.prog 21 #[.pointer (some ⟨nb,0,none⟩),.int .i64 N] w1 λe w'=>∃b,e = .returned (.bool b)/\Q b w') :
  Calls Tryz.prog 9 #[.pointer (some ⟨g,0,none⟩),.agg #[.int .i64 2,.int .i64 N,.int .i64 K,.slice ba bl bc]] w λe w'=>∃b,e = .returned (.bool b)/\Q b w':=by
 have Pe:Below w.heap.size w (w.alloc (.cells #[.int .i64 2,.int .i64 N,.int .i64 K,.slice ba bl bc] 33)):=(aG _ _).alloc (ah _) _;have P0:=aV w (.cells #[.int .i64 2,.int .i64 N,.int .i64 K,.slice ba bl bc] 33);have k0:(w.alloc (.cells #[.int .i64 2,.int .i64 N,.int .i64 K,.slice ba bl bc] 33)).cell? ⟨w.heap.size,0,none⟩=some (.int .i64 2):=jn;have k1:(w.alloc (.cells #[.int .i64 2,.int .i64 N,.int .i64 K,.slice ba bl bc] 33)).cell? ⟨w.heap.size,1,none⟩=some (.int .i64 N):=jn;have k2:(w.alloc (.cells #[.int .i64 2,.int .i64 N,.int .i64 K,.slice ba bl bc] 33)).cell? ⟨w.heap.size,2,none⟩=some (.int .i64 K):=jn;have k3:(w.alloc (.cells #[.int .i64 2,.int .i64 N,.int .i64 K,.slice ba bl bc] 33)).cell? ⟨w.heap.size,3,none⟩=some (.slice ba bl bc):=jn;have PT:(w.alloc (.cells #[.int .i64 2,.int .i64 N,.int .i64 K,.slice ba bl bc] 33)).cell? ⟨g,1,none⟩=some (.pointer (some ⟨nb,0,none⟩)):=cell_later Pe hn;have Z7:=af (HC _ (Pe.trans ((bK _).mono Pe.size)));clear HC Pe P0 hn;go_enter Tryz.func9,Tryz.ntmps9
 go_wp2_with fail
 go_region_with (go_at_call 21;refine Z7.out.mono ?_;rintro e w1 ⟨b,rfl,hq⟩;have HQ:=af hq;clear hq)
 all_goals
  exact Ja
theorem Fl (N K:Int) (ba:Option Addr) (bl bc:Nat) (nb:Nat) (hn:w.cell? ⟨g,1,none⟩=some (.pointer (some ⟨nb,0,none⟩))) (HC:∀w1,Below w.heap.size w w1->Calls Tryz.prog 22 #[.pointer (some ⟨nb,0,none⟩),.int .i64 N] w1 λe w'=>∃b,e = .returned (.bool b)/\Q b w') :
  Calls Tryz.prog 9 #[.pointer (some ⟨g,0,none⟩),.agg #[.int .i64 3,.int .i64 N,.int .i64 K,.slice ba bl bc]] w λe w'=>∃b,e = .returned (.bool b)/\Q b w':=by
 have Pe:Below w.heap.size w (w.alloc (.cells #[.int .i64 3,.int .i64 N,.int .i64 K,.slice ba bl bc] 33)):=(aG _ _).alloc (ah _) _;have P0:=aV w (.cells #[.int .i64 3,.int .i64 N,.int .i64 K,.slice ba bl bc] 33);have k0:(w.alloc (.cells #[.int .i64 3,.int .i64 N,.int .i64 K,.slice ba bl bc] 33)).cell? ⟨w.heap.size,0,none⟩=some (.int .i64 3):=jn;have k1:(w.alloc (.cells #[.int .i64 3,.int .i64 N,.int .i64 K,.slice ba bl bc] 33)).cell? ⟨w.heap.size,1,none⟩=some (.int .i64 N):=jn;have k2:(w.alloc (.cells #[.int .i64 3,.int .i64 N,.int .i64 K,.slice ba bl bc] 33)).cell? ⟨w.heap.size,2,none⟩=some (.int .i64 K):=jn;have k3:(w.alloc (.cells #[.int .i64 3,.int .i64 N,.int .i64 K,.slice ba bl bc] 33)).cell? ⟨w.heap.size,3,none⟩=some (.slice ba bl bc):=jn;have PT:(w.alloc (.cells #[.int .i64 3,.int .i64 N,.int .i64 K,.slice ba bl bc] 33)).cell? ⟨g,1,none⟩=some (.pointer (some ⟨nb,0,none⟩)):=cell_later Pe hn;have Z7:=af (HC _ (Pe.trans ((bK _).mono Pe.size)));clear HC Pe P0 hn;go_enter Tryz.func9,Tryz.ntmps9
 go_wp2_with fail
 go_region_with (go_at_call 22;refine Z7.out.mono ?_;rintro e w1 ⟨b,rfl,hq⟩;have HQ:=af hq;clear hq)
 all_goals
  exact Ja
theorem BN (N K:Int) (ba:Option Addr) (bl bc:Nat) (HC:∀w1,Below w.heap.size w w1->Calls Tryz.prog 23 #[.pointer (some ⟨g,0,none⟩),.int .i64 N,.int .i64 K] w1 λe w'=>∃b,e = .returned (.bool b)/\Q b w') :
  Calls Tryz.prog 9 #[.pointer (some ⟨g,0,none⟩),.agg #[.int .i64 4,.int .i64 N,.int .i64 K,.slice ba bl bc]] w λe w'=>∃b,e = .returned (.bool b)/\Q b w':=by
 have Pe:Below w.heap.size w (w.alloc (.cells #[.int .i64 4,.int .i64 N,.int .i64 K,.slice ba bl bc] 33)):=(aG _ _).alloc (ah _) _;have P0:=aV w (.cells #[.int .i64 4,.int .i64 N,.int .i64 K,.slice ba bl bc] 33);have k0:(w.alloc (.cells #[.int .i64 4,.int .i64 N,.int .i64 K,.slice ba bl bc] 33)).cell? ⟨w.heap.size,0,none⟩=some (.int .i64 4):=jn;have k1:(w.alloc (.cells #[.int .i64 4,.int .i64 N,.int .i64 K,.slice ba bl bc] 33)).cell? ⟨w.heap.size,1,none⟩=some (.int .i64 N):=jn;have k2:(w.alloc (.cells #[.int .i64 4,.int .i64 N,.int .i64 K,.slice ba bl bc] 33)).cell? ⟨w.heap.size,2,none⟩=some (.int .i64 K):=jn;have k3:(w.alloc (.cells #[.int .i64 4,.int .i64 N,.int .i64 K,.slice ba bl bc] 33)).cell? ⟨w.heap.size,3,none⟩=some (.slice ba bl bc):=jn;exact Ky
theorem Fn (N K:Int) (ba:Option Addr) (bl bc:Nat) (HC:∀w1,Below w.heap.size w w1->Calls Tryz.prog 24 #[.pointer (some ⟨g,0,none⟩),.int .i64 N] w1 λe w'=>∃b,e = .returned (.bool b)/\Q b w') :
  Calls Tryz.prog 9 #[.pointer (some ⟨g,0,none⟩),.agg #[.int .i64 5,.int .i64 N,.int .i64 K,.slice ba bl bc]] w λe w'=>∃b,e = .returned (.bool b)/\Q b w':=by
 have Pe:Below w.heap.size w (w.alloc (.cells #[.int .i64 5,.int .i64 N,.int .i64 K,.slice ba bl bc] 33)):=(aG _ _).alloc (ah _) _;have P0:=aV w (.cells #[.int .i64 5,.int .i64 N,.int .i64 K,.slice ba bl bc] 33);have k0:(w.alloc (.cells #[.int .i64 5,.int .i64 N,.int .i64 K,.slice ba bl bc] 33)).cell? ⟨w.heap.size,0,none⟩=some (.int .i64 5):=jn;have k1:(w.alloc (.cells #[.int .i64 5,.int .i64 N,.int .i64 K,.slice ba bl bc] 33)).cell? ⟨w.heap.size,1,none⟩=some (.int .i64 N):=jn;have k2:(w.alloc (.cells #[.int .i64 5,.int .i64 N,.int .i64 K,.slice ba bl bc] 33)).cell? ⟨w.heap.size,2,none⟩=some (.int .i64 K):=jn;have k3:(w.alloc (.cells #[.int .i64 5,.int .i64 N,.int .i64 K,.slice ba bl bc] 33)).cell? ⟨w.heap.size,3,none⟩=some (.slice ba bl bc):=jn;exact Ky
theorem Ig (N K:Int) (ba:Option Addr) (bl bc:Nat) (HC:∀w1,Below w.heap.size w w1->Calls Tryz.prog 25 #[.pointer (some ⟨g,0,none⟩),.int .i64 N,.int .i64 K,.bool true] w1 λe w'=>∃b,e = .returned (.bool b)/\Q b w') :
  Calls Tryz.prog 9 #[.pointer (some ⟨g,0,none⟩),.agg #[.int .i64 6,.int .i64 N,.int .i64 K,.slice ba bl bc]] w λe w'=>∃b,e = .returned (.bool b)/\Q b w':=by
 have Pe:Below w.heap.size w (w.alloc (.cells #[.int .i64 6,.int .i64 N,.int .i64 K,.slice ba bl bc] 33)):=(aG _ _).alloc (ah _) _;have P0:=aV w (.cells #[.int .i64 6,.int .i64 N,.int .i64 K,.slice ba bl bc] 33);have k0:(w.alloc (.cells #[.int .i64 6,.int .i64 N,.int .i64 K,.slice ba bl bc] 33)).cell? ⟨w.heap.size,0,none⟩=some (.int .i64 6):=jn;have k1:(w.alloc (.cells #[.int .i64 6,.int .i64 N,.int .i64 K,.slice ba bl bc] 33)).cell? ⟨w.heap.size,1,none⟩=some (.int .i64 N):=jn;have k2:(w.alloc (.cells #[.int .i64 6,.int .i64 N,.int .i64 K,.slice ba bl bc] 33)).cell? ⟨w.heap.size,2,none⟩=some (.int .i64 K):=jn;have k3:(w.alloc (.cells #[.int .i64 6,.int .i64 N,.int .i64 K,.slice ba bl bc] 33)).cell? ⟨w.heap.size,3,none⟩=some (.slice ba bl bc):=jn;exact Ky
theorem BM (N K:Int) (ba:Option Addr) (bl bc:Nat) (HC:∀w1,Below w.heap.size w w1->Calls Tryz.prog 25 #[.pointer (some ⟨g,0,none⟩),.int .i64 N,.int .i64 K,.bool false] w1 λe w'=>∃b,e = .returned (.bool b)/\Q b w') :
  Calls Tryz.prog 9 #[.pointer (some ⟨g,0,none⟩),.agg #[.int .i64 7,.int .i64 N,.int .i64 K,.slice ba bl bc]] w λe w'=>∃b,e = .returned (.bool b)/\Q b w':=by
 have Pe:Below w.heap.size w (w.alloc (.cells #[.int .i64 7,.int .i64 N,.int .i64 K,.slice ba bl bc] 33)):=(aG _ _).alloc (ah _) _;have P0:=aV w (.cells #[.int .i64 7,.int .i64 N,.int .i64 K,.slice ba bl bc] 33);have k0:(w.alloc (.cells #[.int .i64 7,.int .i64 N,.int .i64 K,.slice ba bl bc] 33)).cell? ⟨w.heap.size,0,none⟩=some (.int .i64 7):=jn;have k1:(w.alloc (.cells #[.int .i64 7,.int .i64 N,.int .i64 K,.slice ba bl bc] 33)).cell? ⟨w.heap.size,1,none⟩=some (.int .i64 N):=jn;have k2:(w.alloc (.cells #[.int .i64 7,.int .i64 N,.int .i64 K,.slice ba bl bc] 33)).cell? ⟨w.heap.size,2,none⟩=some (.int .i64 K):=jn;have k3:(w.alloc (.cells #[.int .i64 7,.int .i64 N,.int .i64 K,.slice ba bl bc] 33)).cell? ⟨w.heap.size,3,none⟩=some (.slice ba bl bc):=jn;exact Ky
theorem Fi (N K:Int) (ba:Option Addr) (bl bc:Nat) (HC:∀w1,Below w.heap.size w w1->Calls Tryz.prog 26 #[.pointer (some ⟨g,0,none⟩),.int .i64 N,.slice ba bl bc] w1 λe w'=>∃b,e = .returned (.bool b)/\Q b w') :
  Calls Tryz.prog 9 #[.pointer (some ⟨g,0,none⟩),.agg #[.int .i64 8,.int .i64 N,.int .i64 K,.slice ba bl bc]] w λe w'=>∃b,e = .returned (.bool b)/\Q b w':=by
 have Pe:Below w.heap.size w (w.alloc (.cells #[.int .i64 8,.int .i64 N,.int .i64 K,.slice ba bl bc] 33)):=(aG _ _).alloc (ah _) _;have P0:=aV w (.cells #[.int .i64 8,.int .i64 N,.int .i64 K,.slice ba bl bc] 33);have k0:(w.alloc (.cells #[.int .i64 8,.int .i64 N,.int .i64 K,.slice ba bl bc] 33)).cell? ⟨w.heap.size,0,none⟩=some (.int .i64 8):=jn;have k1:(w.alloc (.cells #[.int .i64 8,.int .i64 N,.int .i64 K,.slice ba bl bc] 33)).cell? ⟨w.heap.size,1,none⟩=some (.int .i64 N):=jn;have k2:(w.alloc (.cells #[.int .i64 8,.int .i64 N,.int .i64 K,.slice ba bl bc] 33)).cell? ⟨w.heap.size,2,none⟩=some (.int .i64 K):=jn;have k3:(w.alloc (.cells #[.int .i64 8,.int .i64 N,.int .i64 K,.slice ba bl bc] 33)).cell? ⟨w.heap.size,3,none⟩=some (.slice ba bl bc):=jn;exact Ky
theorem Fj (o N K:Int) (ba:Option Addr) (bl bc:Nat) (ho:o<0\/8<o) :
  Calls Tryz.prog 9 #[.pointer (some ⟨g,0,none⟩),.agg #[.int .i64 o,.int .i64 N,.int .i64 K,.slice ba bl bc]] w λe w'=>e = .returned (.bool false)/\Below w.heap.size w w':=by
 have Pe:Below w.heap.size w (w.alloc (.cells #[.int .i64 o,.int .i64 N,.int .i64 K,.slice ba bl bc] 33)):=(aG _ _).alloc (ah _) _;have P0:=aV w (.cells #[.int .i64 o,.int .i64 N,.int .i64 K,.slice ba bl bc] 33);have k0:(w.alloc (.cells #[.int .i64 o,.int .i64 N,.int .i64 K,.slice ba bl bc] 33)).cell? ⟨w.heap.size,0,none⟩=some (.int .i64 o):=jn;have HB:=af Pe;have e0:¬o=0:=az;have e1:¬o=1:=az;have e2:¬o=2:=az;have e3:¬o=3:=az;have e4:¬o=4:=az;have e5:¬o=5:=az;have e6:¬o=6:=az;have e7:¬o=7:=az;have e8:¬o=8:=az;clear Pe P0 ho;go_enter Tryz.func9,Tryz.ntmps9
 exact DW
end
end Go.Proofs.YtnhefallmioefaaGreat
