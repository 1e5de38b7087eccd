/-
  What the proof of the law leans on: contracts of the program's functions, one behind another. No condition.
-/
import Derived.Test.YtnhefallmioefaaGreatV0
import Derived.Test.YtnhefallmioefaaGreatV7
import Derived.Test.YtnhefallmioefaaGreatV5
import Derived.Test.YtnhefallmioefaaGreatV3
set_option linter.unusedVariables false
set_option linter.unusedSimpArgs false
namespace Go.Proofs.YtnhefallmioefaaGreat
open Go.RowKit Go.ChangeMaps Go.WideMaps Go.Maps
set_option maxRecDepth 20000
def dq (l:List Bool):Array Value:=(l.map Value.bool).toArray
def iB (l:List Nat):Array Value:=(l.map λ(n:Nat)=>Value.int .i64 (n:Int)).toArray
def lG (x:Int×Int×Int):List Value:=[.int .i64 x.1,.int .i64 x.2.1,.int .i64 x.2.2]
def eS (l:List (Int×Int×Int)):Array Value:=(l.flatMap lG).toArray
def pR (g n:Nat):Value:=.slice (some ⟨g,0,none⟩) n n
structure EntAt (w:World) (A:List Nat) (cur:Array Value) (i:Nat) (x:Ent):Prop where
 ex:∃u,cur[2*i]? = some (.int .i64 x.term)/\cur[2*i+1]? = some u/\Imm w A u x.bs
def IsE (w:World) (A:List Nat) (v:Value) (es:List Ent):Prop :=
 (v = .slice none 0 0/\es=[])\/∃g c cur,v = .slice (some ⟨g,0,none⟩) es.length c/\es.length<=c/\c<=9223372036854775807/\g∉A/\w.heap[g]? = some (.cells cur 94 (0,0))/\∀i,(h:i<es.length)->EntAt w A cur i es[i]
theorem IsE.step {w w':World} {A A' S:List Nat} {v:Value} {es:List Ent} (h:IsE w A v es) (ho:Only S w w') (hS:∀b∈S,b∈A) (he:Ext A A' w):IsE w' A' v es:=by
 rcases h with ⟨rfl,rfl⟩ | ⟨g,c,cur,rfl,h1,h2,h3,h4,h5⟩
 ·exact .inl ⟨rfl,rfl⟩
 ·refine .inr ⟨g,c,cur,rfl,h1,h2,λhm=>?_,ho.keeps h4 (λhm=>h3 (hS g hm)),λi hi=>?_⟩
  ·rcases he g hm with h6 | h6
   ·exact h3 h6
   ·have:=aQ h4;omega
  ·obtain ⟨u,k1,k2,k3⟩:=h5 i hi;exact ⟨u,k1,k2,k3.step ho hS he⟩
theorem IsE.below {w w':World} {A:List Nat} {v:Value} {es:List Ent} (h:IsE w A v es) (hb:Below w.heap.size w w'):IsE w' A v es :=
 h.step (Only.ofBelow hb []) (λb hb=>by cases hb) (Ext.refl _ _)
def et (d l:Nat) (s:Rp) (vl:Value) (gv gn gm gh:Nat):Array Value :=
 #[.int .i64 (s.own:Int),.int .i64 (s.n:Int),.pointer (some ⟨d,0,none⟩),.pointer (some ⟨l,0,none⟩),.int .i64 s.lives,.bool s.done,.int .i64 s.term,.int .i64 s.choice,vl,.int .i64 (s.agreed:Int),.int .i64 (s.many:Int),.bool s.leads,
  pR gv s.n,pR gn s.n,pR gm s.n,.int .i64 (s.ticks:Int),.int .i64 (s.clock:Int),pR gh s.n]
structure NdC (w:World) (A D L R:List Nat) (r d l:Nat) (s:Rp) (k:Dk) (vl:Value) (gv gn gm gh:Nat):Prop where
 wd:WD w A D L l d s.wl k
 cell:w.heap[r]? = some (.cells (et d l s vl gv gn gm gh) 78 (0,0))
 log:IsE w A vl s.log
 votes:w.heap[gv]? = some (.cells (dq s.votes) 4 (0,0))
 next:w.heap[gn]? = some (.cells (iB s.next) 3 (0,0))
 mat:w.heap[gm]? = some (.cells (iB s.mat) 3 (0,0))
 heard:w.heap[gh]? = some (.cells (eS s.heard) 117 (0,0))
 nm:gn≠gm
 rR:r∈R
 vR:gv∈R
 nR:gn∈R
 mR:gm∈R
 hR:gh∈R
 dRD:Dis R D
 dRL:Dis R L
 rA:∀b∈R,b∈A
structure Nd (w:World) (A X:List Nat) (r d l:Nat) (s:Rp) (k:Dk):Prop where
 ex:∃D L R vl gv gn gm gh,NdC w A D L R r d l s k vl gv gn gm gh/\∀b,b∈X↔b∈D\/b∈L\/b∈R
structure Mv (A A' X X':List Nat) (w w':World):Prop where
 mv:Moves X X' w w'
 ext:Ext A A' w
 sub:∀b∈A,b∈A'
theorem Mv.refl (A X:List Nat) (w:World):Mv A A X X w w:=⟨Moves.refl _ _,Ext.refl _ _,λb h=>h⟩
theorem Mv.trans {A A' A'' X X' X'':List Nat} {w w' w'':World} (h:Mv A A' X X' w w') (k:Mv A' A'' X' X'' w' w''):Mv A A'' X X'' w w'' :=
 ⟨h.mv.trans k.mv,λb hb=>by
  rcases k.ext b hb with h1 | h1
  ·exact h.ext b h1
  ·exact .inr (aD h.mv.only.size h1),λb hb=>k.sub b (h.sub b hb)⟩
theorem Mv.only {A X S:List Nat} {w w':World} (h:Only S w w') (hs:∀b∈S,b∈X):Mv A A X X w w':=⟨Moves.of_only (h.mono hs),Ext.refl _ _,λb h=>h⟩
theorem Mv.below {A X:List Nat} {w w':World} (h:Below w.heap.size w w'):Mv A A X X w w':=⟨Moves.of_below h,Ext.refl _ _,λb h=>h⟩
section
variable {w w':World} {A A' X X' D L R:List Nat} {r d l:Nat} {s s':Rp} {k k':Dk} {vl:Value} {gv gn gm gh:Nat}
theorem NdC.disL (h:NdC w A D L R r d l s k vl gv gn gm gh) {S:List Nat} (hS:∀b∈S,b∈R):∀b∈L,b∉S:=λb hb hs=>h.dRL b (hS b hs) hb
theorem NdC.disD (h:NdC w A D L R r d l s k vl gv gn gm gh) {S:List Nat} (hS:∀b∈S,b∈R):∀b∈D,b∉S:=λb hb hs=>h.dRD b (hS b hs) hb
theorem NdC.wd_only (h:NdC w A D L R r d l s k vl gv gn gm gh) {S:List Nat} (ho:Only S w w') (hS:∀b∈S,b∈R):WD w' A D L l d s.wl k :=
 ⟨h.wd.wl.keep ho (h.disL hS) (λb hb=>h.rA b (hS b hb)) (Ext.refl _ _),h.wd.dk.keep ho (h.disD hS),h.wd.dis,h.wd.dA,h.wd.lA,λb hb=>aE (h.wd.alt b hb) ho.size⟩
theorem NdC.rlt (h:NdC w A D L R r d l s k vl gv gn gm gh):∀b∈R,b<w.heap.size:=λb hb=>h.wd.alt b (h.rA b hb)
theorem bZ {a b:Nat} {ca cb:Array Value} {ta tb:TypeId} {fa fb:Nat×Nat} (ha:w.heap[a]? = some (.cells ca ta fa)) (hb:w.heap[b]? = some (.cells cb tb fb)) (ht:ta≠tb):a≠b:=λe=>by
 subst e;rw [ha] at hb;cases hb;exact ht rfl
theorem NdC.only_r (h:NdC w A D L R r d l s k vl gv gn gm gh) (ho:Only [r] w w') (hc:w'.heap[r]? = some (.cells (et d l s' vl gv gn gm gh) 78 (0,0)))
  (h1:s'.wl=s.wl) (h2:s'.log=s.log) (h3:s'.votes=s.votes) (h4:s'.next=s.next) (h5:s'.mat=s.mat) (h6:s'.heard=s.heard):NdC w' A D L R r d l s' k vl gv gn gm gh:=by
 have hS:∀b∈[r],b∈R:=λb hb=>by rw [aj.1 hb];exact h.rR
 refine ⟨by rw [h1];exact h.wd_only ho hS,hc,by rw [h2];exact h.log.step ho (λb hb=>h.rA b (hS b hb)) (Ext.refl _ _),?_,?_,?_,?_,h.nm,h.rR,h.vR,h.nR,h.mR,h.hR,h.dRD,h.dRL,h.rA⟩
 ·rw [h3];exact ho.keeps h.votes (by simpa using bZ h.votes h.cell (by decide))
 ·rw [h4];exact ho.keeps h.next (by simpa using bZ h.next h.cell (by decide))
 ·rw [h5];exact ho.keeps h.mat (by simpa using bZ h.mat h.cell (by decide))
 ·rw [h6];exact ho.keeps h.heard (by simpa using bZ h.heard h.cell (by decide))
theorem NdC.nd (h:NdC w A D L R r d l s k vl gv gn gm gh) (hX:∀b,b∈X↔b∈D\/b∈L\/b∈R):Nd w A X r d l s k:=⟨⟨D,L,R,vl,gv,gn,gm,gh,h,hX⟩⟩
theorem NdC.below (h:NdC w A D L R r d l s k vl gv gn gm gh) (hb:Below w.heap.size w w'):NdC w' A D L R r d l s k vl gv gn gm gh:=by
 have ho:=Only.ofBelow hb [];exact ⟨h.wd.below hb,ho.keeps h.cell (by simp),h.log.below hb,ho.keeps h.votes (by simp),ho.keeps h.next (by simp),ho.keeps h.mat (by simp),ho.keeps h.heard (by simp),h.nm,h.rR,h.vR,h.nR,h.mR,h.hR,h.dRD,h.dRL,h.rA⟩
theorem Nd.below (h:Nd w A X r d l s k) (hb:Below w.heap.size w w'):Nd w' A X r d l s k:=by
 obtain ⟨D,L,R,vl,gv,gn,gm,gh,h,hX⟩:=h;exact (h.below hb).nd hX
theorem ak (w:World) (q:Nat):Below w.heap.size w (w.drewN q):=⟨rfl,rfl,rfl,ah _,λ_ _=>rfl⟩
theorem Nd.rX (h:Nd w A X r d l s k):r∈X:=by
 obtain ⟨D,L,R,vl,gv,gn,gm,gh,h,hX⟩:=h;exact (hX _).2 (.inr (.inr h.rR))
theorem Nd.xA (h:Nd w A X r d l s k):∀b∈X,b∈A:=by
 obtain ⟨D,L,R,vl,gv,gn,gm,gh,h,hX⟩:=h;intro b hb;rcases (hX b).1 hb with h1 | h1 | h1
 ·exact h.wd.dA b h1
 ·exact h.wd.lA b h1
 ·exact h.rA b h1
theorem Nd.alt (h:Nd w A X r d l s k):∀b∈A,b<w.heap.size:=by
 obtain ⟨D,L,R,vl,gv,gn,gm,gh,h,hX⟩:=h;exact h.wd.alt
theorem NdC.wal {D' L':List Nat} {wl':Wl} {k':Dk} (h:NdC w A D L R r d l s k vl gv gn gm gh) (hw:WD w' A' D' L' l d wl' k') (hm:Moves (D++L) (D'++L') w w') (he:Ext A A' w) (hs:∀b∈A,b∈A') :
  NdC w' A' D' L' R r d l { s with wl:=wl' } k' vl gv gn gm gh/\Dis R (D++L):=by
 have hd:Dis R (D++L):=λb hb hx=>by
  rcases ap.1 hx with h1 | h1
  ·exact h.dRD b hb h1
  ·exact h.dRL b hb h1
 have hd':Dis R (D'++L'):=(hm.dis hd.symm h.rlt).symm;have hk:∀{g:Nat} {o:Obj},g∈R->w.heap[g]? = some o->w'.heap[g]? = some o:=λhg ho=>hm.only.keeps ho (hd _ hg);refine ⟨⟨hw,hk h.rR h.cell,h.log.step hm.only (λb hb=>?_) he,hk h.vR h.votes,hk h.nR h.next,hk h.mR h.mat,hk h.hR h.heard,h.nm,h.rR,h.vR,h.nR,h.mR,h.hR,λb hb hx=>hd' b hb (by simp [hx]),λb hb hx=>hd' b hb (by simp [hx]),λb hb=>hs b (h.rA b hb)⟩,hd⟩;rcases ap.1 hb with h1 | h1
 ·exact h.wd.dA b h1
 ·exact h.wd.lA b h1
end
theorem xS {p:Prop} (h:p:=by
 refine hK.out _ _ am (λam=>?_);clear hK K;refine bH ?_;refine aB 23 ?_;refine aB 24 ?_;refine aB 25 ?_;refine aB 26 ?_;refine cC 27 λK hK=>?_;go_simp
 refine hK.out _ _ trivial (λam=>?_);clear hK K;refine bH ?_;refine fI ?_;go_wp2_with fail
 go_ret
 exact HFIN.out _ _ rfl):p:=h
theorem xR {p:Prop} (h:p:=by
 refine hK.out _ _ am (λam=>?_);clear hK K;refine bH ?_;refine cC 18 λK hK=>?_;go_simp
 refine (fE (HD.out.below (ak _ _))).mono ?_;rintro e wa ⟨rfl,rfl⟩;(try rw [e1.out]);go_wp2_with fail
 exact xS):p:=h
section
variable {w:World} {A X:List Nat} {r d l:Nat} {s:Rp} {k:Dk}
theorem yr {w:World} {r:Nat} {cs:Array Value} {t:TypeId} (h:w.heap[r]? = some (.cells cs t (0,0))) (q:Nat) (i:Nat) (v:Value):((w.drewN q).setCell ⟨r,i,none⟩ v).heap[r]? = some (.cells (cs.setIfInBounds i v) t (0,0)):=aR (w:=w.drewN q) h i v
set_option maxHeartbeats 1000000 in
theorem iL (h:Nd w A X r d l s k):Calls Tryz.prog 30 #[.pointer (some ⟨r,0,none⟩)] w λe w'=>e = .returned (.bool (dQ s k))/\Nd w' A X r d l (aV s k) k/\Only [r] w w':=by
 obtain ⟨D,L,R,vl,gv,gn,gm,gh,h,hX⟩:=h;have HFIN:Hid (∀(b:Bool) (q:Nat),b=dQ s k->(Ending.returned (.bool b) = .returned (.bool (dQ s k))/\Nd ((w.drewN q).setCell ⟨r,5,none⟩ (.bool b)) A X r d l (aV s k) k/\Only [r] w ((w.drewN q).setCell ⟨r,5,none⟩ (.bool b)))):=ab (λb q hb=>by
  have ho:Only [r] w ((w.drewN q).setCell ⟨r,5,none⟩ (.bool b)):=((Only.refl _ _).drewN q).setCell (by simp) _;refine ⟨by rw [hb],(h.only_r (s':=aV s k) ho ?_ rfl rfl rfl rfl rfl rfl).nd hX,ho⟩;rw [yr h.cell,hb];rfl)
 have HD:=ab h.wd.dk;have hc2:w.cell? ⟨r,2,none⟩=some (.pointer (some ⟨d,0,none⟩)):=by rw [af h.cell];rfl
 have hc4:w.cell? ⟨r,4,none⟩=some (.int .i64 s.lives):=by rw [af h.cell];rfl
 have hc5:w.cell? ⟨r,5,none⟩=some (.bool s.done):=by rw [af h.cell];rfl
 have hz:=aM h.cell 5;clear h hX;unfold dQ at *;cases hdn:s.done with
 | true =>
  rw [hdn] at hc5 HFIN;simp only [Bool.true_or] at HFIN;go_enter Tryz.func30,Tryz.ntmps30
  go_upto_region 1 with (fail)
  refine wp_region_held_drew (S:=λ_=>True) (by kernel_rfl) trivial (λam=>?_);refine aB 0 ?_;refine aB 1 ?_;refine aB 2 ?_;refine aB 3 ?_;refine cC 4 λK hK=>?_;go_simp
  refine hK.out _ _ am (λam=>?_);clear hK K;refine bH ?_;refine aB 5 ?_;refine bP 6 ?_;refine bP 7 ?_;refine bP 8 ?_;refine bP 9 ?_;refine bP 10 ?_;refine bP 11 ?_;refine aB 12 ?_;refine aB 13 ?_;refine bP 14 ?_;refine bP 15 ?_;refine bP 16 ?_;refine bP 17 ?_;refine bP 18 ?_;refine bP 19 ?_;refine bP 20 ?_;refine bP 21 ?_;refine bP 22 ?_;refine bP 23 ?_;refine aB 24 ?_;refine aB 25 ?_;refine aB 26 ?_;refine cC 27 λK hK=>?_;go_simp
  refine hK.out _ _ trivial (λam=>?_);clear hK K;refine bH ?_;refine fI ?_;go_wp2_with fail
  go_ret
  exact HFIN.out _ _ rfl
 | false =>
  rw [hdn] at hc5 HFIN;simp only [Bool.false_or] at HFIN;cases hof:k.off with
  | true =>
   rw [hof] at HFIN;simp only [Bool.true_or] at HFIN;have HOF:=ab hof;have e1:Hid ((!k.off)=false):=ab (by rw [hof];rfl);clear hof hdn;go_enter Tryz.func30,Tryz.ntmps30
   go_upto_region 1 with (fail)
   refine wp_region_held_drew (S:=λ_=>True) (by kernel_rfl) trivial (λam=>?_);refine aB 0 ?_;refine aB 1 ?_;refine aB 2 ?_;refine aB 3 ?_;refine cC 4 λK hK=>?_;go_simp
   refine hK.out _ _ am (λam=>?_);clear hK K;refine bH ?_;refine aB 5 ?_;refine aB 6 ?_;refine aB 7 ?_;refine aB 8 ?_;refine cC 9 λK hK=>?_;go_simp
   refine hK.out _ _ am (λam=>?_);clear hK K;refine bH ?_;refine cC 10 λK hK=>?_;go_simp
   refine (lJ (HD.out.below (ak _ _))).mono ?_;rintro e wa ⟨rfl,rfl⟩;(try rw [e1.out]);go_wp2_with fail
   refine hK.out _ _ am (λam=>?_);clear hK K;refine bH ?_;refine aB 11 ?_;refine aB 12 ?_;refine aB 13 ?_;refine bP 14 ?_;refine bP 15 ?_;refine bP 16 ?_;refine bP 17 ?_;refine bP 18 ?_;refine bP 19 ?_;refine bP 20 ?_;refine bP 21 ?_;refine bP 22 ?_;refine bP 23 ?_;refine aB 24 ?_;refine aB 25 ?_;refine aB 26 ?_;refine cC 27 λK hK=>?_;go_simp
   refine hK.out _ _ trivial (λam=>?_);clear hK K;refine bH ?_;refine fI ?_;go_wp2_with fail
   go_ret
   exact HFIN.out _ _ rfl
  | false =>
   rw [hof] at HFIN;simp only [Bool.false_or] at HFIN;have e1:Hid ((!k.off)=true):=ab (by rw [hof];rfl);clear hof hdn;have hne:(k.lives != s.lives) = !(k.lives==s.lives):=rfl;generalize (k.lives==s.lives)=eq at *;go_enter Tryz.func30,Tryz.ntmps30
   go_upto_region 1 with (fail)
   refine wp_region_held_drew (S:=λ_=>True) (by kernel_rfl) trivial (λam=>?_);refine aB 0 ?_;refine aB 1 ?_;refine aB 2 ?_;refine aB 3 ?_;refine cC 4 λK hK=>?_;go_simp
   refine hK.out _ _ am (λam=>?_);clear hK K;refine bH ?_;refine aB 5 ?_;refine aB 6 ?_;refine aB 7 ?_;refine aB 8 ?_;refine cC 9 λK hK=>?_;go_simp
   refine hK.out _ _ am (λam=>?_);clear hK K;refine bH ?_;refine cC 10 λK hK=>?_;go_simp
   refine (lJ (HD.out.below (ak _ _))).mono ?_;rintro e wa ⟨rfl,rfl⟩;(try rw [e1.out]);go_wp2_with fail
   refine hK.out _ _ am (λam=>?_);clear hK K;refine bH ?_;refine aB 11 ?_;refine aB 12 ?_;refine aB 13 ?_;refine aB 14 ?_;refine aB 15 ?_;refine aB 16 ?_;refine aB 19 ?_;refine aB 20 ?_;refine aB 21 ?_;refine j5 17 22 (λK hK=>?_) λK hK=>?_
   ·go_simp
    refine hK.out _ _ am (λam=>?_);clear hK K;refine bH ?_;refine j5 18 22 (λK hK=>?_) λK hK=>?_
    ·go_simp
     refine (fE (HD.out.below (ak _ _))).mono ?_;rintro e wa ⟨rfl,rfl⟩;(try rw [e1.out]);go_wp2_with fail
     refine hK.out _ _ am (λam=>?_);clear hK K;refine bH ?_;refine cC 22 λK hK=>?_;go_simp
     exact xS
    ·go_simp
     exact xR
   ·go_simp
    refine hK.out _ _ am (λam=>?_);clear hK K;refine bH ?_;refine cC 17 λK hK=>?_;go_simp
    exact xR
end
def eP (k:Dk):List UInt8:=match k.file with | none=>[] | some (b,_)=>b
theorem eG (k:Dk):k.total=(eP k).length:=by
 unfold Dk.total eP;cases k.file with
 | none=>rfl
 | some p=>rfl
structure Wf (s:Rp) (k:Dk):Prop where
 n1:1<=s.n
 n5:s.n<=5
 own:s.own<s.n
 vl:s.votes.length=s.n
 nl:s.next.length=s.n
 ml:s.mat.length=s.n
 hl:s.heard.length=s.n
 room:k.room<=1048576
 tot:(k.total:Int)<=k.room
 fil:eP k=F.aL s.wl.recs
 logl:s.log.length<=s.wl.recs.length
 agr:s.agreed<=s.log.length
 man:s.many=(recs (s.log.take s.agreed)).length
 lead:s.leads=true->∀i,s.next.getD i 0<=s.log.length/\s.mat.getD i 0<=s.log.length
 term0:0<=s.term
 termM:s.term<=1099511627776
 cho : -1<=s.choice
 choM:s.choice<s.n
 recl:∀x∈s.log,x.bs.length<=8000
 tick:s.ticks<=s.clock
 hrd:∀x∈s.heard,0<=x.1/\x.1<=(s.clock:Int)
theorem ii (l:List (List UInt8)):12*l.length<=(F.aL l).length:=by
 induction l with
 | nil=>simp [F.aL]
 | cons a l ih =>
  have e:F.aL (a::l)=F.bV a++F.aL l:=by simp [F.aL]
  rw [e,ay,F.cX,aY];omega
theorem Wf.fl {s:Rp} {k:Dk} (h:Wf s k):(F.aL s.wl.recs).length<=1048576:=by
 have h1:=h.room;have h2:=h.tot;rw [eG,h.fil] at h2;omega
theorem Wf.big {s:Rp} {k:Dk} (h:Wf s k):s.wl.recs.length<=87381:=by
 have:=h.fl;have:=ii s.wl.recs;omega
theorem Wf.logb {s:Rp} {k:Dk} (h:Wf s k):s.log.length<=87381:=aD h.logl h.big
structure NdP (w w':World) (A X:List Nat) (r d l:Nat) (s':Rp) (k':Dk):Prop where
 ex:∃A' X',Nd w' A' X' r d l s' k'/\Mv A A' X X' w w'
section
variable {w w':World} {A A' X X':List Nat} {r d l:Nat} {s s':Rp} {k k':Dk}
theorem Nd.ndp (h:Nd w' A' X' r d l s' k') (m:Mv A A' X X' w w'):NdP w w' A X r d l s' k':=⟨⟨A',X',h,m⟩⟩
theorem Nd.here (h:Nd w' A X r d l s' k') (ho:Only [r] w w') (hr:r∈X):NdP w w' A X r d l s' k':=⟨⟨A,X,h,Mv.only ho (by simpa using hr)⟩⟩
theorem uK {D' L' R:List Nat}:∀b,b∈D'++(L'++R)↔b∈D'\/b∈L'\/b∈R:=λb=>by simp
theorem x7 {D L D' L' R:List Nat} (hX:∀b,b∈X↔b∈D\/b∈L\/b∈R) (hm:Moves (D++L) (D'++L') w w') (he:Ext A A' w) (hs:∀b∈A,b∈A'):Mv A A' X (D'++(L'++R)) w w':=by
 have hin:∀b,b∈D++L->b∈X:=λb hb=>(hX b).2 (by
  rcases ap.1 hb with hb | hb
  ·exact .inl hb
  ·exact .inr (.inl hb))
 refine ⟨⟨hm.only.mono hin,λb hb=>?_,λb hb=>?_⟩,he,hs⟩
 ·simp only [ap] at hb;rcases hb with hb | hb | hb
  ·exact (hm.gr b (by simp [hb])).imp (hin b) id
  ·exact (hm.gr b (by simp [hb])).imp (hin b) id
  ·exact .inl ((hX b).2 (.inr (.inr hb)))
 ·rcases (hX b).1 hb with h1 | h1 | h1
  ·have:=hm.sub b (by simp [h1]);simp only [ap] at this ⊢;rcases this with h3 | h3<;>simp [h3]
  ·have:=hm.sub b (by simp [h1]);simp only [ap] at this ⊢;rcases this with h3 | h3<;>simp [h3]
  ·simp [h1]
set_option maxHeartbeats 1000000 in
theorem oL (h:Nd w A X r d l s k) (ao:Option Addr) (n c:Nat) (b:List UInt8) (hb:Imm w A (.slice ao n c) b) (hn:n<=100000)
  (hbig:s.wl.recs.length<=1000000) (hroom:k.room<=1048576) (h0:(k.total:Int)<=k.room) (hfl:(F.aL s.wl.recs).length<=1048576) :
  Calls Tryz.prog 93 #[.pointer (some ⟨r,0,none⟩),.slice ao n c] w λe w'=>e = .returned (.bool (!(bB s k b).1.done))/\NdP w w' A X r d l (bB s k b).1 (bB s k b).2:=by
 obtain ⟨D,L,R,vl,gv,gn,gm,gh,h,hX⟩:=h;have HXr:=ab ((hX r).2 (.inr (.inr h.rR)));have hc3:w.cell? ⟨r,3,none⟩=some (.pointer (some ⟨l,0,none⟩)):=by rw [af h.cell];rfl
 have hc5:w.cell? ⟨r,5,none⟩=some (.bool s.done):=by rw [af h.cell];rfl
 have hz:=aM h.cell 5;have HX:=ab hX;cases hdn:s.done with
 | true =>
  rw [hdn] at hc5;have HW:Hid (bB s k b=(s,k)):=ab (by unfold bB;rw [aA hdn]);have HDN:=ab hdn;have HFIN:Hid (NdP w (w.setCell ⟨r,5,none⟩ (.bool true)) A X r d l s k):=ab (by
   have ho:Only [r] w (w.setCell ⟨r,5,none⟩ (.bool true)):=(Only.refl _ _).setCell (by simp) _;refine ((h.only_r (s':=s) ho ?_ rfl rfl rfl rfl rfl rfl).nd hX).here ho HXr.out;rw [aR h.cell,<-hdn];rfl)
  clear h hX hb hdn;go_enter Tryz.func93,Tryz.ntmps93
  go_wp2_with fail
  go_ret
  rw [HW.out];exact ⟨by rw [HDN.out];rfl,HFIN.out⟩
 | false =>
  rw [hdn] at hc5;have HW:Hid (bB s k b=({ s with wl:=(fc s.wl k b).2.1,done := !((fc s.wl k b).1==0)},(fc s.wl k b).2.2)):=ab (by unfold bB;rw [aw (by rw [hdn];decide)]);have HA:=ab (BW h.wd ao n c b hb hbig hroom h0 hfl hn);have H:=ab h;clear h hX hb hdn;rw [HW.out];generalize fc s.wl k b=q at *;obtain ⟨e0,wl',k'⟩:=q;simp only at *;have HNE:Hid ((e0 != 0) = !(e0==0)):=ab rfl;generalize hee:(!(e0==0))=eb at *;go_enter Tryz.func93,Tryz.ntmps93
  go_wp2_with fail
  refine HA.out.mono ?_;rintro e w2 ⟨rfl,A2,D2,L2,hw2,hm2,he2,hs2⟩;obtain ⟨h2,hd2⟩:=H.out.wal hw2 hm2 he2 hs2;have H2:=ab h2;have hz2:=aM h2.cell 5;have hc52:w2.cell? ⟨r,5,none⟩=some (.bool s.done):=by rw [af h2.cell];rfl
  have HM:Hid (Mv A A2 X (D2++(L2++R)) w w2):=ab (x7 HX.out hm2 he2 hs2);clear h2 hw2 hm2 he2 hs2 hd2 HA H;have hr2:Hid (Nd (w2.setCell ⟨r,5,none⟩ (.bool eb)) A2 (D2++(L2++R)) r d l { s with wl:=wl',done:=eb } k'):=ab (by
   have ho:Only [r] w2 (w2.setCell ⟨r,5,none⟩ (.bool eb)):=(Only.refl _ _).setCell (by simp) _;refine (H2.out.only_r (s':={ s with wl:=wl',done:=eb }) ho ?_ rfl rfl rfl rfl rfl rfl).nd uK;rw [aR H2.out.cell];rfl)
  have HMF:Hid (Mv A A2 X (D2++(L2++R)) w (w2.setCell ⟨r,5,none⟩ (.bool eb))):=ab (HM.out.trans (Mv.only (S:=[r]) ((Only.refl _ _).setCell (by simp) _) (λb hb=>by rw [aj.1 hb];simp [H2.out.rR])));clear H2 HM;have hne:(e0 != 0)=eb:=HNE.out;go_wp2_with fail
  go_ret
  exact ⟨rfl,hr2.out.ndp HMF.out⟩
set_option maxHeartbeats 1000000 in
theorem mT (h:Nd w A X r d l s k) :
  Calls Tryz.prog 95 #[.pointer (some ⟨r,0,none⟩)] w λe w'=>e = .returned (.bool (!(bT s k).1.done))/\NdP w w' A X r d l (bT s k).1 (bT s k).2:=by
 obtain ⟨D,L,R,vl,gv,gn,gm,gh,h,hX⟩:=h;have HXr:=ab ((hX r).2 (.inr (.inr h.rR)));have hc3:w.cell? ⟨r,3,none⟩=some (.pointer (some ⟨l,0,none⟩)):=by rw [af h.cell];rfl
 have hc5:w.cell? ⟨r,5,none⟩=some (.bool s.done):=by rw [af h.cell];rfl
 have hz:=aM h.cell 5;have HX:=ab hX;cases hdn:s.done with
 | true =>
  rw [hdn] at hc5;have HW:Hid (bT s k=(s,k)):=ab (by unfold bT;rw [aA hdn]);have HDN:=ab hdn;have HFIN:Hid (NdP w (w.setCell ⟨r,5,none⟩ (.bool true)) A X r d l s k):=ab (by
   have ho:Only [r] w (w.setCell ⟨r,5,none⟩ (.bool true)):=(Only.refl _ _).setCell (by simp) _;refine ((h.only_r (s':=s) ho ?_ rfl rfl rfl rfl rfl rfl).nd hX).here ho HXr.out;rw [aR h.cell,<-hdn];rfl)
  clear h hX hdn;go_enter Tryz.func95,Tryz.ntmps95
  go_wp2_with fail
  go_ret
  rw [HW.out];exact ⟨by rw [HDN.out];rfl,HFIN.out⟩
 | false =>
  rw [hdn] at hc5;have HW:Hid (bT s k=({ s with wl:=(fQ s.wl k).2.1,done := !((fQ s.wl k).1==0)},(fQ s.wl k).2.2)):=ab (by unfold bT;rw [aw (by rw [hdn];decide)]);have HA:=ab (u8 h.wd);have H:=ab h;clear h hX hdn;rw [HW.out];generalize fQ s.wl k=q at *;obtain ⟨e0,wl',k'⟩:=q;simp only at *;have HNE:Hid ((e0 != 0) = !(e0==0)):=ab rfl;generalize hee:(!(e0==0))=eb at *;go_enter Tryz.func95,Tryz.ntmps95
  go_wp2_with fail
  refine HA.out.mono ?_;rintro e w2 ⟨rfl,hw2,hon2⟩;have hm2:=Moves.of_only hon2;have he2:=Ext.refl A w;have hs2:∀b∈A,b∈A:=λb hb=>hb;clear hon2;obtain ⟨h2,hd2⟩:=H.out.wal hw2 hm2 he2 hs2;have H2:=ab h2;have hz2:=aM h2.cell 5;have hc52:w2.cell? ⟨r,5,none⟩=some (.bool s.done):=by rw [af h2.cell];rfl
  have HM:Hid (Mv A A X (D++(L++R)) w w2):=ab (x7 HX.out hm2 he2 hs2);clear h2 hw2 hm2 he2 hs2 hd2 HA H;have hr2:Hid (Nd (w2.setCell ⟨r,5,none⟩ (.bool eb)) A (D++(L++R)) r d l { s with wl:=wl',done:=eb } k'):=ab (by
   have ho:Only [r] w2 (w2.setCell ⟨r,5,none⟩ (.bool eb)):=(Only.refl _ _).setCell (by simp) _;refine (H2.out.only_r (s':={ s with wl:=wl',done:=eb }) ho ?_ rfl rfl rfl rfl rfl rfl).nd uK;rw [aR H2.out.cell];rfl)
  have HMF:Hid (Mv A A X (D++(L++R)) w (w2.setCell ⟨r,5,none⟩ (.bool eb))):=ab (HM.out.trans (Mv.only (S:=[r]) ((Only.refl _ _).setCell (by simp) _) (λb hb=>by rw [aj.1 hb];simp [H2.out.rR])));clear H2 HM;have hne:(e0 != 0)=eb:=HNE.out;go_wp2_with fail
  go_ret
  exact ⟨rfl,hr2.out.ndp HMF.out⟩
end
section
variable {w w':World} {A A' X X':List Nat} {r d l:Nat} {s s':Rp} {k k':Dk}
theorem iz (term who:Int):(dw term who).length=24:=by unfold dw;rw [jH];rfl
theorem Nd.cells (h:Nd w A X r d l s k):∃vl gv gn gm gh,w.heap[r]? = some (.cells (et d l s vl gv gn gm gh) 78 (0,0)):=by
 obtain ⟨D,L,R,vl,gv,gn,gm,gh,h,hX⟩:=h;exact ⟨vl,gv,gn,gm,gh,h.cell⟩
theorem Nd.scal (h:Nd w A X r d l s k) (ho:Only [r] w w') (hc:∀vl gv gn gm gh,w.heap[r]? = some (.cells (et d l s vl gv gn gm gh) 78 (0,0))->w'.heap[r]? = some (.cells (et d l s' vl gv gn gm gh) 78 (0,0)))
  (h1:s'.wl=s.wl) (h2:s'.log=s.log) (h3:s'.votes=s.votes) (h4:s'.next=s.next) (h5:s'.mat=s.mat) (h6:s'.heard=s.heard):NdP w w' A X r d l s' k:=by
 have hr:=h.rX;obtain ⟨D,L,R,vl,gv,gn,gm,gh,h,hX⟩:=h;exact ((h.only_r ho (hc _ _ _ _ _ h.cell) h1 h2 h3 h4 h5 h6).nd hX).here ho hr
theorem NdP.trans {w'':World} (m:Mv A A' X X' w w') (h:NdP w' w'' A' X' r d l s k):NdP w w'' A X r d l s k:=by
 obtain ⟨A2,X2,h,m2⟩:=h;exact ⟨A2,X2,h,m.trans m2⟩
set_option maxHeartbeats 1000000 in
theorem lX (h:Nd w A X r d l s k) (hw:Wf s k) (term who:Int) :
  Calls Tryz.prog 70 #[.pointer (some ⟨r,0,none⟩),.int .i64 term,.int .i64 who] w λe w'=>e = .returned (.bool (be s k term who).1)/\NdP w w' A X r d l (be s k term who).2.1 (be s k term who).2.2:=by
 have H:=ab h;have HW:=ab hw;clear h hw;have HP:∀W:World,Nd W A X r d l s k->∀ao c,Imm W A (.slice ao 24 c) (dw term who)->Calls Tryz.prog 93 #[.pointer (some ⟨r,0,none⟩),.slice ao 24 c] W λe w'=>e = .returned (.bool (!(bB s k (dw term who)).1.done))/\NdP W w' A X r d l (bB s k (dw term who)).1 (bB s k (dw term who)).2:=λW hW ao c hi=>oL hW ao 24 c _ hi (by omega) (aD HW.out.big (by omega)) HW.out.room HW.out.tot HW.out.fl;have HP:=ab HP;have HN:Hid (dw term who=jg [1,term,who]):=ab rfl;have HNL:=ab (iz term who);have HE:Hid (be s k term who=(let p:=bB s k (dw term who)
  if p.1.done then (false,p.1,p.2) else
  let q:=bT p.1 p.2
  if q.1.done then (false,q.1,q.2) else
  (true,{ q.1 with leads:=q.1.leads && !decide (q.1.term<term),term:=term,choice:=who },q.2))):=ab rfl
 generalize bB s k (dw term who)=p at *;generalize dw term who=nt at *;obtain ⟨s1,k1⟩:=p;simp only at HE HP;cases hd1:s1.done with
 | true =>
  rw [aA hd1] at HE;rw [hd1] at HP;go_enter Tryz.func70,Tryz.ntmps70
  go_wp2_with fail
  refine (jt none 0 0 [] (some ⟨w.heap.size,0,none⟩) 3 3 [1,term,who] _ (fV _) (jQ w [1,term,who] #[.int .i64 1,.int .i64 term,.int .i64 who] rfl 2 (0,0) w.heap.size rfl 3 rfl 3) (by omega) (by omega)).mono ?_;rintro e w2 ⟨v2,rfl,ho2,hb2⟩;rw [cL,<-HN.out] at ho2;have hbw:Below w.heap.size w w2:=((az _ _).alloc (ah _) _).trans (hb2.mono (by simp));have himm:=Imm.new (A:=A) (ho2.mono (base':=w.heap.size) (by simp)) (w:=w) (H.out.alt);obtain ⟨ao,c,e2,_⟩:=id himm;rw [HNL.out] at e2;subst e2;have H2:=ab (H.out.below hbw);have HB:=ab hbw;have HI:=ab himm;clear ho2 hb2 hbw himm;go_wp2_with fail
  refine (HP.out _ H2.out _ _ HI.out).mono ?_;rintro e w3 ⟨rfl,hn3⟩;have HN3:=ab hn3;clear hn3;go_wp2_with fail
  go_ret
  rw [HE.out];exact ⟨rfl,HN3.out.trans (Mv.below HB.out)⟩
 | false =>
  rw [aw (by rw [hd1];decide)] at HE;rw [hd1] at HP;have HS:=ab (λ(W W':World) (A1 X1:List Nat) (h:Nd W A1 X1 r d l s1 k1)=>mT h);generalize bT s1 k1=q at *;obtain ⟨s2,k2⟩:=q;simp only at HE HS;cases hd2:s2.done with
  | true =>
   rw [aA hd2] at HE;rw [hd2] at HS;go_enter Tryz.func70,Tryz.ntmps70
   go_wp2_with fail
   refine (jt none 0 0 [] (some ⟨w.heap.size,0,none⟩) 3 3 [1,term,who] _ (fV _) (jQ w [1,term,who] #[.int .i64 1,.int .i64 term,.int .i64 who] rfl 2 (0,0) w.heap.size rfl 3 rfl 3) (by omega) (by omega)).mono ?_;rintro e w2 ⟨v2,rfl,ho2,hb2⟩;rw [cL,<-HN.out] at ho2;have hbw:Below w.heap.size w w2:=((az _ _).alloc (ah _) _).trans (hb2.mono (by simp));have himm:=Imm.new (A:=A) (ho2.mono (base':=w.heap.size) (by simp)) (w:=w) (H.out.alt);obtain ⟨ao,c,e2,_⟩:=id himm;rw [HNL.out] at e2;subst e2;have H2:=ab (H.out.below hbw);have HB:=ab hbw;have HI:=ab himm;clear ho2 hb2 hbw himm;go_wp2_with fail
   refine (HP.out _ H2.out _ _ HI.out).mono ?_;rintro e w3 ⟨rfl,hn3⟩;have HN3:=ab hn3;clear hn3;obtain ⟨A3,X3,h3,m3⟩:=HN3.out;have H3:=ab h3;have M3:=ab (m3);clear h3 m3 HN3;go_wp2_with fail
   refine (HS.out _ w3 _ _ H3.out).mono ?_;rintro e w4 ⟨rfl,hn4⟩;have HN4:=ab hn4;clear hn4;go_wp2_with fail
   go_ret
   rw [HE.out];exact ⟨rfl,HN4.out.trans ((Mv.below HB.out).trans M3.out)⟩
  | false =>
   rw [aw (by rw [hd2];decide)] at HE;rw [hd2] at HS;go_enter Tryz.func70,Tryz.ntmps70
   go_wp2_with fail
   refine (jt none 0 0 [] (some ⟨w.heap.size,0,none⟩) 3 3 [1,term,who] _ (fV _) (jQ w [1,term,who] #[.int .i64 1,.int .i64 term,.int .i64 who] rfl 2 (0,0) w.heap.size rfl 3 rfl 3) (by omega) (by omega)).mono ?_;rintro e w2 ⟨v2,rfl,ho2,hb2⟩;rw [cL,<-HN.out] at ho2;have hbw:Below w.heap.size w w2:=((az _ _).alloc (ah _) _).trans (hb2.mono (by simp));have himm:=Imm.new (A:=A) (ho2.mono (base':=w.heap.size) (by simp)) (w:=w) (H.out.alt);obtain ⟨ao,c,e2,_⟩:=id himm;rw [HNL.out] at e2;subst e2;have H2:=ab (H.out.below hbw);have HB:=ab hbw;have HI:=ab himm;clear ho2 hb2 hbw himm;go_wp2_with fail
   refine (HP.out _ H2.out _ _ HI.out).mono ?_;rintro e w3 ⟨rfl,hn3⟩;have HN3:=ab hn3;clear hn3;obtain ⟨A3,X3,h3,m3⟩:=HN3.out;have H3:=ab h3;have M3:=ab (m3);clear h3 m3 HN3;go_wp2_with fail
   refine (HS.out _ w3 _ _ H3.out).mono ?_;rintro e w4 ⟨rfl,hn4⟩;obtain ⟨A4,X4,h4,m4⟩:=hn4;have H4:=ab h4;have M4:=ab (((Mv.below HB.out).trans M3.out).trans m4);obtain ⟨vl,gv,gn,gm,gh,hcell⟩:=h4.cells;have HC:=ab hcell;have hc6:w4.cell? ⟨r,6,none⟩=some (.int .i64 s2.term):=by rw [af hcell];rfl
   have hc7:w4.cell? ⟨r,7,none⟩=some (.int .i64 s2.choice):=by rw [af hcell];rfl
   have hc11:w4.cell? ⟨r,11,none⟩=some (.bool s2.leads):=by rw [af hcell];rfl
   have hz7:=aM hcell 7;have hz6:=aM hcell 6;have hz11:=aM hcell 11;clear h4 m4 hcell;by_cases hlt:s2.term<term
   ·go_wp2_with fail
    go_ret
    rw [HE.out];refine ⟨rfl,NdP.trans M4.out ?_⟩;refine Nd.scal H4.out ?_ ?_ rfl rfl rfl rfl rfl rfl
    ·exact (((Only.refl _ _).setCell (by simp) _).setCell (by simp) _).setCell (by simp) _
    ·intro vl gv gn gm gh hc;rw [aR (aR (aR hc 11 _) 6 _) 7 _];simp [et,hlt]
   ·go_wp2_with fail
    go_ret
    rw [HE.out];refine ⟨rfl,NdP.trans M4.out ?_⟩;refine Nd.scal H4.out ?_ ?_ rfl rfl rfl rfl rfl rfl
    ·exact ((Only.refl _ _).setCell (by simp) _).setCell (by simp) _
    ·intro vl gv gn gm gh hc;rw [aR (aR hc 6 _) 7 _];simp [et,hlt]
end
theorem Cz:(Tryz.prog.info? 94).map (λi=>(i.zero,i.size,i.bytes))=some (some (.agg #[.int .i64 0,.slice none 0 0]),2,32):=by kernel_rfl
section
variable {w w':World} {A A' X X':List Nat} {r d l:Nat} {s s':Rp} {k k':Dk}
def B3 (v:Value) (n:Nat):Value:=match v with | .slice ao _ _=>.slice ao n n | x=>x
theorem mI {v:Value} {es:List Ent} (h:IsE w A v es):∃ao c,v = .slice ao es.length c/\es.length<=c/\c<=9223372036854775807/\(ao=none->c=0)/\∀p,ao=some p->∃g,p=⟨g,0,none⟩:=by
 rcases h with ⟨rfl,rfl⟩ | ⟨g,c,cur,rfl,h1,h2,h3,h4,h5⟩
 ·exact ⟨none,0,rfl,by simp,by decide,λ_=>rfl,(λp hp=>by cases hp)⟩
 ·exact ⟨_,c,rfl,h1,h2,(λh=>by cases h),(λp hp=>⟨g,by cases hp;rfl⟩)⟩
theorem ug {v u:Value} {es:List Ent} (h:IsE w A v es) (n:Nat) (hn:n<=es.length) (hb:es.length<=1000000) {H:Nat} {x:Ent} (hH:w.heap[H]? = some (.cells #[.int .i64 x.term,u] 94 (0,0))) (hu:Imm w A u x.bs) (hA:∀b∈A,b<w.heap.size) (ty:TypeId) :
  ∃c cur,(Builtin.append_ #[76,76] ty #[B3 v n,.slice (some ⟨H,0,none⟩) 1 1]).run Tryz.prog w = .ok (.slice (some ⟨w.heap.size,0,none⟩) (n+1) c) (w.drew.alloc (.cells cur 94))/\IsE (w.drew.alloc (.cells cur 94)) A (.slice (some ⟨w.heap.size,0,none⟩) (n+1) c) (es.take n++[x]):=by
 obtain ⟨i0,hi0,hz0,hz1,hz2⟩:=info_parts Cz;have hnews:∀j v,([Value.int .i64 x.term,u]:List Value)[j]? = some v->w.cell? ((⟨H,0,none⟩:Addr).add j)=some v:=by
  intro j v hj;rw [Addr.add_lit,cy,af hH]
  match j,hj with
  | 0,hj=>simpa using hj
  | 1,hj=>simpa using hj
  | j+2,hj=>simp at hj
 rcases h with ⟨rfl,rfl⟩ | ⟨g,c,cur,rfl,h1,h2,h3,h4,h5⟩
 ·obtain rfl:n=0:=by simpa using hn
  have hr:=run_append_nil (P:=Tryz.prog) (w:=w) 76 ty 94 i0 (.agg #[.int .i64 0,.slice none 0 0]) Tryz.underlying76 hi0 hz0 ⟨H,0,none⟩ 1 1 [.int .i64 x.term,u] (by rw [hz1];rfl) hnews (by omega) (by omega) (by rw [hz2];omega);refine ⟨_,_,hr,.inr ⟨w.heap.size,_,_,rfl,?_,?_,λhm=>?_,aK w.drew _,λi hi=>?_⟩⟩
  ·simpa using grownCap_ge w 1 0 94
  ·exact aD (grownCap_le_maxLen w 1 0 94 (by unfold maxLen;omega)) (by unfold maxLen;omega)
  ·have:=hA _ hm;omega
  ·obtain rfl:i=0:=by simp at hi;omega
   exact ⟨u,by rw [ee (by simp)];simp,by rw [ee (by simp)];simp,hu.below (ak w 1 |>.alloc (ah _) _)⟩
 ·have hcells:∀i,(hi:i<es.length)->∃u,cur[2*i]? = some (.int .i64 es[i].term)/\cur[2*i+1]? = some u/\Imm w A u es[i].bs:=λi hi=>(h5 i hi).ex;have hsz:2*es.length<=cur.size:=by
   rcases Nat.eq_zero_or_pos es.length with h0 | h0
   ·omega
   ·obtain ⟨u,_,k2,_⟩:=hcells (es.length - 1) (by omega);have:=(io.1 k2).1;omega
  have hlo:(cur.toList.take (n*2)).length=n*2:=by rw [aI,oJ];omega
  have hr:=run_append_grow (P:=Tryz.prog) (w:=w) 76 ty 94 i0 (.agg #[.int .i64 0,.slice none 0 0]) Tryz.underlying76 hi0 hz0 ⟨g,0,none⟩ n n (cur.toList.take (n*2)) (by rw [hz1];exact hlo)
   (by
    intro j v hj;rw [Addr.add_lit,cy,af h4];rw [cE] at hj;split at hj
    ·simpa using hj
    ·cases hj) ⟨H,0,none⟩ 1 1 [.int .i64 x.term,u] (by rw [hz1];rfl) hnews (by omega) (by omega) (growslice_fits (by omega) (by rw [hz2];omega))
  refine ⟨_,_,hr,.inr ⟨w.heap.size,grownCap w (n+1) n 94,_,?_,?_,?_,λhm=>?_,aK w.drew _,λi hi=>?_⟩⟩
  ·simp [bi hn]
  ·simpa [bi hn] using grownCap_ge w (n+1) n 94
  ·exact aD (grownCap_le_maxLen w (n+1) n 94 (by unfold maxLen;omega)) (by unfold maxLen;omega)
  ·have:=hA _ hm;omega
  ·have hi':i<n+1:=by simpa [bi hn] using hi
   have hbw:Below w.heap.size w (w.drew.alloc (.cells ((cur.toList.take (n*2)).toArray++[Value.int .i64 x.term,u].toArray++Builtin.zeroCells (Value.agg #[.int .i64 0,.slice none 0 0]).cells (grownCap w (n+1) n 94 - (n+1))) 94)):=ak w 1 |>.alloc (ah _) _;by_cases hlt:i<n
   ·obtain ⟨u1,k1,k2,k3⟩:=hcells i (by omega);refine ⟨u1,?_,?_,?_⟩
    ·rw [DA,ee (by simp [hlo];omega)];simp only [gZ,cE];rw [aA (by omega),ew,k1];simp [uZ,bi hn,hlt]
    ·rw [DA,ee (by simp [hlo];omega)];simp only [gZ,cE];rw [aA (by omega),ew,k2]
    ·have e:(es.take n++[x])[i]=es[i]:=by simp [uZ,bi hn,hlt]
     rw [e];exact k3.below hbw
   ·obtain rfl:i=n:=by omega
    have hl2:(cur.toList.take (i*2)).toArray.size=2*i:=by simp [hlo];omega
    have e:(es.take i++[x])[i]=x:=by simp [List.getElem_append_right,bi hn]
    rw [e];refine ⟨u,?_,?_,hu.below hbw⟩
    ·rw [DA,Array.getElem?_append_right (by omega),hl2,pA];rw [ee (by simp)];simp
    ·rw [DA,Array.getElem?_append_right (by omega),hl2,show 2*i+1 - 2*i=1 by omega];rw [ee (by simp)];simp
theorem hZ {ops:Array Oper} {rest:List Oper} {o:Oper} {a:Act} {Q:Exit->Act->World->Prop} (hgd:o.guard=none) (sx x:Operand)
  (ho:o.op = .call { callee:=.builtin .append,args:=#[sx,x],argTypes:=#[76,76]})
  {v u:Value} {es:List Ent} (h:IsE w A v es) (n:Nat) (hn:n<=es.length) (hb:es.length<=1000000) {H:Nat} {y:Ent} (hH:w.heap[H]? = some (.cells #[.int .i64 y.term,u] 94 (0,0))) (hu:Imm w A u y.bs) (hA:∀b∈A,b<w.heap.size)
  (hs:a.eval sx=B3 v n) (hx:a.eval x = .slice (some ⟨H,0,none⟩) 1 1)
  (hk:∀c cur,IsE (w.drew.alloc (.cells cur 94)) A (.slice (some ⟨w.heap.size,0,none⟩) (n+1) c) (es.take n++[y])->wpList Tryz.prog ops Q rest (a.put o.dst (.slice (some ⟨w.heap.size,0,none⟩) (n+1) c)) (w.drew.alloc (.cells cur 94))):wpList Tryz.prog ops Q (o::rest) a w:=by
 obtain ⟨c,cur,hr,h2⟩:=ug h n hn hb hH hu hA o.type;refine wpList_plain hgd λK hK=>?_;unfold Oper.wp;simp [execOp,ho,resolve,invoke,builtin,hs,hx,hr,Result.andThen];exact hK _ _ (hk c cur h2)
end
end Go.Proofs.YtnhefallmioefaaGreat
