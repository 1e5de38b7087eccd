/-
  What the proof of the law leans on: contracts of the program's functions, one behind another. No condition.
-/
import Derived.Test.YtnicaicjgaoolaaT25
import Derived.Test.YtnicaicjgaoolaaT18
import Derived.Test.YtnicaicjgaoolaaT19
import Derived.Test.YtnicaicjgaoolaaT15
set_option linter.unusedVariables false
set_option linter.unusedSimpArgs false
namespace Go.Proofs.Ytnicaicjgaoolaa
open Go.RowKit Go.ChangeMaps Go.WideMaps Go.Maps
set_option maxRecDepth 20000
theorem and_mask (N:Int) (m:Nat) (hm:m≤65535):∃x:Nat,bits .and .i64 N (m:Int)=(x:Int)∧x≤m:=by
 unfold bits
 simp only
 have h1:(BitVec.ofInt IntKind.i64.bits N &&& BitVec.ofInt IntKind.i64.bits (m:Int)).toNat≤m:=by
  rw [BitVec.toNat_and]
  have h2:(BitVec.ofInt IntKind.i64.bits (m:Int)).toNat=m:=by
   rw [BitVec.ofInt_natCast,BitVec.toNat_ofNat]
   exact Nat.mod_eq_of_lt (Nat.lt_of_le_of_lt hm (by decide))
  rw [h2]
  exact Nat.and_le_right
 exact ⟨_,IntWalk.i64_in _ (by omega),h1⟩
/-- which one an act speaks of -/
def actI (N:Int) (n:Nat):Nat:=((bits .and .i64 N 1023).tmod (n:Int)).toNat
theorem actI_ok (N:Int) (n:Nat) (hn:1≤n):(bits .and .i64 N 1023).tmod (n:Int)=((actI N n:Nat):Int)∧actI N n<n:=by
 obtain ⟨x,h1,h2⟩:=and_mask N 1023 (by omega)
 have h1:bits .and .i64 N 1023=(x:Int):=h1
 unfold actI
 rw [h1,←Int.ofNat_tmod,Int.toNat_natCast]
 exact ⟨rfl,Nat.mod_lt _ (by omega)⟩
structure ActV (w:World) (A:List Nat) (v:Value) (b:List UInt8):Prop where
 im:Imm w A v b
 le:b.length≤1000000
section
variable {w w':World} {A A' Y Z Z':List Nat} {c n cl:Nat} {S:Mn} {rs ds ls:Nat→Nat} {Xs:Nat→List Nat} {vr vd:Value} {gu:Nat} {qv gv lv:Value}
set_option maxHeartbeats 4000000 in
theorem do_tick (h:Sy w A Z c n S) (hi:SInv n cl S) (N K P:Int) (ba:Option Addr) (bl bc:Nat) (hn:1≤n) (hcl:cl≤900000) :
  Calls Try.prog 11 #[.pointer (some ⟨c,0,none⟩),.agg #[.int .i64 0,.int .i64 N,.int .i64 K,.int .i64 P,.slice ba bl bc]] w fun e w'=>e = .returned (.tuple #[])∧SyP w w' A Z c n (S.tick (actI N n)):=by
 have hbw:Below w.heap.size w (w.alloc (.cells #[.int .i64 0,.int .i64 N,.int .i64 K,.int .i64 P,.slice ba bl bc] 31)):=(Below.refl _ _).alloc (Nat.le_refl _) _
 have hbx:=heap_new w (.cells #[.int .i64 0,.int .i64 N,.int .i64 K,.int .i64 P,.slice ba bl bc] 31)
 have hs1:=h.below hbw
 have HM0:Hid (Mv A A Z Z w (w.alloc (.cells #[.int .i64 0,.int .i64 N,.int .i64 K,.int .i64 P,.slice ba bl bc] 31))):=Lib.hid (Mv.below hbw)
 obtain ⟨hq1,hq2⟩:=actI_ok N n hn
 have HQ1:=Lib.hid hq1
 obtain ⟨Y,rs,ds,ls,Xs,vr,vd,gu,qv,gv,lv,hs,hz⟩:=hs1
 obtain ⟨gr,kr,evr,hkr,hrow⟩:=ptr_cell hs.rr (by omega)
 subst evr
 have hc0:(w.alloc (.cells #[.int .i64 0,.int .i64 N,.int .i64 K,.int .i64 P,.slice ba bl bc] 31)).cell? ⟨c,0,none⟩=some (.slice (some ⟨gr,0,none⟩) n kr):=by rw [cell_heap hs.cell];rfl
 have hc2:(w.alloc (.cells #[.int .i64 0,.int .i64 N,.int .i64 K,.int .i64 P,.slice ba bl bc] 31)).cell? ⟨c,2,none⟩=some (.slice (some ⟨gu,0,none⟩) n n):=by rw [cell_heap hs.cell];rfl
 have hk0:(w.alloc (.cells #[.int .i64 0,.int .i64 N,.int .i64 K,.int .i64 P,.slice ba bl bc] 31)).cell? ⟨w.heap.size,0,none⟩=some (.int .i64 0):=by rw [cell_heap hbx];rfl
 have hk1:(w.alloc (.cells #[.int .i64 0,.int .i64 N,.int .i64 K,.int .i64 P,.slice ba bl bc] 31)).cell? ⟨w.heap.size,1,none⟩=some (.int .i64 N):=by rw [cell_heap hbx];rfl
 have HS:=Lib.hid hs
 have HZ:=Lib.hid hz
 have HI:=Lib.hid hi
 clear hs hz h hi hbw hbx
 generalize actI N n=q at *
 go_enter Try.func11,Try.ntmps11
 go_upto_region 1 with (fail)
 generalize w.alloc (.cells #[.int .i64 0,.int .i64 N,.int .i64 K,.int .i64 P,.slice ba bl bc] 31)=W at *
 generalize w.heap.size=M at *
 go_cut [4] (fun v wx=>v = .int .i64 (q:Int)∧∃nq,wx=W.drewN nq)
 case first =>
  go_quiet (fail)
  go_wp2_with fail
  go_meet
  exact ⟨by rw [←HQ1.out],nq,rfl⟩
 case rest =>
 obtain ⟨rfl,nq,rfl⟩:=hcut
 have hb1:=below_drewN W nq
 have hs:=HS.out.below hb1
 have hup:=hs.upAt q hq2
 have hrq:(W.drewN nq).cell? ⟨gr,q,none⟩=some (.pointer (some ⟨rs q,0,none⟩)):=cell_later hb1 (hrow q hq2)
 have hc0:(W.drewN nq).cell? ⟨c,0,none⟩=some (.slice (some ⟨gr,0,none⟩) n kr):=hc0
 have hc2:(W.drewN nq).cell? ⟨c,2,none⟩=some (.slice (some ⟨gu,0,none⟩) n n):=hc2
 have hk0:(W.drewN nq).cell? ⟨M,0,none⟩=some (.int .i64 0):=hk0
 have M1:Hid (Mv A A Z Z w (W.drewN nq)):=Lib.hid (HM0.out.trans (Mv.below hb1))
 have HS1:=Lib.hid hs
 have hq3:(q:Int)<(n:Int):=by omega
 clear hs hb1 hrow HS HM0 hq1 HQ1 hk1
 generalize W.drewN nq=W1 at *
 cases hupq:(S.at q).up with
 | false =>
  rw [hupq] at hup
  have HF:Hid (SyP w W1 A Z c n (S.tick q)):=Lib.hid (by
   unfold Mn.tick
   rw [hupq]
   exact (⟨_,_,_,_,_,_,_,_,_,_,_,HS1.out,HZ.out⟩:Sy _ A Z c n S).syp M1.out)
  go_wp2_with fail
  go_end0
  exact ⟨rfl,HF.out⟩
 | true =>
  rw [hupq] at hup
  obtain ⟨hwf,hck⟩:=HI.out.wf q hq2 hupq
  have HIDJ:=Lib.hid (HI.out.id q hq2)
  have HOUT:=Lib.hid (out_tick hwf)
  have HQ:Hid (S.q.length≤2000):=Lib.hid HI.out.ql
  have HTK:Hid (S.tick q=(S.set q ⟨(tickM (S.at q).s (S.at q).k).2.1,(tickM (S.at q).s (S.at q).k).2.2,true⟩).send (tickM (S.at q).s (S.at q).k).1):=Lib.hid (by
   unfold Mn.tick
   rw [hupq]
   rfl)
  have HTICK:=Lib.hid ((tick_any ((HS1.out.node q hq2).up hupq) hwf (by omega)).mono (fun e w' hp=>HS1.out.msp HZ.out hq2 hupq hp))
  have HG3:Hid (∀x∈(tickM (S.at q).s (S.at q).k).1,x.frm=(q:Int)∧(x.dst==(q:Int))=false∧0≤x.dst∧x.dst<(n:Int)):=Lib.hid (by
   have h9:=HOUT.out.ms
   rw [HIDJ.out.1,HIDJ.out.2] at h9
   exact send_good h9)
  clear hwf hck HOUT
  generalize tickM (S.at q).s (S.at q).k=p at *
  go_wp2_with fail
  refine HTICK.out.mono ?_
  rintro e w3 ⟨v3,A3,Z3,rfl,hs3,hr3,hm3⟩
  have HS3:=Lib.hid hs3
  have HR3:=Lib.hid hr3
  have HM3:=Lib.hid hm3
  clear hs3 hr3 hm3
  go_wp2_with fail
  refine (send_any HS3.out (by exact HQ.out) v3 _ HR3.out q HG3.out).mono ?_
  rintro e w4 ⟨rfl,hs4⟩
  have HF:Hid (SyP w w4 A Z c n (S.tick q)):=Lib.hid (by
   rw [HTK.out]
   exact SyP.trans (M1.out.trans HM3.out) hs4)
  clear hs4
  go_wp2_with fail
  go_end0
  exact ⟨rfl,HF.out⟩
end
end Go.Proofs.Ytnicaicjgaoolaa
namespace Go.Proofs.Ytnicaicjgaoolaa
open Go.RowKit Go.ChangeMaps Go.WideMaps Go.Maps
set_option maxRecDepth 20000
section
variable {w w' w2:World} {A A' Y Z Z':List Nat} {c n cl:Nat} {S:Mn} {rs ds ls:Nat→Nat} {Xs:Nat→List Nat} {vr vd:Value} {gu:Nat} {qv gv lv:Value}
theorem SyC.callU {i r' l':Nat} {X' T:List Nat} {nd:Nod} (h:SyC w A Y c n S rs ds ls Xs vr vd gu qv gv lv) (hi:i<n) (hm:Mv A A' (Xs i) X' w w') (hn:NodeAt w' A' X' r' (ds i) l' nd) (ha:∀b∈A',b<w'.heap.size)
  (ho2:Only T w' w2) (hT:∀b∈T,b∈Y) (hTt:∀b∈T,∃cur t,(t=4∨t=39)∧w'.heap[b]? = some (.cells cur t (0,0)))
  (hup:w2.heap[gu]? = some (.cells (boolsA ((S.nodes.map Nod.up).set i nd.up)) 4 (0,0))) (hrr:w2.ownsRow 0 39 1 vr n (ptrs (setF rs i r') n)) :
  SyC w2 A' Y c n (S.set i nd) (setF rs i r') ds (setF ls i l') (setF Xs i X') vr vd gu qv gv lv:=by
 have hTX:∀b∈Xs i,b∈A:=(h.node i hi).xA
 have hY:∀b∈Y,b∉Xs i:=h.yx i hi
 have ho:=hm.mv.only
 obtain ⟨vs,g1⟩:=h.gave
 have hnew:∀P:List Nat,(∀b∈P,b∈A)→Dis P (Xs i)→Dis P X':=fun P hP hd b hb hx=>by
  rcases hm.mv.gr b hx with h1 | h1
  ·exact hd b hb h1
  ·have:=h.alt b (hP b hb);omega
 have hTA':∀b∈T,b∈A':=fun b hb=>hm.sub b (h.yA b (hT b hb))
 have hyx':=hnew Y h.yA (h.yx i hi)
 have ha2:∀b∈A',b<w2.heap.size:=fun b hb=>Nat.lt_of_lt_of_le (ha b hb) ho2.size
 have hne:∀{b:Nat} {cs:Array Value} {t:TypeId},w'.heap[b]? = some (.cells cs t (0,0))→t≠4→t≠39→b∉T:=fun {b cs t} hb h4 h39 hm=>by
  obtain ⟨cur,t',ht,hc⟩:=hTt b hm
  rw [hb] at hc
  simp at hc
  rcases ht with rfl | rfl
  ·exact h4 hc.2
  ·exact h39 hc.2
 have hrow:∀{v:Value} {e:TypeId} {k:Nat} {xs:List Value},(∀b,v.ownBlock=some b→b∈Y)→w.ownsRow 0 e 1 v k xs→e≠4→e≠39→w2.ownsRow 0 e 1 v k xs:=fun {v e k xs} hv hr h4 h39=>by
  have h1:=rows_only0 hr ho (fun b hb=>hY b (hv b hb))
  exact rows_only0 h1 ho2 (fun b hb=>hne (rows_at h1 hb) h4 h39)
 have hce:=ho.keeps h.cell (hY _ h.cY)
 have hq1:=h.q.keep ho hTX (fun b hb _ _=>hY b hb) hm.ext (fun b hb=>hb)
 refine ⟨ho2.keeps hce (hne hce (by decide) (by decide)),hrr,hrow h.dY h.dr (by decide) (by decide),?_,fun j hj=>?_,
  hq1.keep ho2 hTA' (fun b _ cur hc=>hne hc (by decide) (by decide)) (Ext.refl _ _) (fun b hb=>hb),⟨vs,hrow h.gY g1 (by decide) (by decide)⟩,(h.long.step ho hTX hm.ext).step ho2 hTA' (Ext.refl _ _),by simp [Mn.set,h.nl],h.n5,h.cY,h.rY,h.dY,h.uY,h.gY,fun j hj=>?_,fun j1 j2 h1 h2 hne=>?_,fun b hb=>hm.sub b (h.yA b hb),ha2⟩
 ·have e:(S.set i nd).nodes.map Nod.up=(S.nodes.map Nod.up).set i nd.up:=by
   unfold Mn.set
   simp only [List.map_set]
  rw [e]
  exact hup
 ·rw [Mn.at_set _ _ _ _ (by rw [h.nl];exact hi)]
  by_cases hji:j=i
  ·subst hji
   rw [if_pos rfl,setF_eq,setF_eq,setF_eq]
   exact hn.keep ho2 hTA' (fun b hb hb2=>hyx' b (hT b hb2) hb) (Ext.refl _ _) (fun b hb=>hb) ha2
  ·rw [if_neg hji,setF_ne _ _ hji,setF_ne _ _ hji,setF_ne _ _ hji]
   exact ((h.node j hj).keep ho hTX (h.xx j i hj hi hji) hm.ext hm.sub ha).keep ho2 hTA' (fun b hb hb2=>h.yx j hj b (hT b hb2) hb) (Ext.refl _ _) (fun b hb=>hb) ha2
 ·by_cases hji:j=i
  ·subst hji
   rw [setF_eq]
   exact hyx'
  ·rw [setF_ne _ _ hji]
   exact h.yx j hj
 ·by_cases e1:j1=i
  ·subst e1
   have e2:j2≠j1:=fun e=>hne e.symm
   rw [setF_eq,setF_ne _ _ e2]
   exact (hnew (Xs j2) (h.node j2 h2).xA (h.xx j2 j1 h2 h1 e2)).symm
  ·by_cases e2:j2=i
   ·subst e2
    rw [setF_eq,setF_ne _ _ e1]
    exact hnew (Xs j1) (h.node j1 h1).xA (h.xx j1 j2 h1 h2 hne)
   ·rw [setF_ne _ _ e1,setF_ne _ _ e2]
    exact h.xx j1 j2 h1 h2 hne
/-- the disk of a node, up or down -/
theorem NodeAt.dk {X:List Nat} {r d l:Nat} {nd:Nod} (h:NodeAt w A X r d l nd):∃D,IsDk w D d nd.k∧∀b∈D,b∈X:=by
 cases hu:nd.up with
 | true =>
  obtain ⟨D,L,R,vl,gv,gn,gm,gh,hn,hX⟩:=h.up hu
  exact ⟨D,hn.wd.dk,fun b hb=>(hX b).2 (.inl hb)⟩
 | false=>exact ⟨X,h.dn hu,fun b hb=>hb⟩
/-- what a call that turned a disk alone leaves -/
theorem mv_disk {D D' X:List Nat} (hD:∀b∈D,b∈X) (hDA:∀b∈D,b∈A) (hm:Moves D D' w w'):Mv A (A++D') X (X++D') w w'∧((∀b∈X,b∈A)→∀b∈X++D',b∈A++D') :=
 ⟨⟨⟨hm.only.mono hD,fun b hb=>by
  rcases List.mem_append.1 hb with h1 | h1
  ·exact .inl h1
  ·exact (hm.gr b h1).imp (hD b) id,fun b hb=>List.mem_append_left _ hb⟩,fun b hb=>by
  rcases List.mem_append.1 hb with h1 | h1
  ·exact .inl h1
  ·rcases hm.gr b h1 with h2 | h2
   ·exact .inl (hDA b h2)
   ·exact .inr h2,fun b hb=>List.mem_append_left _ hb⟩,fun hX b hb=>by
  rcases List.mem_append.1 hb with h1 | h1
  ·exact List.mem_append_left _ (hX b h1)
  ·exact List.mem_append_right _ h1⟩
theorem IsDk.grow {D D2:List Nat} {d:Nat} {k:Dk} (h:IsDk w D d k) (hs:∀b∈D,b∈D2) (hl:∀b∈D2,b<w.heap.size):IsDk w D2 d k:=by
 obtain ⟨⟨mb,h1,h2,h3⟩,h4,h5⟩:=h
 refine ⟨⟨mb,h1,hs mb h2,?_⟩,hs d h4,hl⟩
 cases hf:k.file with
 | none=>rw [hf] at h3;exact h3
 | some p =>
  obtain ⟨l,sf⟩:=p
  rw [hf] at h3
  obtain ⟨c,fb,b0,v,k1,k2,k3,k4,k5,k6⟩:=h3
  exact ⟨c,fb,b0,v,k1,k2,hs fb k3,k4,k5,fun b hb=>hs b (k6 b hb)⟩
/-- behind a crash of a node's disk, and its mark -/
theorem SyC.crashed {i:Nat} {D D':List Nat} {k':Dk} (h:SyC w A Y c n S rs ds ls Xs vr vd gu qv gv lv) (hz:∀b,b∈Z↔b∈Y∨∃i,i<n∧b∈Xs i) (hi:i<n) (hD:∀b∈D,b∈Xs i) (hk:IsDk w' D' (ds i) k') (hm:Moves D D' w w') :
  SyP w (w'.setCell ⟨gu,i,none⟩ (.bool false)) A Z c n (S.set i ⟨(S.at i).s,k',false⟩):=by
 have hXA:=(h.node i hi).xA
 obtain ⟨hmv,hxA⟩:=mv_disk (A:=A) hD (fun b hb=>hXA b (hD b hb)) hm
 have hal:∀b∈A++D',b<w'.heap.size:=fun b hb=>by
  rcases List.mem_append.1 hb with h1 | h1
  ·exact Nat.lt_of_lt_of_le (h.alt b h1) hm.only.size
  ·exact hk.lt b h1
 have hon:Only [gu] w' (w'.setCell ⟨gu,i,none⟩ (.bool false)):=(Only.refl _ _).setCell (by simp) _
 have hguX:gu∉D:=fun hm=>h.yx i hi gu h.uY (hD gu hm)
 have hup:=hm.only.keeps h.up hguX
 have hrr1:=rows_only0 h.rr hm.only (fun b hb hd=>h.yx i hi b (h.rY b hb) (hD b hd))
 have hrr2:(w'.setCell ⟨gu,i,none⟩ (.bool false)).ownsRow 0 39 1 vr n (ptrs (setF rs i (rs i)) n):=by
  rw [setF_self]
  refine rows_only0 hrr1 hon (fun b hb hm=>?_)
  rw [List.mem_singleton.1 hm] at hb
  have:=rows_at hrr1 hb
  rw [hup] at this;simp at this
 have hs:=h.callU (nd:=⟨(S.at i).s,k',false⟩) hi hmv ⟨(fun e=>by cases e),fun _=>hk.grow (fun b hb=>List.mem_append_right _ hb) (fun b hb=>hal b (hxA hXA b hb)),hxA hXA⟩ hal hon (fun b hb=>by rw [List.mem_singleton.1 hb];exact h.uY) (fun b hb=>by rw [List.mem_singleton.1 hb];exact ⟨_,4,.inl rfl,hup⟩)
  (by rw [heap_set hup,boolsA_set]) hrr2 (l':=ls i)
 obtain ⟨Z',hz',hmz⟩:=mv_call (Y:=Y) hi hz hmv
 exact ⟨A++D',Z',⟨_,_,_,_,_,_,_,_,_,_,_,hs,hz'⟩,hmz.trans (Mv.only hon (fun b hb=>by rw [List.mem_singleton.1 hb];exact (hz' gu).2 (.inl h.uY)))⟩
theorem row_setp {e:TypeId} {g k i p:Nat} {f:Nat→Nat} (h:w.ownsRow 0 e 1 (.slice (some ⟨g,0,none⟩) n k) n (ptrs f n)) (hi:i<n):(w.setCell ⟨g,i,none⟩ (ptrV p)).ownsRow 0 e 1 (.slice (some ⟨g,0,none⟩) n k) n (ptrs (setF f i p) n):=by
 obtain ⟨h1,h2⟩:=h
 rcases h2 with ⟨h2,_⟩ | ⟨g',cap,cur,e1,hb,hh,hnc,hm,hs,ht⟩
 ·cases h2
 ·cases e1
  refine ⟨by simp [ptrs],.inr ⟨g,k,_,rfl,Nat.zero_le _,heap_set hh i (ptrV p),hnc,hm,by simpa using hs,?_⟩⟩
  rw [Array.toList_setIfInBounds,List.take_set,ht]
  unfold ptrs
  apply List.ext_getElem?
  intro j
  rw [List.getElem?_set]
  by_cases hj:i=j
  ·subst hj
   simp [hi,setF_eq]
  ·rw [if_neg hj]
   by_cases hjn:j<n
   ·simp [hjn,setF_ne _ _ (Ne.symm hj)]
   ·simp [hjn]
/-- a node is back: its row's pointer, and its mark -/
theorem SyC.backed {i r' l' g k:Nat} {X':List Nat} {nd:Nod} (h:SyC w A Y c n S rs ds ls Xs (.slice (some ⟨g,0,none⟩) n k) vd gu qv gv lv) (hz:∀b,b∈Z↔b∈Y∨∃i,i<n∧b∈Xs i) (hi:i<n) (hm:Mv A A' (Xs i) X' w w') (hn:Nd w' A' X' r' (ds i) l' nd.s nd.k) (hu:nd.up=true) :
  SyP w ((w'.setCell ⟨g,i,none⟩ (ptrV r')).setCell ⟨gu,i,none⟩ (.bool true)) A Z c n (S.set i nd):=by
 have hgY:g∈Y:=h.rY g rfl
 have hue:=hm.mv.only.keeps h.up (h.yx i hi gu h.uY)
 have hr1:=rows_only0 h.rr hm.mv.only (fun b hb=>h.yx i hi b (h.rY b hb))
 have hge:=rows_at hr1 (show (Value.slice (some ⟨g,0,none⟩) n k).ownBlock=some g from rfl)
 have hne:gu≠g:=heap_ne hue hge (by decide)
 have hr2:=row_setp (p:=r') hr1 hi
 have ho1:Only [gu,g] w' (w'.setCell ⟨g,i,none⟩ (ptrV r')):=(Only.refl _ _).setCell (by simp) _
 have ho2:Only [gu,g] w' ((w'.setCell ⟨g,i,none⟩ (ptrV r')).setCell ⟨gu,i,none⟩ (.bool true)):=ho1.setCell (by simp) _
 have hue2:(w'.setCell ⟨g,i,none⟩ (ptrV r')).heap[gu]? = _:=((Only.refl [g] w').setCell (p:=⟨g,i,none⟩) (by simp) (ptrV r')).keeps hue (by simpa using hne)
 have hon:Only [gu] (w'.setCell ⟨g,i,none⟩ (ptrV r')) ((w'.setCell ⟨g,i,none⟩ (ptrV r')).setCell ⟨gu,i,none⟩ (.bool true)):=(Only.refl _ _).setCell (by simp) _
 have hr3:=rows_only0 hr2 hon (fun b hb hm=>by
  cases hb
  exact hne (List.mem_singleton.1 hm).symm)
 have hs:=h.callU (nd:=nd) hi hm ⟨fun _=>hn,(fun e=>by rw [hu] at e;cases e),hn.xA⟩ hn.alt ho2 (fun b hb=>by
   simp at hb
   rcases hb with rfl | rfl
   ·exact h.uY
   ·exact hgY) (fun b hb=>by
   simp at hb
   rcases hb with rfl | rfl
   ·exact ⟨_,4,.inl rfl,hue⟩
   ·exact ⟨_,39,.inr rfl,hge⟩) (by rw [heap_set hue2,boolsA_set,hu]) hr3
 obtain ⟨Z',hz',hmz⟩:=mv_call (Y:=Y) hi hz hm
 exact ⟨A',Z',⟨_,_,_,_,_,_,_,_,_,_,_,hs,hz'⟩,hmz.trans (Mv.only ho2 (fun b hb=>by
  simp at hb
  rcases hb with rfl | rfl
  ·exact (hz' _).2 (.inl h.uY)
  ·exact (hz' _).2 (.inl hgY)))⟩
end
end Go.Proofs.Ytnicaicjgaoolaa
namespace Go.Proofs.Ytnicaicjgaoolaa
open Go.RowKit Go.ChangeMaps Go.WideMaps Go.Maps
set_option maxRecDepth 20000
section
variable {w w' w2:World} {A A' Y Z Z':List Nat} {c n cl:Nat} {S:Mn} {rs ds ls:Nat→Nat} {Xs:Nat→List Nat} {vr vd:Value} {gu:Nat} {qv gv lv:Value}
theorem SyC.sbp {i:Nat} {e:Ending} {p:List Msg×Int×Rp×Dk} (h:SyC w A Y c n S rs ds ls Xs vr vd gu qv gv lv) (hz:∀b,b∈Z↔b∈Y∨∃i,i<n∧b∈Xs i) (hi:i<n) (hu:(S.at i).up=true) (hp:SbP w w' A (Xs i) (rs i) (ds i) (ls i) e p) :
  ∃v A' Z',e = .returned (.tuple #[v,.int .i64 p.2.1])∧Sy w' A' Z' c n (S.set i ⟨p.2.2.1,p.2.2.2,true⟩)∧MsRow w' A' v p.1∧Mv A A' Z Z' w w':=by
 obtain ⟨v,A',X',he,hn,ho,hm,hv⟩:=hp
 obtain ⟨Z',hz',hmz⟩:=mv_call (Y:=Y) hi hz hm
 have hs:=h.call (nd:=⟨p.2.2.1,p.2.2.2,true⟩) hi hm ⟨fun _=>hn,(fun e=>by cases e),hn.xA⟩ hu.symm hn.alt
 exact ⟨v,A',Z',he,⟨Y,rs,ds,ls,setF Xs i X',vr,vd,gu,qv,gv,lv,hs,hz'⟩,ho.row hv,hmz⟩
theorem SyC.setg {v':Value} {vs:List Value} (h:SyC w A Y c n S rs ds ls Xs vr vd gu qv gv lv) (hz:∀b,b∈Z↔b∈Y∨∃i,i<n∧b∈Xs i) (hr:w'.ownsRow 0 29 1 v' (S.gn+1) vs) (hoT:Only gv.ownBlock.toList w w') (hf:∀k,v'.ownBlock=some k→gv.ownBlock=some k∨w.heap.size≤k) :
  SyP w (w'.setCell ⟨c,4,none⟩ v') A Z c n { S with gn:=S.gn+1 }:=by
 obtain ⟨vs0,hg0⟩:=h.gave
 have hTY:∀b∈gv.ownBlock.toList,b∈Y:=fun b hb=>h.gY b (by simpa using hb)
 have hTA:∀b∈gv.ownBlock.toList,b∈A:=fun b hb=>h.yA b (hTY b hb)
 have hne:∀{b:Nat} {cs:Array Value} {t:TypeId},w.heap[b]? = some (.cells cs t (0,0))→t≠29→b∉gv.ownBlock.toList:=fun {b cs t} hb ht hm=>by
  have:=rows_at hg0 (show gv.ownBlock=some b by simpa using hm)
  rw [hb] at this
  simp at this
  exact ht this
 have hlt:∀b,v'.ownBlock=some b→b<w'.heap.size:=fun b hb=>(World.ownsRow.lt hr b hb).2
 have hext:Ext A (A++v'.ownBlock.toList) w:=fun b hb=>by
  rcases List.mem_append.1 hb with h1 | h1
  ·exact .inl h1
  ·rcases hf b (by simpa using h1) with h2 | h2
   ·exact .inl (h.yA b (h.gY b h2))
   ·exact .inr h2
 have hsub:∀b∈A,b∈A++v'.ownBlock.toList:=fun b hb=>List.mem_append_left _ hb
 have ha:∀b∈A++v'.ownBlock.toList,b<w'.heap.size:=fun b hb=>by
  rcases List.mem_append.1 hb with h1 | h1
  ·exact Nat.lt_of_lt_of_le (h.alt b h1) hoT.size
  ·exact hlt b (by simpa using h1)
 have hc1:=hoT.keeps h.cell (hne h.cell (by decide))
 have hon:Only [c] w' (w'.setCell ⟨c,4,none⟩ v'):=(Only.refl _ _).setCell (by simp) _
 have hc2:(w'.setCell ⟨c,4,none⟩ v').heap[c]? = some (.cells #[vr,vd,.slice (some ⟨gu,0,none⟩) n n,qv,v',lv,.bool S.bad] 38 (0,0)):=by rw [heap_set hc1];rfl
 have hrow2:∀{v:Value} {e:TypeId} {k m:Nat} {xs:List Value},w'.ownsRow 0 e k v m xs→e≠38→(w'.setCell ⟨c,4,none⟩ v').ownsRow 0 e k v m xs:=fun {v e k m xs} h1 he2=>by
  refine rows_only0 h1 hon (fun b hb hm=>?_)
  rw [List.mem_singleton.1 hm] at hb
  have:=rows_at h1 hb
  rw [hc1] at this
  simp at this
  exact he2 this.symm
 have hrow1:∀{v:Value} {e:TypeId} {k m:Nat} {xs:List Value},w.ownsRow 0 e k v m xs→e≠29→w'.ownsRow 0 e k v m xs:=fun {v e k m xs} h1 he=>rows_only0 h1 hoT (fun b hb=>hne (rows_at h1 hb) he)
 have hupT:=hoT.keeps h.up (hne h.up (by decide))
 have hcA':c∈A++v'.ownBlock.toList:=hsub c (h.yA c h.cY)
 have hyn:∀b∈Y++v'.ownBlock.toList,b∈Y∨w.heap.size≤b:=fun b hb=>by
  rcases List.mem_append.1 hb with h1 | h1
  ·exact .inl h1
  ·rcases hf b (by simpa using h1) with h2 | h2
   ·exact .inl (h.gY b h2)
   ·exact .inr h2
 have hYX:∀i,i<n→Dis (Y++v'.ownBlock.toList) (Xs i):=fun i hi b hb hx=>by
  rcases hyn b hb with h1 | h1
  ·exact h.yx i hi b h1 hx
  ·have:=h.alt b ((h.node i hi).xA b hx);omega
 have hcX:∀i,i<n→∀b∈Xs i,b∉[c]:=fun i hi b hb hm=>by
  rw [List.mem_singleton.1 hm] at hb
  exact h.yx i hi c h.cY hb
 have ha2:∀b∈A++v'.ownBlock.toList,b<(w'.setCell ⟨c,4,none⟩ v').heap.size:=fun b hb=>by simpa using ha b hb
 have hq1:=h.q.keep (Y':=Y++v'.ownBlock.toList) hoT hTA (fun b _ cur hc=>hne hc (by decide)) hext (fun b hb=>List.mem_append_left _ hb)
 refine ⟨A++v'.ownBlock.toList,(Y++v'.ownBlock.toList)++Z,⟨Y++v'.ownBlock.toList,rs,ds,ls,Xs,vr,vd,gu,qv,v',lv,⟨hc2,hrow2 (hrow1 h.rr (by decide)) (by decide),hrow2 (hrow1 h.dr (by decide)) (by decide),?_,fun i hi=>?_,hq1.keep hon (fun b hb=>by rw [List.mem_singleton.1 hb];exact hcA') (fun b _ cur hcur hm=>by
   rw [List.mem_singleton.1 hm,hc1] at hcur
   simp at hcur) (Ext.refl _ _) (fun b hb=>hb),⟨vs,hrow2 hr (by decide)⟩,?_,h.nl,h.n5,List.mem_append_left _ h.cY,fun b hb=>List.mem_append_left _ (h.rY b hb),fun b hb=>List.mem_append_left _ (h.dY b hb),List.mem_append_left _ h.uY,fun b hb=>List.mem_append_right _ (by simp [hb]),hYX,h.xx,fun b hb=>?_,ha2⟩,fun b=>?_⟩,?_⟩
 ·exact hon.keeps hupT (fun hm=>by
   rw [List.mem_singleton.1 hm,hc1] at hupT
   simp at hupT)
 ·have h1:=(h.node i hi).keep hoT hTA (fun b hb hm=>h.yx i hi b (hTY b hm) hb) hext hsub ha
  exact h1.keep hon (fun b hb=>by rw [List.mem_singleton.1 hb];exact hcA') (hcX i hi) (Ext.refl _ _) (fun b hb=>hb) ha2
 ·exact (h.long.step hoT hTA hext).step hon (fun b hb=>by rw [List.mem_singleton.1 hb];exact hcA') (Ext.refl _ _)
 ·rcases List.mem_append.1 hb with h1 | h1
  ·exact hsub b (h.yA b h1)
  ·exact List.mem_append_right _ h1
 ·rw [List.mem_append,hz b]
  constructor
  ·rintro (h1 | h1 | h1)
   ·exact .inl h1
   ·exact .inl (List.mem_append_left _ h1)
   ·exact .inr h1
  ·rintro (h1 | h1)
   ·exact .inl h1
   ·exact .inr (.inr h1)
 ·have ho5:Only Z w (w'.setCell ⟨c,4,none⟩ v'):=(hoT.mono (fun b hb=>(hz b).2 (.inl (hTY b hb)))).trans (hon.mono (fun b hb=>by rw [List.mem_singleton.1 hb];exact (hz c).2 (.inl h.cY)))
  refine ⟨⟨ho5,fun b hb=>?_,fun b hb=>List.mem_append_right _ hb⟩,hext,hsub⟩
  rcases List.mem_append.1 hb with h1 | h1
  ·rcases hyn b h1 with h2 | h2
   ·exact .inl ((hz b).2 (.inl h2))
   ·exact .inr h2
  ·exact .inl h1
end
end Go.Proofs.Ytnicaicjgaoolaa
namespace Go.Proofs.Ytnicaicjgaoolaa
open Go.RowKit Go.ChangeMaps Go.WideMaps Go.Maps
set_option maxRecDepth 20000
/-- which message an act speaks of -/
def actK (K:Int) (n:Nat):Nat:=((bits .and .i64 K 65535).tmod (n:Int)).toNat
theorem actK_ok (K:Int) (n:Nat) (hn:1≤n):(bits .and .i64 K 65535).tmod (n:Int)=((actK K n:Nat):Int)∧actK K n<n:=by
 obtain ⟨x,h1,h2⟩:=and_mask K 65535 (by omega)
 have h1:bits .and .i64 K 65535=(x:Int):=h1
 unfold actK
 rw [h1,←Int.ofNat_tmod,Int.toNat_natCast]
 exact ⟨rfl,Nat.mod_lt _ (by omega)⟩
def Mn.lose (S:Mn) (K:Int):Mn:={ S with q:=S.q.take (actK K S.q.length)++S.q.drop (actK K S.q.length+1)}
def Mn.fetch (S:Mn) (K:Int):Mn:=match S.q[actK K S.q.length]? with
 | none=>S
 | some m=>(S.lose K).bring m
def Mn.twice (S:Mn) (K:Int):Mn:=match S.q[actK K S.q.length]? with
 | none=>S
 | some m=>{ S with q:=addQ S.q m }
theorem lose_nil {S:Mn} (K:Int) (h:S.q.length=0):S.lose K=S:=by
 obtain ⟨a,q,b,c,d⟩:=S
 cases q with
 | nil=>simp [Mn.lose]
 | cons m q=>simp at h
theorem fetch_nil {S:Mn} (K:Int) (h:S.q.length=0):S.fetch K=S:=by
 unfold Mn.fetch
 rw [List.length_eq_zero_iff.1 h]
 simp
theorem twice_nil {S:Mn} (K:Int) (h:S.q.length=0):S.twice K=S:=by
 unfold Mn.twice
 rw [List.length_eq_zero_iff.1 h]
 simp
section
variable {w w':World} {A A' Y Z Z':List Nat} {c n cl:Nat} {S:Mn}
theorem IsQ.at {v:Value} {ms:List Msg} (h:IsQ w A Y v ms) (j:Nat) (hj:j<ms.length):∃g off c mv mu,v = .slice (some ⟨g,off,none⟩) ms.length c∧ms.length≤c∧w.cell? ⟨g,off+j*5,none⟩=some (.int .i64 ms[j].frm)∧w.cell? ⟨g,off+j*5+1,none⟩=some (.int .i64 ms[j].dst)∧w.cell? ⟨g,off+j*5+2,none⟩=some (.int .i64 ms[j].kind)∧w.cell? ⟨g,off+j*5+3,none⟩=some mv∧w.cell? ⟨g,off+j*5+4,none⟩=some mu∧IsMsg w A ms[j] mv mu:=by
 rcases h with ⟨rfl,rfl⟩ | ⟨g,off,c,cur,h1,h2,h3,h4,h5,h6,h7⟩
 ·cases hj
 ·obtain ⟨v,u,k1,k2,k3,k4,k5,k6⟩:=h7 j hj
  have q:(off+j)*5=off*5+j*5:=by omega
  rw [q] at k1 k2 k3 k4 k5
  exact ⟨g,off*5,c,v,u,h1,h2,by rw [cell_heap h5];exact k1,by rw [cell_heap h5];exact k2,by rw [cell_heap h5];exact k3,by rw [cell_heap h5];exact k4,by rw [cell_heap h5];exact k5,k6⟩
theorem SInv.lose (h:SInv n cl S) (K:Int):SInv n cl (S.lose K):=⟨h.nl,h.id,h.wf,fun m hm=>h.q m (by
 rcases List.mem_append.1 hm with h1 | h1
 ·exact List.mem_of_mem_take h1
 ·exact List.mem_of_mem_drop h1),by
 have:=h.ql
 show (S.q.take _++S.q.drop _).length≤2000
 simp only [List.length_append,List.length_take,List.length_drop];omega⟩
end
end Go.Proofs.Ytnicaicjgaoolaa
namespace Go.Proofs.Ytnicaicjgaoolaa
open Go.RowKit Go.ChangeMaps Go.WideMaps Go.Maps
set_option maxRecDepth 20000
section
variable {w w':World} {A A' Y Y':List Nat} {v:Value} {ms:List Msg}
theorem QAt.less {cur:Array Value} {i:Nat} {m:Msg} (h:QAt w A' cur i m) (hs:∀b∈A,b∈A'):QAt w A cur i m:=by
 obtain ⟨v,u,h1,h2,h3,h4,h5,h6⟩:=h
 exact ⟨v,u,h1,h2,h3,h4,h5,h6.less hs⟩
theorem IsQ.less (h:IsQ w A' Y v ms) (hs:∀b∈A,b∈A') (hY:∀b∈Y,b∈Y'):IsQ w A Y' v ms:=by
 rcases h with h | ⟨g,off,c,cur,h1,h2,h3,h4,h5,h6,h7⟩
 ·exact .inl h
 ·exact .inr ⟨g,off,c,cur,h1,h2,h3,hY g h4,h5,h6,fun i hi=>(h7 i hi).less hs⟩
/-- both appends of 'all but one' -/
structure LoseP (w W1:World) (A Y:List Nat) (ty ty2:TypeId) (p:Addr) (n c:Nat) (ms:List Msg) (j:Nat):Prop where
 ex:∃p1 n1 c1 W2,(Builtin.append_ #[35,35] ty #[.slice (some ⟨w.heap.size,0,none⟩) 0 0,.slice (some p) j c]).run Try.prog W1 = .ok (.slice (some p1) n1 c1) W2∧Only [w.heap.size] W1 W2 ∧
  ∃p2 n2 c2 W3,(Builtin.append_ #[35,35] ty2 #[.slice (some p1) n1 c1,.slice (some (if c=j+1 then p else p.add ((j+1)*5))) (n - (j+1)) (c - (j+1))]).run Try.prog W2 = .ok (.slice (some p2) n2 c2) W3∧Only [] w W3∧QP w W3 A Y (.slice (some p2) n2 c2) (ms.take j++ms.drop (j+1))
theorem lose_q {p:Addr} {n c:Nat} (h:IsQ w A Y (.slice (some p) n c) ms) (hYA:∀b∈Y,b∈A) (hA:∀b∈A,b<w.heap.size) (j:Nat) (hj:j<n) (hb:ms.length≤2000) (ty ty2:TypeId) (cs:Array Value) :
  LoseP w (w.alloc (.cells cs 51)) A Y ty ty2 p n c ms j:=by
 have hb1:Below w.heap.size w (w.alloc (.cells cs 51)):=(Below.refl _ _).alloc (Nat.le_refl _) _
 have hnew:=heap_new w (.cells cs 51)
 have hsz:(w.alloc (.cells cs 51)).heap.size=w.heap.size+1:=by simp
 have hn:n=ms.length:=by
  rcases h with ⟨h,_⟩ | ⟨g,off,c',cur,h1,_⟩
  ·cases h
  ·simp only [Value.slice.injEq] at h1;exact h1.2.1
 generalize w.alloc (.cells cs 51)=W1 at *
 have hx1:Ext A (A++[w.heap.size]) w:=fun b hb=>by
  rcases List.mem_append.1 hb with h | h
  ·exact .inl h
  ·exact .inr (by rw [List.mem_singleton.1 h];exact Nat.le_refl _)
 have hq1:IsQ W1 (A++[w.heap.size]) Y (.slice (some p) n c) ms:=h.keep (Only.ofBelow hb1 []) (fun b hb=>by cases hb) (fun b _ _ _=>by simp) hx1 (fun b hb=>hb)
 have hr0:IsQ W1 (A++[w.heap.size]) [w.heap.size] (.slice (some ⟨w.heap.size,0,none⟩) 0 0) []:=.inr ⟨w.heap.size,0,0,cs,by simp,Nat.le_refl _,by omega,by simp,hnew,by omega,fun i hi=>by cases hi⟩
 have hA1:∀b∈A++[w.heap.size],b<W1.heap.size:=fun b hb=>by
  rw [hsz]
  rcases List.mem_append.1 hb with h | h
  ·have:=hA b h;omega
  ·rw [List.mem_singleton.1 h];omega
 have hlt:∀k,(ms.take k).length≤2000:=fun k=>by rw [List.length_take];omega
 obtain ⟨p1,n1,c1,W2,hr1,g1,hg1,ho1,hs1⟩:=grow_q hr0 (hq1.take j (by omega)) (fun b hb=>List.mem_append_right _ hb) hA1 (by have:=hlt j;simp only [List.length_nil];omega) ty
 have hs1:g1=w.heap.size∨W1.heap.size≤g1:=hs1
 refine ⟨p1,n1,c1,W2,hr1,ho1,?_⟩
 have hx2:Ext (A++[w.heap.size]) ((A++[w.heap.size])++[g1]) W1:=fun b hb=>by
  rcases List.mem_append.1 hb with h | h
  ·exact .inl h
  ·rw [List.mem_singleton.1 h]
   rcases hs1 with e | e
   ·exact .inl (by rw [e];simp)
   ·exact .inr e
 have hYH:∀b∈Y,b∉[w.heap.size]:=fun b hb hm=>by
  have:=hA b (hYA b hb)
  rw [List.mem_singleton.1 hm] at this;omega
 have hq2:IsQ W2 ((A++[w.heap.size])++[g1]) Y (.slice (some p) n c) ms:=hq1.keep ho1 (fun b hb=>List.mem_append_right _ hb) (fun b hb _ _=>hYH b hb) hx2 (fun b hb=>hb)
 obtain ⟨cur1,ht1⟩:=hg1.typ
 have hA2:∀b∈(A++[w.heap.size])++[g1],b<W2.heap.size:=fun b hb=>by
  rcases List.mem_append.1 hb with h | h
  ·exact Nat.lt_of_lt_of_le (hA1 b h) ho1.size
  ·rw [List.mem_singleton.1 h];exact lt_of_heap ht1
 obtain ⟨p2,n2,c2,W3,hr2,g2,hg2,ho2,hs2⟩:=grow_q hg1.q (hq2.drop (j+1) (by omega)) (fun b hb=>List.mem_append_right _ hb) hA2 (by
  simp only [List.nil_append,List.length_take,List.length_drop];omega) ty2
 have e1:=List.mem_singleton.1 (hg1.q.inY.1)
 rw [e1] at ho2 hs2
 have hon:Only [] w W3:=(((Only.ofBelow hb1 [w.heap.size,g1]).trans (ho1.mono (fun b hb=>by simp at hb;simp [hb]))).trans (ho2.mono (fun b hb=>by simp at hb;simp [hb]))).cut (fun b hb hlt2=>by
  simp only [List.mem_cons,List.not_mem_nil,or_false] at hb
  rcases hb with rfl | rfl
  ·omega
  ·rcases hs1 with e | e<;>omega)
 have hg1n:w.heap.size≤g1:=by rcases hs1 with e | e<;>omega
 have hg2n:w.heap.size≤g2:=by
  rcases hs2 with e | e
  ·omega
  ·have:=ho1.size;omega
 obtain ⟨cur2,ht2⟩:=hg2.typ
 have hx9:Ext A (A++[g2]) w:=fun b hb=>by
  rcases List.mem_append.1 hb with h | h
  ·exact .inl h
  ·exact .inr (by rw [List.mem_singleton.1 h];exact hg2n)
 refine ⟨p2,n2,c2,W3,hr2,hon,A++[g2],Y++[g2],?_,⟨⟨hon.mono (fun b hb=>by cases hb),fun b hb=>?_,fun b hb=>List.mem_append_left _ hb⟩,hx9,fun b hb=>List.mem_append_left _ hb⟩,fun b hb=>?_,fun b hb=>?_,fun b hb=>?_,[],hon,(fun b hb=>by cases hb)⟩
 ·have:=hg2.q
  rw [List.nil_append] at this
  exact this.less (fun b hb=>by
   rcases List.mem_append.1 hb with h | h
   ·simp [h]
   ·simp [List.mem_singleton.1 h]) (fun b hb=>List.mem_append_right _ hb)
 ·rcases List.mem_append.1 hb with h | h
  ·exact .inl h
  ·exact .inr (by rw [List.mem_singleton.1 h];exact hg2n)
 ·rcases List.mem_append.1 hb with h | h
  ·exact Nat.lt_of_lt_of_le (hA b h) hon.size
  ·rw [List.mem_singleton.1 h];exact lt_of_heap ht2
 ·rcases List.mem_append.1 hb with h | h
  ·exact List.mem_append_left _ (hYA b h)
  ·exact List.mem_append_right _ h
 ·rcases List.mem_append.1 hb with h | h
  ·exact .inl h
  ·rw [List.mem_singleton.1 h]
   exact .inr ⟨hg2n,cur2,ht2⟩
theorem wpList_app35 {ops:Array Oper} {rest:List Oper} {o:Oper} {a:Act} {Q:Exit→Act→World→Prop} (hgd:o.guard=none) (sx x:Operand)
  (ho:o.op = .call { callee:=.builtin .append,args:=#[sx,x],argTypes:=#[35,35]}) {va vb v':Value}
  (hs:a.eval sx=va) (hx:a.eval x=vb) (hr:(Builtin.append_ #[35,35] o.type #[va,vb]).run Try.prog w = .ok v' w')
  (hk:wpList Try.prog ops Q rest (a.put o.dst v') w'):wpList Try.prog ops Q (o::rest) a w:=by
 refine wpList_plain hgd fun K hK=>?_
 unfold Oper.wp
 simp [execOp,ho,resolve,invoke,builtin,hs,hx,hr,Result.andThen]
 exact hK _ _ hk
end
end Go.Proofs.Ytnicaicjgaoolaa
namespace Go.Proofs.Ytnicaicjgaoolaa
open Go.RowKit Go.ChangeMaps Go.WideMaps Go.Maps
set_option maxRecDepth 20000
theorem recs_step (l:List Ent) (j:Nat) (h:j<l.length):recs (l.take (j+1))=if ((l.map Ent.bs).getD j []).length=0 then recs (l.take j) else recs (l.take j)++[(l.map Ent.bs).getD j []]:=by
 have e2:(l.map Ent.bs).getD j []=l[j].bs:=by simp [List.getD,h]
 rw [e2,←List.take_append_getElem h]
 unfold recs
 rw [List.filter_append,List.map_append]
 generalize l[j]=x
 obtain ⟨t,bs⟩:=x
 cases bs<;>simp
theorem recs_le (l:List Ent):(recs l).length≤l.length:=by
 unfold recs
 rw [List.length_map]
 exact List.length_filter_le _ _
section
variable {w w':World} {A A' X X':List Nat} {r d l:Nat} {s s':Rp} {k k':Dk}
set_option maxHeartbeats 4000000 in
theorem agreed_any (h:Nd w A X r d l s k) (hw:Wf s k):Calls Try.prog 12 #[.pointer (some ⟨r,0,none⟩)] w fun e w'=>∃v,e = .returned v∧OwnL w' w.heap.size v (agreedM s)∧Below w.heap.size w w':=by
 have hlogb:=hw.logb
 have hagr:=hw.agr
 have HRL:=Lib.hid hw.recl
 obtain ⟨ao,c,hlr⟩:=h.logR
 have hc8:=hlr.c8
 have hle:=hlr.le
 have hcm:=hlr.cm
 have HL:=Lib.hid hlr
 obtain ⟨vl,gv,gn,gm,gh,hcell⟩:=h.cells
 have hc9:w.cell? ⟨r,9,none⟩=some (.int .i64 (s.agreed:Int)):=by rw [cell_heap hcell];rfl
 have HAM:Hid (agreedM s=recs (s.log.take s.agreed)):=Lib.hid rfl
 have HST:=Lib.hid (fun j (hj:j<s.log.length)=>recs_step s.log j hj)
 have HRC:=Lib.hid (fun j=>recs_le (s.log.take j))
 clear hlr hcell h hw
 generalize s.agreed=m at *
 go_enter Try.func12,Try.ntmps12
 go_upto_region 2 with (fail)
 go_cut [14,15,16] (fun v n i wx=>v = .slice ao m c∧n = .int .i64 (m:Int)∧i = .int .i64 0∧∃nq,wx=w.drewN nq)
 case first =>
  cases ao with
  | none =>
   have h0:=HL.out.nil rfl
   subst h0
   have hm0:m=0:=by omega
   subst hm0
   have hl0:s.log.length=0:=by omega
   rw [hl0] at hc8
   go_quiet (fail)
   go_wp2_with fail
   go_meet
   exact ⟨rfl,rfl,rfl,nq,rfl⟩
  | some p =>
   obtain ⟨g,rfl⟩:=HL.out.form p rfl
   have q1:(m:Int)≤(c:Int):=by omega
   go_quiet (fail)
   go_wp2_with fail
   go_meet
   exact ⟨rfl,rfl,rfl,nq,rfl⟩
 case rest =>
 obtain ⟨rfl,rfl,rfl,nq,rfl⟩:=hcut
 have HBQ:Hid (Below w.heap.size w (w.drewN nq)):=Lib.hid (below_drewN w nq)
 go_wp2_with fail
 go_loopw [3,16] (fun v i wr=>∃j:Nat,j≤m∧i = .int .i64 (j:Int)∧OwnL wr w.heap.size v (recs (s.log.take j))∧Below w.heap.size w wr) (fun _ i _=>m - (intOf i).toNat)
 case atStart=>exact ⟨0,Nat.zero_le _,rfl,by simpa [recs] using OwnL.nil _ _,HBQ.out⟩
 case round =>
  obtain ⟨j,hj,rfl,hB,hBV⟩:=hrel
  have HBB:=Lib.hid hB
  have HBV:=Lib.hid hBV
  clear hB hBV
  by_cases hlt:j<m
  ·have hjl:j<s.log.length:=by omega
   obtain ⟨g,rfl⟩:∃g,ao=some ⟨g,0,none⟩:=by
    cases ao with
    | none=>have:=HL.out.nil rfl;omega
    | some p=>obtain ⟨g,rfl⟩:=HL.out.form p rfl;exact ⟨g,rfl⟩
   obtain ⟨u,hu1,hu2,him⟩:=HL.out.at_ j hjl g rfl
   have HSTJ:=Lib.hid (HST.out j hjl)
   have hblen:((s.log.map Ent.bs).getD j []).length≤8000:=by
    have e:(s.log.map Ent.bs).getD j []=s.log[j].bs:=by simp [List.getD,hjl]
    rw [e]
    exact HRL.out _ (List.getElem_mem _)
   obtain ⟨au,cu,e,_⟩:=id him
   subst e
   generalize hbs:(s.log.map Ent.bs).getD j []=bs at *
   generalize hbl:bs.length=bl at *
   have HBL:Hid (bs.length=bl):=Lib.hid hbl
   have HIB:Hid (∀W',Below w.heap.size w W'→IsB W' au bl cu bs):=Lib.hid (fun W' hb=>by
    obtain ⟨ao',c',e,h1,_⟩:=him.below hb
    cases e
    rw [hbl] at h1
    exact h1)
   generalize (s.log.map Ent.term).getD j 0=t at *
   have hu1:=cell_later HBV.out hu1
   have hu2:=cell_later HBV.out hu2
   have q5:(j:Int)<(m:Int):=by omega
   have q6:IntKind.i64.wrap ((j:Int)+1)=(j:Int)+1:=IntWalk.i64_in _ (by omega)
   have HRJ:Hid ((recs (s.log.take j)).length+1≤1000000):=Lib.hid (by have:=HRC.out j;rw [List.length_take] at this;omega)
   have HE5:=Lib.hid (heap_new wr (.cells #[.int .i64 t,.slice au bl cu] 68))
   have HB5:=Lib.hid (HBB.out.below ((Below.refl _ _).alloc (Nat.le_refl _) (.cells #[.int .i64 t,.slice au bl cu] 68)))
   have HBV5:=Lib.hid (HBV.out.alloc HBV.out.size (.cells #[.int .i64 t,.slice au bl cu] 68))
   clear him
   go_upto_region 5 with (fail)
   generalize hW5:wr.alloc (.cells #[.int .i64 t,.slice au bl cu] 68)=W5 at *
   clear hW5 hu1 hu2
   generalize wr.heap.size=E at *
   have hk1:W5.cell? ⟨E,1,none⟩=some (.slice au bl cu):=(cell_heap HE5.out 1).trans rfl
   by_cases hb0:bl=0
   ·subst hb0
    have HS2:Hid (recs (s.log.take (j+1))=recs (s.log.take j)):=Lib.hid (by rw [HSTJ.out,if_pos rfl])
    go_wp2_with fail
    go_roundw
    case rel=>exact ⟨j+1,by omega,rfl,by rw [HS2.out];exact HB5.out,HBV5.out⟩
    case measure=>simp [intOf];omega
   ·have HS2:Hid (recs (s.log.take (j+1))=recs (s.log.take j)++[bs]):=Lib.hid (by rw [HSTJ.out,if_neg hb0])
    have q7:(0:Int)<(bl:Int):=by omega
    generalize hrj:recs (s.log.take j)=rj at *
    obtain ⟨al,cl,evb,_⟩:=HB5.out.shape
    subst evb
    go_wp2_with fail
    refine (F.clone_any au bl cu bs _ (HIB.out _ HBV5.out) (by omega)).mono ?_
    rintro e W6 ⟨v5,rfl,ho5,hb5⟩
    have HB6:=Lib.hid (HB5.out.below hb5)
    have HBV6:=Lib.hid (HBV5.out.trans (hb5.mono HBV5.out.size))
    have HV6:=Lib.hid (ho5.mono HBV5.out.size)
    obtain ⟨a5,c5,e5,_⟩:=id HV6.out.isB
    rw [HBL.out] at e5
    subst e5
    clear ho5 hb5
    go_wp2_with (at_builtin;refine wpList_append_own_sl rfl (.tmp 24) (.tmp 28) rfl w.heap.size (.slice al rj.length cl) rj (by rfl) (HB6.out.below ((Below.refl _ _).alloc (Nat.le_refl _) _)) W6.heap.size (.slice a5 bl c5) bs (by rfl) ((cell_heap (heap_new W6 _) 0).trans rfl) (HV6.out.alloc _) HRJ.out (HBV6.out.alloc HBV6.out.size _).size ?_)
    intro a7 c7 W7 ho7 hb7 hg7
    have HO7:=Lib.hid ho7
    have HB7:=Lib.hid ((HBV6.out.alloc HBV6.out.size _).trans hb7)
    clear ho7 hb7 hg7
    go_wp2_with fail
    go_roundw
    case rel=>exact ⟨j+1,by omega,rfl,by rw [HS2.out];exact HO7.out,HB7.out⟩
    case measure=>simp [intOf];omega
  ·obtain rfl:j=m:=by omega
   go_wp2_with fail
   go_ret
   exact ⟨_,rfl,by rw [HAM.out];exact HBB.out,HBV.out⟩
end
end Go.Proofs.Ytnicaicjgaoolaa
