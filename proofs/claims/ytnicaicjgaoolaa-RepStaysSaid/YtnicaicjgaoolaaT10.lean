/-
  What the proof of the law leans on: contracts of the program's functions, one behind another. No condition.
-/
import Derived.Test.YtnicaicjgaoolaaT9
import Derived.Test.YtnicaicjgaoolaaT3
set_option linter.unusedVariables false
set_option linter.unusedSimpArgs false
namespace Go.Proofs.Ytnicaicjgaoolaa
open Go.RowKit Go.ChangeMaps Go.WideMaps Go.Maps
set_option maxRecDepth 20000
structure LogR (w:World) (A:List Nat) (r:Nat) (es:List Ent) (ao:Option Addr) (c:Nat):Prop where
 c8:w.cell? ⟨r,8,none⟩=some (.slice ao es.length c)
 le:es.length≤c
 cm:c≤9223372036854775807
 nil:ao=none→c=0
 form:∀p,ao=some p→∃g,p=⟨g,0,none⟩
 at_:∀i,i<es.length→∀g,ao=some ⟨g,0,none⟩→∃u,w.cell? ⟨g,i*2,none⟩=some (.int .i64 ((es.map Ent.term).getD i 0))∧w.cell? ⟨g,i*2+1,none⟩=some u∧Imm w A u ((es.map Ent.bs).getD i [])
section
variable {w w':World} {A A' X X':List Nat} {r d l:Nat} {s s':Rp} {k k':Dk}
theorem Nd.logR (h:Nd w A X r d l s k):∃ao c,LogR w A r s.log ao c:=by
 obtain ⟨D,L,R,vl,gv,gn,gm,gh,h,hX⟩:=h
 obtain ⟨ao,c,e,h1,h2,h3,h4⟩:=isE_len h.log
 refine ⟨ao,c,by rw [cell_heap h.cell,←e];rfl,h1,h2,h3,h4,fun i hi g hg=>?_⟩
 rcases h.log with ⟨_,h0⟩ | ⟨g',c',cur,e',_,_,_,h4,h5⟩
 ·rw [h0] at hi;cases hi
 ·rw [e] at e'
  subst hg
  cases e'
  obtain ⟨u,k1,k2,k3⟩:=h5 i hi
  refine ⟨u,?_,?_,?_⟩
  ·rw [cell_heap h4,Nat.mul_comm,k1];simp [List.getD,hi]
  ·rw [cell_heap h4,Nat.mul_comm,k2]
  ·have e:(s.log.map Ent.bs).getD i []=s.log[i].bs:=by simp [List.getD,hi]
   rw [e];exact k3
def openC (s:Rp) (j:Nat):Nat:=(((s.log.drop s.agreed).take j).filter fun x=>x.term==s.term && !x.bs.isEmpty).length
theorem openC_step (s:Rp) (j:Nat) (h:s.agreed+j<s.log.length):openC s (j+1)=openC s j+(if ((s.log.map Ent.term).getD (s.agreed+j) 0==s.term)=true∧((s.log.map Ent.bs).getD (s.agreed+j) []).length≠0 then 1 else 0):=by
 have hl:j<(s.log.drop s.agreed).length:=by rw [List.length_drop];omega
 have e1:(s.log.map Ent.term).getD (s.agreed+j) 0=(s.log.drop s.agreed)[j].term:=by simp [List.getD,h]
 have e2:(s.log.map Ent.bs).getD (s.agreed+j) []=(s.log.drop s.agreed)[j].bs:=by simp [List.getD,h]
 rw [e1,e2]
 unfold openC
 rw [←List.take_append_getElem hl,List.filter_append,List.length_append]
 generalize (s.log.drop s.agreed)[j]=x
 obtain ⟨t,bs⟩:=x
 cases bs<;>by_cases ht:(t==s.term)=true<;>simp_all
theorem openC_all (s:Rp):openC s (s.log.length - s.agreed)=openM s:=by
 unfold openC openM
 rw [List.take_of_length_le (by rw [List.length_drop];exact Nat.le_refl _)]
theorem openC_le (s:Rp) (j:Nat):openC s j≤s.log.length:=by
 unfold openC
 refine Nat.le_trans (List.length_filter_le _ _) ?_
 rw [List.length_take,List.length_drop];omega
set_option maxHeartbeats 1000000 in
theorem open_any (h:Nd w A X r d l s k) (ha:s.agreed≤s.log.length) (hb:s.log.length≤1000000):Calls Try.prog 27 #[.pointer (some ⟨r,0,none⟩)] w fun e w'=>e = .returned (.int .i64 (openM s:Int))∧Below w.heap.size w w':=by
 obtain ⟨ao,c,hlr⟩:=h.logR
 have hc8:=hlr.c8
 have hle:=hlr.le
 have hcm:=hlr.cm
 obtain ⟨vl,gv,gn,gm,gh,hcell⟩:=h.cells
 have hc9:w.cell? ⟨r,9,none⟩=some (.int .i64 (s.agreed:Int)):=by rw [cell_heap hcell];rfl
 have hc6:w.cell? ⟨r,6,none⟩=some (.int .i64 s.term):=by rw [cell_heap hcell];rfl
 have HL:=Lib.hid hlr
 have HALL:=Lib.hid (openC_all s)
 have HSTEP:=Lib.hid (openC_step s)
 have HCLE:=Lib.hid (openC_le s)
 have H0:Hid (openC s 0=0):=Lib.hid (by simp [openC])
 clear h hlr hcell
 generalize openC s=cnt at *
 generalize openM s=om at *
 generalize hsl:s.log.length=sl at *
 generalize s.agreed=ag at *
 generalize s.term=st at *
 have q1:(ag:Int)≤(sl:Int):=by omega
 have q2:0≤(ag:Int):=by omega
 have q3:ag≤c:=by omega
 by_cases hce:c=ag
 ·have hsa:sl=ag:=by omega
  subst hce hsa
  have HR:Hid (cnt 0=om):=Lib.hid (by have:=HALL.out;rwa [Nat.sub_self] at this)
  go_enter Try.func27,Try.ntmps27
  go_upto_region 2 with (fail)
  go_quiet (fail)
  go_wp2_with fail
  go_loopw [16,3] (fun i n wr=>i = .int .i64 0∧n = .int .i64 0∧Below w.heap.size w wr) (fun _ _ _=>0)
  case atStart=>exact ⟨rfl,rfl,below_drewN _ _⟩
  case round =>
   obtain ⟨rfl,rfl,hbl⟩:=hrel
   go_wp2_with fail
   go_ret
   exact ⟨by rw [←HR.out,H0.out];rfl,hbl⟩
 ·obtain ⟨p,rfl⟩:∃p,ao=some p:=by
   cases ao with
   | none=>have:=HL.out.nil rfl;omega
   | some p=>exact ⟨p,rfl⟩
  obtain ⟨g,rfl⟩:=HL.out.form p rfl
  go_enter Try.func27,Try.ntmps27
  go_upto_region 2 with (fail)
  go_quiet (fail)
  go_wp2_with fail
  go_loopw [16,3] (fun i n wr=>∃j:Nat,j≤sl - ag∧i = .int .i64 (j:Int)∧n = .int .i64 (cnt j:Int)∧Below w.heap.size w wr) (fun i _ _=>sl - ag - (intOf i).toNat)
  case atStart=>exact ⟨0,Nat.zero_le _,rfl,by rw [H0.out];rfl,below_drewN _ _⟩
  case round =>
   obtain ⟨j,hj,rfl,rfl,hbl⟩:=hrel
   have HBL:=Lib.hid hbl
   clear hbl
   by_cases hlt:j<sl - ag
   ·obtain ⟨u,hu1,hu2,him⟩:=HL.out.at_ (ag+j) (by omega) g rfl
    have hst:=HSTEP.out j (by omega)
    obtain ⟨au,cu,e,_⟩:=him
    subst e
    have hu1:=cell_later HBL.out hu1
    have hu2:=cell_later HBL.out hu2
    have hk6:=cell_later HBL.out hc6
    have hcj:=HCLE.out j
    generalize (s.log.map Ent.term).getD (ag+j) 0=t at *
    generalize ((s.log.map Ent.bs).getD (ag+j) []).length=bl at *
    have q5:(j:Int)<((sl - ag:Nat):Int):=by omega
    have q6:IntKind.i64.wrap ((j:Int)+1)=(j:Int)+1:=IntWalk.i64_in _ (by omega)
    have q8:IntKind.i64.wrap ((cnt j:Int)+1)=(cnt j:Int)+1:=IntWalk.i64_in _ (by omega)
    have q9:(ag+j)*2=ag*2+j*2:=by omega
    rw [q9] at hu1 hu2
    have HST:=Lib.hid hst
    clear hst hcj
    generalize cnt j=cj at *
    have HB2:∀q,Below w.heap.size w ((wr.alloc (.cells #[.int .i64 t,.slice au bl cu] 68)).drewN q):=fun q=>(HBL.out.alloc HBL.out.size _).trans ((below_drewN _ q).mono (HBL.out.alloc HBL.out.size _).size)
    have HB2:=Lib.hid HB2
    have hy0:(wr.alloc (.cells #[.int .i64 t,.slice au bl cu] 68)).cell? ⟨wr.heap.size,0,none⟩=some (.int .i64 t):=by rw [cell_heap (heap_new _ _)];rfl
    have hy1:(wr.alloc (.cells #[.int .i64 t,.slice au bl cu] 68)).cell? ⟨wr.heap.size,1,none⟩=some (.slice au bl cu):=by rw [cell_heap (heap_new _ _)];rfl
    have hy6:(wr.alloc (.cells #[.int .i64 t,.slice au bl cu] 68)).cell? ⟨r,6,none⟩=some (.int .i64 st):=cell_later ((Below.refl _ _).alloc (Nat.le_refl _) _) hk6
    by_cases ht:t=st
    ·have g1:(t==st)=true:=by simpa using ht
     clear ht
     by_cases hz:bl=0
     ·subst hz
      rw [if_neg (by simp)] at HST
      go_wp2_with fail
      generalize wr.alloc (.cells #[.int .i64 t,.slice au 0 cu] 68)=W2 at *
      go_quiet (fail)
      go_wp2_with fail
      refine ⟨⟨j+1,by omega,rfl,by rw [HST.out];rfl,HB2.out _⟩,?_⟩
      simp [intOf];omega
     ·rw [if_pos ⟨g1,hz⟩] at HST
      have g2:decide (0<bl)=true:=decide_eq_true (by omega)
      go_wp2_with fail
      generalize wr.alloc (.cells #[.int .i64 t,.slice au bl cu] 68)=W2 at *
      go_quiet (fail)
      go_wp2_with fail
      refine ⟨⟨j+1,by omega,rfl,by rw [HST.out];rfl,HB2.out _⟩,?_⟩
      simp [intOf];omega
    ·have g1:(t==st)=false:=by simpa using ht
     clear ht
     rw [if_neg (by rw [g1];simp)] at HST
     go_wp2_with fail
     generalize wr.alloc (.cells #[.int .i64 t,.slice au bl cu] 68)=W2 at *
     go_quiet (fail)
     go_wp2_with fail
     refine ⟨⟨j+1,by omega,rfl,by rw [HST.out];rfl,HB2.out _⟩,?_⟩
     simp [intOf];omega

   ·have hj2:j=sl - ag:=by omega
    have q7:¬((j:Int)<(sl:Int) - (ag:Int)):=by omega
    have HR:Hid (cnt j=om):=Lib.hid (by rw [hj2];exact HALL.out)
    clear hlt hj2 q1 q2 q3
    go_wp2_with fail
    go_ret
    exact ⟨by rw [←HR.out];rfl,HBL.out⟩
end
end Go.Proofs.Ytnicaicjgaoolaa
namespace Go.Proofs.Ytnicaicjgaoolaa
open Go.RowKit Go.ChangeMaps Go.WideMaps Go.Maps
set_option maxRecDepth 20000
theorem natsA_set (l:List Nat) (i x:Nat):(natsA l).setIfInBounds i (.int .i64 (x:Int))=natsA (l.set i x):=by
 unfold natsA
 rw [List.setIfInBounds_toArray,List.map_set]
theorem boolsA_set (l:List Bool) (i:Nat) (x:Bool):(boolsA l).setIfInBounds i (.bool x)=boolsA (l.set i x):=by
 unfold boolsA
 rw [List.setIfInBounds_toArray,List.map_set]
theorem natsA_at (l:List Nat) (i:Nat) (h:i<l.length):(natsA l)[i]? = some (.int .i64 (l.getD i 0:Int)):=by
 unfold natsA
 simp [h]
theorem boolsA_at (l:List Bool) (i:Nat) (h:i<l.length):(boolsA l)[i]? = some (.bool (l.getD i false)):=by
 unfold boolsA
 simp [h]
section
variable {w w':World} {A A' X X' D L R:List Nat} {r d l:Nat} {s s':Rp} {k k':Dk} {vl:Value} {gv gn gm gh:Nat}
theorem NdC.set_mat (h:NdC w A D L R r d l s k vl gv gn gm gh) (i x:Nat):NdC (w.setCell ⟨gm,i,none⟩ (.int .i64 (x:Int))) A D L R r d l { s with mat:=s.mat.set i x } k vl gv gn gm gh:=by
 have ho:Only [gm] w (w.setCell ⟨gm,i,none⟩ (.int .i64 (x:Int))):=(Only.refl _ _).setCell (by simp) _
 have hS:∀b∈[gm],b∈R:=fun b hb=>by rw [List.mem_singleton.1 hb];exact h.mR
 exact ⟨h.wd_only ho hS,ho.keeps h.cell (by simpa using heap_ne h.cell h.mat (by decide)),h.log.step ho (fun b hb=>h.rA b (hS b hb)) (Ext.refl _ _),ho.keeps h.votes (by simpa using heap_ne h.votes h.mat (by decide)),
  ho.keeps h.next (by simpa using h.nm),by rw [heap_set h.mat,natsA_set],ho.keeps h.heard (by simpa using heap_ne h.heard h.mat (by decide)),h.nm,h.rR,h.vR,h.nR,h.mR,h.hR,h.dRD,h.dRL,h.rA⟩
theorem NdC.set_next (h:NdC w A D L R r d l s k vl gv gn gm gh) (i x:Nat):NdC (w.setCell ⟨gn,i,none⟩ (.int .i64 (x:Int))) A D L R r d l { s with next:=s.next.set i x } k vl gv gn gm gh:=by
 have ho:Only [gn] w (w.setCell ⟨gn,i,none⟩ (.int .i64 (x:Int))):=(Only.refl _ _).setCell (by simp) _
 have hS:∀b∈[gn],b∈R:=fun b hb=>by rw [List.mem_singleton.1 hb];exact h.nR
 exact ⟨h.wd_only ho hS,ho.keeps h.cell (by simpa using heap_ne h.cell h.next (by decide)),h.log.step ho (fun b hb=>h.rA b (hS b hb)) (Ext.refl _ _),ho.keeps h.votes (by simpa using heap_ne h.votes h.next (by decide)),
  by rw [heap_set h.next,natsA_set],ho.keeps h.mat (by simpa using h.nm.symm),ho.keeps h.heard (by simpa using heap_ne h.heard h.next (by decide)),h.nm,h.rR,h.vR,h.nR,h.mR,h.hR,h.dRD,h.dRL,h.rA⟩
theorem NdC.set_votes (h:NdC w A D L R r d l s k vl gv gn gm gh) (i:Nat) (x:Bool):NdC (w.setCell ⟨gv,i,none⟩ (.bool x)) A D L R r d l { s with votes:=s.votes.set i x } k vl gv gn gm gh:=by
 have ho:Only [gv] w (w.setCell ⟨gv,i,none⟩ (.bool x)):=(Only.refl _ _).setCell (by simp) _
 have hS:∀b∈[gv],b∈R:=fun b hb=>by rw [List.mem_singleton.1 hb];exact h.vR
 exact ⟨h.wd_only ho hS,ho.keeps h.cell (by simpa using heap_ne h.cell h.votes (by decide)),h.log.step ho (fun b hb=>h.rA b (hS b hb)) (Ext.refl _ _),by rw [heap_set h.votes,boolsA_set],
  ho.keeps h.next (by simpa using heap_ne h.next h.votes (by decide)),ho.keeps h.mat (by simpa using heap_ne h.mat h.votes (by decide)),ho.keeps h.heard (by simpa using heap_ne h.heard h.votes (by decide)),h.nm,h.rR,h.vR,h.nR,h.mR,h.hR,h.dRD,h.dRL,h.rA⟩
/-- only blocks of R turned -/
theorem NdC.ndpR (h':NdC w' A D L R r d l s' k' vl gv gn gm gh) (hX:∀b,b∈X↔b∈D∨b∈L∨b∈R) {S:List Nat} (ho:Only S w w') (hS:∀b∈S,b∈R):NdP w w' A X r d l s' k' :=
 (h'.nd hX).ndp (Mv.only ho (fun b hb=>(hX b).2 (.inr (.inr (hS b hb)))))
def votesC (s:Rp) (j:Nat):Nat:=((s.votes.take j).filter id).length
theorem votesC_step (s:Rp) (j:Nat) (h:j<s.votes.length):votesC s (j+1)=votesC s j+(if s.votes.getD j false then 1 else 0):=by
 have e:s.votes.getD j false=s.votes[j]:=by simp [List.getD,h]
 unfold votesC
 rw [e,←List.take_append_getElem h,List.filter_append,List.length_append]
 cases s.votes[j]<;>simp
set_option maxHeartbeats 1000000 in
theorem chosen_any (h:Nd w A X r d l s k) (hn:s.n≤5) (hv:s.votes.length=s.n):Calls Try.prog 52 #[.pointer (some ⟨r,0,none⟩)] w fun e w'=>e = .returned (.bool (chosenM s))∧w=w':=by
 have H:=Lib.hid h
 obtain ⟨D,L,R,vl,gv,gn,gm,gh,h,hX⟩:=h
 have hc12:w.cell? ⟨r,12,none⟩=some (.slice (some ⟨gv,0,none⟩) s.n s.n):=by rw [cell_heap h.cell];rfl
 have HV:Hid (∀i,i<s.n→w.cell? ⟨gv,i,none⟩=some (.bool (s.votes.getD i false))):=Lib.hid (fun i hi=>by rw [cell_heap h.votes];exact boolsA_at _ _ (by omega))
 have HST:=Lib.hid (fun j (hj:j<s.n)=>votesC_step s j (by omega))
 have HCL:Hid (∀j,votesC s j≤s.n):=Lib.hid (fun j=>by
  unfold votesC
  refine Nat.le_trans (List.length_filter_le _ _) ?_
  rw [List.length_take];omega)
 have H0:Hid (votesC s 0=0):=Lib.hid (by simp [votesC])
 have HR:Hid (mostM s (votesC s s.n)=chosenM s):=Lib.hid (by unfold chosenM votesC;rw [List.take_of_length_le (by omega)])
 have HM:=Lib.hid (fun m (hm:m≤s.n)=>most_any H.out hn m (by omega))
 clear h hX hv
 generalize chosenM s=ch at *
 generalize votesC s=cnt at *
 generalize mostM s=mo at *
 generalize hsn:s.n=n at *
 go_enter Try.func52,Try.ntmps52
 go_wp2_with fail
 go_loopw [11,3] (fun i m wr=>∃j:Nat,j≤n∧i = .int .i64 (j:Int)∧m = .int .i64 (cnt j:Int)∧wr=w) (fun i _ _=>n - (intOf i).toNat)
 case atStart=>exact ⟨0,Nat.zero_le _,rfl,by rw [H0.out];rfl,rfl⟩
 case round =>
  obtain ⟨j,hj,rfl,rfl,rfl⟩:=hrel
  by_cases hlt:j<n
  ·have hv:=HV.out j hlt
   have hst:=HST.out j hlt
   have hcl:=HCL.out j
   have q6:IntKind.i64.wrap ((j:Int)+1)=(j:Int)+1:=IntWalk.i64_in _ (by omega)
   have q8:IntKind.i64.wrap ((cnt j:Int)+1)=(cnt j:Int)+1:=IntWalk.i64_in _ (by omega)
   have q5:(j:Int)<(n:Int):=by omega
   have HJ:=Lib.hid hst
   clear hst hcl
   generalize cnt j=cj at *
   cases hb:s.votes.getD j false with
   | false =>
    rw [hb] at hv HJ
    go_wp2_with fail
    go_roundw
    case rel=>exact ⟨j+1,by omega,rfl,by rw [HJ.out];rfl,trivial⟩
    case measure=>simp [intOf];omega
   | true =>
    rw [hb] at hv HJ
    go_wp2_with fail
    go_roundw
    case rel=>exact ⟨j+1,by omega,rfl,by rw [HJ.out];rfl,trivial⟩
    case measure=>simp [intOf];omega
  ·obtain rfl:j=n:=by omega
   go_wp2_with fail
   refine (HM.out _ (HCL.out _)).mono ?_
   rintro e w1 ⟨rfl,rfl⟩
   go_wp2_with fail
   go_ret
   exact ⟨by rw [←HR.out];rfl,rfl⟩
end
end Go.Proofs.Ytnicaicjgaoolaa
namespace Go.Proofs.Ytnicaicjgaoolaa
open Go.RowKit Go.ChangeMaps Go.WideMaps Go.Maps
set_option maxRecDepth 20000
section
variable (p:String)
def z04x0:Oper:=⟨some 7,.move (.tmp 0),39,p,#[],none⟩
def z04x1:Oper:=⟨some 8,.nilCheck (.tmp 7),0,p,#[⟨0,.data⟩],none⟩
def z04x2:Oper:=⟨some 9,.fieldAddr 66 (.tmp 8) 14,0,p,#[⟨1,.data⟩],none⟩
def z04x3:Oper:=⟨some 10,.load 27 (.tmp 9),27,p,#[⟨2,.data⟩],none⟩
def z04x4:Oper:=⟨some 11,.move (.tmp 0),39,p,#[],none⟩
def z04x5:Oper:=⟨some 12,.nilCheck (.tmp 11),0,p,#[⟨4,.data⟩],none⟩
def z04x6:Oper:=⟨some 13,.fieldAddr 66 (.tmp 12) 0,0,p,#[⟨5,.data⟩],none⟩
def z04x7:Oper:=⟨some 14,.load 3 (.tmp 13),3,p,#[⟨6,.data⟩],none⟩
def z04x8:Oper:=⟨some 15,.move (.tmp 0),39,p,#[],none⟩
def z04x9:Oper:=⟨some 16,.nilCheck (.tmp 15),0,p,#[⟨8,.data⟩],none⟩
def z04x10:Oper:=⟨some 17,.fieldAddr 66 (.tmp 16) 8,0,p,#[⟨9,.data⟩],none⟩
def z04x11:Oper:=⟨some 18,.load 62 (.tmp 17),62,p,#[⟨10,.data⟩],none⟩
def z04x12:Oper:=⟨some 19,.call { callee:=Callee.builtin Builtin.len,args:=#[.tmp 18],argTypes:=#[62]},3,p,#[⟨11,.data⟩],none⟩
def z04x13:Oper:=⟨some 20,.indexAddr 27 (.tmp 10) (.tmp 14),0,p,#[⟨3,.data⟩,⟨7,.data⟩,⟨0,.phase⟩,⟨1,.phase⟩,⟨2,.phase⟩,⟨3,.phase⟩,⟨4,.phase⟩,⟨5,.phase⟩,⟨6,.phase⟩,⟨7,.phase⟩,⟨8,.phase⟩,⟨9,.phase⟩,⟨10,.phase⟩,⟨11,.phase⟩,⟨12,.phase⟩],none⟩
def z04x14:Oper:=⟨none,.store 3 (.tmp 20) (.tmp 19),0,p,#[⟨13,.data⟩,⟨12,.data⟩,⟨0,.phase⟩,⟨1,.phase⟩,⟨2,.phase⟩,⟨3,.phase⟩,⟨4,.phase⟩,⟨5,.phase⟩,⟨6,.phase⟩,⟨7,.phase⟩,⟨8,.phase⟩,⟨9,.phase⟩,⟨10,.phase⟩,⟨11,.phase⟩,⟨12,.phase⟩],none⟩
end
attribute [go_sem,reducible] z04x0 z04x1 z04x2 z04x3 z04x4 z04x5 z04x6 z04x7 z04x8 z04x9 z04x10 z04x11 z04x12 z04x13 z04x14
def geC (s:Rp) (k j:Nat):Nat:=countGe (s.mat.take j) k
theorem geC_step (s:Rp) (k j:Nat) (h:j<s.mat.length):geC s k (j+1)=geC s k j+(if k≤s.mat.getD j 0 then 1 else 0):=by
 have e:s.mat.getD j 0=s.mat[j]:=by simp [List.getD,h]
 unfold geC countGe
 rw [e,←List.take_append_getElem h,List.filter_append,List.length_append]
 by_cases hk:k≤s.mat[j]<;>simp [hk]
theorem settleF_no (s:Rp) (k:Nat) (h:¬(s.agreed<k∧lastTermM s.log k=s.term)):settleF s k=none:=by
 cases k with
 | zero=>rfl
 | succ k=>unfold settleF;rw [if_neg h]
theorem settleF_yes (s:Rp) (k:Nat) (h:s.agreed<k∧lastTermM s.log k=s.term):settleF s k=if mostM s (countGe s.mat k) then some k else settleF s (k - 1):=by
 cases k with
 | zero=>have:=h.1;omega
 | succ k=>rw [settleF,if_pos h];rfl
section
variable {w w':World} {A A' X X':List Nat} {r d l:Nat} {s s':Rp} {k k':Dk}
set_option maxHeartbeats 4000000 in
theorem settle_any (h:Nd w A X r d l s k) (hw:Wf s k):Calls Try.prog 29 #[.pointer (some ⟨r,0,none⟩)] w fun e w'=>e = .returned (.bool (settleM s).1)∧NdP w w' A X r d l (settleM s).2 k:=by
 obtain ⟨al,cl,hc8,hl1,hl2⟩:=h.loglen
 have HX:=Lib.hid h.rX
 obtain ⟨D,L,R,vl,gv,gn,gm,gh,h,hX⟩:=h
 have hc0:w.cell? ⟨r,0,none⟩=some (.int .i64 (s.own:Int)):=by rw [cell_heap h.cell];rfl
 have hc14:w.cell? ⟨r,14,none⟩=some (.slice (some ⟨gm,0,none⟩) s.n s.n):=by rw [cell_heap h.cell];rfl
 have hcm:w.cell? ⟨gm,s.own,none⟩=some (.int .i64 (s.mat.getD s.own 0:Int)):=by rw [cell_heap h.mat];exact natsA_at _ _ (by rw [hw.ml];exact hw.own)
 have hzm:=free_heap h.mat s.own
 have HM1:Hid (∀w1,w1=(w.setCell ⟨gm,s.own,none⟩ (.int .i64 (s.log.length:Int))).drew→NdP w w1 A X r d l { s with mat:=s.mat.set s.own s.log.length } k):=Lib.hid (fun w1 e=>by
  subst e
  exact ((h.set_mat s.own s.log.length).below (below_drewN _ 1)).ndpR hX (S:=[gm]) (((Only.refl _ _).setCell (by simp) _).drewN 1) (fun b hb=>by rw [List.mem_singleton.1 hb];exact h.mR))
 have HK1:Hid (∀w1,w1=(w.setCell ⟨gm,s.own,none⟩ (.int .i64 (s.log.length:Int))).drew→w1.cell? ⟨r,14,none⟩=some (.slice (some ⟨gm,0,none⟩) s.n s.n)∧w1.cell? ⟨r,0,none⟩=some (.int .i64 (s.own:Int))∧w1.cell? ⟨r,8,none⟩=some (.slice al s.log.length cl)):=Lib.hid (fun w1 e=>by
  have ho:Only [gm] w w1:=by rw [e];exact ((Only.refl _ _).setCell (by simp) _).drewN 1
  have hne:r∉[gm]:=by simpa using heap_ne h.cell h.mat (by decide)
  exact ⟨ho.cell hc14 hne,ho.cell hc0 hne,ho.cell hc8 hne⟩)
 have HWF:Hid (Wf { s with mat:=s.mat.set s.own s.log.length } k∧True):=Lib.hid ⟨⟨hw.n1,hw.n5,hw.own,hw.vl,hw.nl,by simpa using hw.ml,hw.hl,hw.room,hw.tot,hw.fil,hw.logl,hw.agr,hw.man,fun hl i=>⟨(hw.lead hl i).1,by
   show (s.mat.set s.own s.log.length).getD i 0≤s.log.length
   have:=(hw.lead hl i).2
   rw [List.getD_eq_getElem?_getD,List.getElem?_set] at *
   split
   ·split<;>simp
   ·exact this⟩,hw.term0,hw.termM,hw.cho,hw.choM,hw.recl,hw.tick,hw.hrd⟩,trivial⟩
 have HE:Hid (settleM s=match settleF { s with mat:=s.mat.set s.own s.log.length } s.log.length with
  | some k=>(true,agreeM { s with mat:=s.mat.set s.own s.log.length } k)
  | none=>(false,{ s with mat:=s.mat.set s.own s.log.length })):=Lib.hid rfl
 have hown:(s.own:Int)<(s.n:Int):=by have:=hw.own;omega
 have hn5:=hw.n5
 clear h hX hw
 generalize hs1:({ s with mat:=s.mat.set s.own s.log.length }:Rp)=s1 at *
 generalize s.mat.getD s.own 0=om at *
 have HN1:Hid (s1.n=s.n∧s1.log=s.log):=Lib.hid (by rw [←hs1];exact ⟨rfl,rfl⟩)
 clear hs1
 generalize hsl:s.log.length=sl at *
 generalize hsn:s.n=n at *
 generalize s.own=ow at *
 go_enter Try.func29,Try.ntmps29
 go_upto_region 1 with (fail)
 refine wp_region_held_drew (S:=fun w'=>w'.cell? ⟨r,14,none⟩=some (.slice (some ⟨gm,0,none⟩) n n)∧w'.cell? ⟨r,0,none⟩=some (.int .i64 (ow:Int))∧w'.cell? ⟨r,8,none⟩=some (.slice al sl cl)) (by kernel_rfl) ⟨hc14,hc0,hc8⟩ (fun hHeld=>?_)
 refine qtl 0 (z04x0 _) rfl ?_
 refine qtl 1 (z04x1 _) rfl ?_
 refine qtl 2 (z04x2 _) rfl ?_
 refine qtl 3 (z04x3 _) rfl ?_
 refine qtl 4 (z04x4 _) rfl ?_
 refine qtl 5 (z04x5 _) rfl ?_
 refine qtl 6 (z04x6 _) rfl ?_
 refine qtl 7 (z04x7 _) rfl ?_
 refine qtl 8 (z04x8 _) rfl ?_
 refine qtl 9 (z04x9 _) rfl ?_
 refine qtl 10 (z04x10 _) rfl ?_
 refine qtl 11 (z04x11 _) rfl ?_
 refine qtl 12 (z04x12 _) rfl ?_
 refine qtl 13 (z04x13 _) rfl ?_
 refine qr1 14 (z04x14 _) rfl fun K hK=>?_
 unfold z04x14
 go_simp
 refine hK.out _ _ (HK1.out _ rfl) (fun hHeld=>?_)
 clear hK K
 refine qsp ?_
 refine qdn ?_
 clear hHeld
 go_wp2_with fail
 have hn1:=HM1.out _ rfl
 generalize (w.setCell ⟨gm,ow,none⟩ (.int .i64 (sl:Int))).drew=w1 at *
 obtain ⟨A1,X1,h1,m1⟩:=hn1
 have H1:=Lib.hid h1
 have M1:=Lib.hid m1
 obtain ⟨a2,c2,hlr⟩:=h1.logR
 have HLR:=Lib.hid hlr
 have hk8:=hlr.c8
 have hle2:=hlr.le
 have hcm2:=hlr.cm
 have HW1:=Lib.hid HWF.out.1
 obtain ⟨D1,L1,R1,vl1,gv1,gn1,gm1,gh1,h2,hX2⟩:=h1
 have hk9:w1.cell? ⟨r,9,none⟩=some (.int .i64 (s1.agreed:Int)):=by rw [cell_heap h2.cell];rfl
 have hk6:w1.cell? ⟨r,6,none⟩=some (.int .i64 s1.term):=by rw [cell_heap h2.cell];rfl
 have hk14:w1.cell? ⟨r,14,none⟩=some (.slice (some ⟨gm1,0,none⟩) s1.n s1.n):=by rw [cell_heap h2.cell];rfl
 have hs1n:=HN1.out.1
 have hs1l:s1.log.length=sl:=by rw [HN1.out.2];exact hsl
 have HV:Hid (∀i,i<n→w1.cell? ⟨gm1,i,none⟩=some (.int .i64 (s1.mat.getD i 0:Int))):=Lib.hid (fun i hi=>by rw [cell_heap h2.mat];exact natsA_at _ _ (by rw [HW1.out.ml,hs1n];exact hi))
 have hslb:sl≤1000000:=by have:=HW1.out.logb;omega
 have HST:=Lib.hid (fun k j (hj:j<n)=>geC_step s1 k j (by rw [HW1.out.ml,hs1n];exact hj))
 have HCL:Hid (∀k j,geC s1 k j≤n):=Lib.hid (fun k j=>by
  unfold geC countGe
  refine Nat.le_trans (List.length_filter_le _ _) ?_
  rw [List.length_take,HW1.out.ml,hs1n];omega)
 have HC0:Hid (∀k,geC s1 k 0=0):=Lib.hid (fun k=>by simp [geC,countGe])
 have HCN:Hid (∀k,geC s1 k n=countGe s1.mat k):=Lib.hid (fun k=>by unfold geC;rw [List.take_of_length_le (by rw [HW1.out.ml,hs1n];exact Nat.le_refl _)])
 have HMO:=Lib.hid (fun q m (hm:m≤n)=>most_any (H1.out.below (below_drewN w1 q)) (by rw [hs1n];exact hn5) m (by omega))
 have HAG:=Lib.hid (fun q m (hm:m≤sl)=>agree_any (H1.out.below (below_drewN w1 q)) m (by omega) (by omega) (by have h3:=HW1.out.man;have h4:s1.many≤s1.agreed:=(by rw [h3];unfold recs;rw [List.length_map];exact Nat.le_trans (List.length_filter_le _ _) (by rw [List.length_take];omega));exact h4))
 rw [hs1l] at hk8 hle2
 rw [hs1n] at hk14
 clear h2 hX2 hlr m1 hc0 hc8 hc14 hcm hzm hown
 go_wp2_with fail
 go_loopw [3] (fun kk wr=>∃j:Nat,j≤sl∧kk = .int .i64 (j:Int)∧settleF s1 sl=settleF s1 j∧∃q,wr=w1.drewN q) (fun kk _=>(intOf kk).toNat)
 case atStart=>exact ⟨sl,Nat.le_refl _,rfl,rfl,0,rfl⟩
 case round =>
  obtain ⟨j,hj,rfl,hsf,q,rfl⟩:=hrel
  have HSF:=Lib.hid hsf
  clear hsf
  by_cases hag:s1.agreed<j
  ·obtain ⟨i,rfl⟩:∃i,j=i+1:=⟨j - 1,by omega⟩
   obtain ⟨p,rfl⟩:∃p,a2=some p:=by
    cases a2 with
    | none=>have:=HLR.out.nil rfl;omega
    | some p=>exact ⟨p,rfl⟩
   obtain ⟨g,rfl⟩:=HLR.out.form p rfl
   obtain ⟨u,hu1,_,_⟩:=HLR.out.at_ i (by omega) g rfl
   have HLT:Hid (lastTermM s1.log (i+1)=(s1.log.map Ent.term).getD i 0):=Lib.hid (by unfold lastTermM;rw [if_neg (by omega)];rfl)
   have HY:=Lib.hid (fun (ht:(s1.log.map Ent.term).getD i 0=s1.term)=>settleF_yes s1 (i+1) ⟨hag,by rw [HLT.out];exact ht⟩)
   have HNO:=Lib.hid (fun (ht:¬(s1.log.map Ent.term).getD i 0=s1.term)=>settleF_no s1 (i+1) (fun h=>ht (by rw [←HLT.out];exact h.2)))
   clear HLT
   generalize (s1.log.map Ent.term).getD i 0=t at *
   have q1:IntKind.i64.wrap ((i:Int)+1 - 1)=(i:Int):=by rw [show (i:Int)+1 - 1=(i:Int) by omega];exact IntWalk.i64_in _ (by omega)
   have q2:(i:Int)<(sl:Int):=by omega
   have q3:0≤(i:Int):=by omega
   have g0:decide ((s1.agreed:Int)<(i:Int)+1)=true:=decide_eq_true (by omega)
   by_cases ht:t=s1.term
   ·have g1:(t==s1.term)=true:=by simpa using ht
    have HY:=Lib.hid (HY.out ht)
    clear ht HNO
    go_wp2_with fail
    go_quiet (fail)
    go_wp2_with fail
    go_loopw [55,4] (fun x m wr=>∃b:Nat,b≤n∧x = .int .i64 (b:Int)∧m = .int .i64 (geC s1 (i+1) b:Int)∧wr=w1.drewN (q+nq)) (fun x _ _=>n - (intOf x).toNat)
    case atStart=>exact ⟨0,Nat.zero_le _,rfl,by rw [HC0.out];rfl,rfl⟩
    case round =>
     obtain ⟨b,hb,rfl,rfl,rfl⟩:=hrel
     by_cases hlt:b<n
     ·have hv:=HV.out b hlt
      have HJ:=Lib.hid (HST.out (i+1) b hlt)
      have hcl:=HCL.out (i+1) b
      have r1:IntKind.i64.wrap ((b:Int)+1)=(b:Int)+1:=IntWalk.i64_in _ (by omega)
      have r2:IntKind.i64.wrap ((geC s1 (i+1) b:Int)+1)=(geC s1 (i+1) b:Int)+1:=IntWalk.i64_in _ (by omega)
      have r3:(b:Int)<(n:Int):=by omega
      generalize geC s1 (i+1) b=cj at *
      generalize s1.mat.getD b 0=mb at *
      by_cases hge:i+1≤mb
      ·have r4:(i:Int)+1≤(mb:Int):=by omega
       rw [if_pos hge] at HJ
       clear hge
       go_wp2_with fail
       go_roundw
       case rel=>exact ⟨b+1,by omega,rfl,by rw [HJ.out];rfl,trivial⟩
       case measure=>simp [intOf];omega
      ·have r4:¬((i:Int)+1≤(mb:Int)):=by omega
       rw [if_neg hge] at HJ
       clear hge
       go_wp2_with fail
       go_roundw
       case rel=>exact ⟨b+1,by omega,rfl,by rw [HJ.out];rfl,trivial⟩
       case measure=>simp [intOf];omega
     ·obtain rfl:b=n:=by omega
      have hcl:=HCL.out (i+1) b
      have hcn:=HCN.out (i+1)
      rw [hcn] at hcl ⊢
      generalize countGe s1.mat (i+1)=cg at *
      go_wp2_with fail
      refine (HMO.out (q+nq) cg hcl).mono ?_
      rintro e w5 ⟨rfl,rfl⟩
      cases hmo:mostM s1 cg with
      | true =>
       rw [hmo,if_pos rfl] at HY
       go_wp2_with fail
       refine (HAG.out (q+nq) (i+1) (by omega)).mono ?_
       rintro e w6 ⟨hn6,ho6,rfl⟩
       have H6:=Lib.hid hn6
       have HO6:=Lib.hid ho6
       clear hn6 ho6
       go_wp2_with fail
       go_ret
       rw [HE.out,HSF.out,HY.out]
       exact ⟨rfl,NdP.trans (M1.out.trans (Mv.below (below_drewN _ _))) (H6.out.here HO6.out H1.out.rX)⟩
      | false =>
       rw [hmo,if_neg (by simp),Nat.add_sub_cancel] at HY
       have HZ:=Lib.hid (HSF.out.trans HY.out)
       go_wp2_with fail
       go_roundw
       case rel=>exact ⟨i,by omega,rfl,HZ.out,_,rfl⟩
       case measure=>simp [intOf]
   ·have g1:(t==s1.term)=false:=by simpa using ht
    have HNO:=Lib.hid (HNO.out ht)
    clear ht HY
    go_wp2_with fail
    go_quiet (fail)
    go_wp2_with fail
    go_ret
    rw [HE.out,HSF.out,HNO.out]
    exact ⟨rfl,((H1.out.below (below_drewN _ q)).below (below_drewN _ nq)).ndp (M1.out.trans ((Mv.below (below_drewN _ q)).trans (Mv.below (below_drewN _ nq))))⟩
  ·have HNO:=Lib.hid (settleF_no s1 j (fun h=>hag h.1))
   have g0:decide ((s1.agreed:Int)<(j:Int))=false:=decide_eq_false (by omega)
   go_wp2_with fail
   go_quiet (fail)
   go_wp2_with fail
   go_ret
   rw [HE.out,HSF.out,HNO.out]
   exact ⟨rfl,((H1.out.below (below_drewN _ q)).below (below_drewN _ nq)).ndp (M1.out.trans ((Mv.below (below_drewN _ q)).trans (Mv.below (below_drewN _ nq))))⟩
end
end Go.Proofs.Ytnicaicjgaoolaa
namespace Go.Proofs.Ytnicaicjgaoolaa
set_option maxRecDepth 20000
theorem appD_fil (k:Dk) (b:List UInt8):filB (appD k b)=filB k++b:=by
 unfold filB appD
 cases k.file with
 | none=>simp [appF]
 | some p=>rfl
theorem appD_room (k:Dk) (b:List UInt8):(appD k b).room=k.room:=by
 unfold appD
 cases k.file<;>rfl
/-- what of a replica Wf asks, but for log and disk -/
structure Wg (s:Rp):Prop where
 n1:1≤s.n
 n5:s.n≤5
 own:s.own<s.n
 vl:s.votes.length=s.n
 nl:s.next.length=s.n
 ml:s.mat.length=s.n
 hl:s.heard.length=s.n
 agr:s.agreed≤s.log.length
 man:s.many=(recs (s.log.take s.agreed)).length
 lead:s.leads=true→∀i,s.next.getD i 0≤s.log.length∧s.mat.getD i 0≤s.log.length
 term0:0≤s.term
 termM:s.term≤1099511627776
 cho : -1≤s.choice
 choM:s.choice<s.n
 recl:∀x∈s.log,x.bs.length≤8000
 tick:s.ticks≤s.clock
 hrd:∀x∈s.heard,0≤x.1∧x.1≤(s.clock:Int)
structure Wk (r:List (List UInt8)) (len:Nat) (k:Dk):Prop where
 room:k.room≤1048576
 tot:(k.total:Int)≤k.room
 fil:filB k=F.frames r
 logl:len≤r.length
theorem Wf.g {s:Rp} {k:Dk} (h:Wf s k):Wg s:=⟨h.n1,h.n5,h.own,h.vl,h.nl,h.ml,h.hl,h.agr,h.man,h.lead,h.term0,h.termM,h.cho,h.choM,h.recl,h.tick,h.hrd⟩
theorem Wf.k {s:Rp} {k:Dk} (h:Wf s k):Wk s.wl.recs s.log.length k:=⟨h.room,h.tot,h.fil,h.logl⟩
theorem Wg.wf {s:Rp} {k:Dk} (h:Wg s) (hk:Wk s.wl.recs s.log.length k):Wf s k:=⟨h.n1,h.n5,h.own,h.vl,h.nl,h.ml,h.hl,hk.room,hk.tot,hk.fil,hk.logl,h.agr,h.man,h.lead,h.term0,h.termM,h.cho,h.choM,h.recl,h.tick,h.hrd⟩
theorem wk_add {s:Wl} {k:Dk} {len:Nat} (h:Wk s.recs len k) (b:List UInt8):Wk (addW s k b).2.1.recs len (addW s k b).2.2∧((addW s k b).1=0→(addW s k b).2.1.recs.length=s.recs.length+1):=by
 unfold addW
 split
 ·exact ⟨h,fun e=>by simp at e⟩
 ·split
  ·exact ⟨h,fun e=>by simp at e⟩
  ·split
   ·exact ⟨h,fun e=>by simp at e⟩
   ·rename_i h3
    refine ⟨⟨by rw [appD_room];exact h.room,?_,?_,?_⟩,fun _=>by simp⟩
    ·rw [total_filB,appD_room,appD_fil,List.length_append,F.frameF_len]
     rw [total_filB] at h3
     omega
    ·rw [appD_fil,h.fil]
     simp [F.frames]
    ·have:=h.logl;simp;omega
theorem wk_sync {s:Wl} {k:Dk} {len:Nat} (h:Wk s.recs len k):Wk (syncW s k).2.1.recs len (syncW s k).2.2:=by
 unfold syncW
 split
 ·exact h
 ·split
  ·exact h
  ·rename_i bl kk hf
   refine ⟨h.room,?_,?_,h.logl⟩
   ·have:=h.tot
    unfold Dk.total at this ⊢
    rw [hf] at this
    exact this
   ·have:=h.fil
    unfold filB at this ⊢
    rw [hf] at this
    exact this
section
variable {s:Rp} {k:Dk}
theorem Wg.done (h:Wg s) (w:Wl) (b:Bool):Wg { s with wl:=w,done:=b }:=⟨h.n1,h.n5,h.own,h.vl,h.nl,h.ml,h.hl,h.agr,h.man,h.lead,h.term0,h.termM,h.cho,h.choM,h.recl,h.tick,h.hrd⟩
theorem wf_doneS (h:Wf s k):Wf (doneS s k) k:=(h.g.done s.wl (doneM s k)).wf h.k
theorem wf_write (h:Wf s k) (b:List UInt8):Wf (writeM s k b).1 (writeM s k b).2∧((writeM s k b).1.done=false→s.log.length+1≤(writeM s k b).1.wl.recs.length):=by
 unfold writeM
 split
 ·rename_i hd
  exact ⟨h,fun e=>by rw [hd] at e;cases e⟩
 ·obtain ⟨h1,h2⟩:=wk_add h.k b
  refine ⟨(h.g.done _ _).wf h1,fun e=>?_⟩
  have e2:(addW s.wl k b).1=0:=by simpa using e
  show s.log.length+1≤(addW s.wl k b).2.1.recs.length
  rw [h2 e2]
  have:=h.logl
  omega
theorem wf_sync (h:Wf s k):Wf (syncM s k).1 (syncM s k).2:=by
 unfold syncM
 split
 ·exact h
 ·exact (h.g.done _ _).wf (wk_sync h.k)
theorem write_same (b:List UInt8):(writeM s k b).1={ s with wl:=(writeM s k b).1.wl,done:=(writeM s k b).1.done }:=by
 unfold writeM
 split<;>rfl
theorem sync_same:(syncM s k).1={ s with wl:=(syncM s k).1.wl,done:=(syncM s k).1.done }:=by
 unfold syncM
 split<;>rfl
theorem Wg.enter (h:Wg s) (b:Bool) (term who:Int) (h0:0≤term) (h1:term≤1099511627776) (h2 : -1≤who) (h3:who<s.n):Wg { s with leads:=s.leads&&b,term:=term,choice:=who } :=
 ⟨h.n1,h.n5,h.own,h.vl,h.nl,h.ml,h.hl,h.agr,h.man,fun hl=>h.lead (by revert hl;cases s.leads<;>simp),h0,h1,h2,h3,h.recl,h.tick,h.hrd⟩
theorem wf_enter (h:Wf s k) (term who:Int) (h0:0≤term) (h1:term≤1099511627776) (h2 : -1≤who) (h3:who<s.n):Wf (enterM s k term who).2.1 (enterM s k term who).2.2:=by
 have hw:=(wf_write h (noteT term who)).1
 have hn:(writeM s k (noteT term who)).1.n=s.n:=by rw [write_same]
 unfold enterM
 generalize writeM s k (noteT term who)=p at *
 simp only
 split
 ·exact hw
 ·have hs:=wf_sync hw
  have hn2:(syncM p.1 p.2).1.n=p.1.n:=by rw [sync_same]
  generalize syncM p.1 p.2=q at *
  split
  ·exact hs
  ·exact (hs.g.enter _ term who h0 h1 h2 (by rw [hn2,hn];exact h3)).wf hs.k
theorem Wg.place (h:Wg s) (p:Nat) (x:Ent) (hp:p≤s.log.length) (ha:s.agreed≤p) (hl:s.leads=true→p=s.log.length) (hx:x.bs.length≤8000):Wg { s with log:=s.log.take p++[x]}:=by
 have hlen:(s.log.take p++[x]).length=p+1:=by simp [Nat.min_eq_left hp]
 refine ⟨h.n1,h.n5,h.own,h.vl,h.nl,h.ml,h.hl,?_,?_,fun hl2 i=>?_,h.term0,h.termM,h.cho,h.choM,fun y hy=>?_,h.tick,h.hrd⟩
 ·show s.agreed≤(s.log.take p++[x]).length
  rw [hlen];omega
 ·show s.many=(recs ((s.log.take p++[x]).take s.agreed)).length
  rw [List.take_append_of_le_length (by simp [Nat.min_eq_left hp];omega),List.take_take,Nat.min_eq_left ha]
  exact h.man
 ·have h1:=h.lead hl2 i
  have h2:=hl hl2
  show s.next.getD i 0≤(s.log.take p++[x]).length∧s.mat.getD i 0≤(s.log.take p++[x]).length
  rw [hlen];omega
 ·rcases List.mem_append.1 hy with hy | hy
  ·exact h.recl y (List.mem_of_mem_take hy)
  ·rw [List.mem_singleton.1 hy];exact hx
theorem wf_place (h:Wf s k) (p:Nat) (x:Ent) (hp:p≤s.log.length) (ha:s.agreed≤p) (hl:s.leads=true→p=s.log.length) (hx:x.bs.length≤8000):Wf (placeM s k p x).2.1 (placeM s k p x).2.2:=by
 obtain ⟨hw,hw2⟩:=wf_write h (noteE p x)
 have hs:=write_same (s:=s) (k:=k) (noteE p x)
 unfold placeM
 generalize writeM s k (noteE p x)=q at *
 simp only
 split
 ·exact hw
 ·rename_i hd
  have hl1:q.1.log=s.log:=by rw [hs]
  have ha1:q.1.agreed=s.agreed:=by rw [hs]
  have hle:q.1.leads=s.leads:=by rw [hs]
  refine (hw.g.place p x (by rw [hl1];exact hp) (by rw [ha1];exact ha) (by rw [hle,hl1];exact hl) hx).wf ⟨hw.room,hw.tot,hw.fil,?_⟩
  have:=hw2 (by simpa using hd)
  show (q.1.log.take p++[x]).length≤_
  rw [hl1]
  simp [Nat.min_eq_left hp]
  omega
theorem wf_put (h:Wf s k) (x:Ent) (hx:x.bs.length≤8000):Wf (putM s k x).2.1 (putM s k x).2.2:=by
 have hp:=wf_place h s.log.length x (Nat.le_refl _) h.agr (fun _=>rfl) hx
 unfold putM
 generalize placeM s k s.log.length x=p at *
 simp only
 split
 ·exact wf_sync hp
 ·exact hp
theorem wf_agree (h:Wf s k) (n:Nat) (hn:n≤s.log.length):Wf (agreeM s n) k:=by
 unfold agreeM
 split
 ·rename_i hlt
  have hm:s.many+(recs ((s.log.take n).drop s.agreed)).length=(recs (s.log.take n)).length:=by
   rw [h.man]
   have e:s.log.take n=s.log.take s.agreed++(s.log.take n).drop s.agreed:=by
    conv=>lhs;rw [←List.take_append_drop s.agreed (s.log.take n)]
    rw [List.take_take,Nat.min_eq_left (by omega)]
   conv=>rhs;rw [e]
   unfold recs
   rw [List.filter_append,List.map_append,List.length_append]
  exact ⟨h.n1,h.n5,h.own,h.vl,h.nl,h.ml,h.hl,h.room,h.tot,h.fil,h.logl,hn,hm,h.lead,h.term0,h.termM,h.cho,h.choM,h.recl,h.tick,h.hrd⟩
 ·exact h
theorem getD_set_le {l:List Nat} {i x b:Nat} (h:∀j,l.getD j 0≤b) (hx:x≤b) (j:Nat):(l.set i x).getD j 0≤b:=by
 have:=h j
 rw [List.getD_eq_getElem?_getD,List.getElem?_set] at *
 split
 ·split
  ·simpa using hx
  ·simp
 ·exact this
theorem wf_mat (h:Wf s k) (i x:Nat) (hx:s.leads=true→x≤s.log.length):Wf { s with mat:=s.mat.set i x } k :=
 ⟨h.n1,h.n5,h.own,h.vl,h.nl,by simpa using h.ml,h.hl,h.room,h.tot,h.fil,h.logl,h.agr,h.man,fun hl j=>⟨(h.lead hl j).1,getD_set_le (fun j=>(h.lead hl j).2) (hx hl) j⟩,h.term0,h.termM,h.cho,h.choM,h.recl,h.tick,h.hrd⟩
theorem wf_next (h:Wf s k) (i x:Nat) (hx:s.leads=true→x≤s.log.length):Wf { s with next:=s.next.set i x } k :=
 ⟨h.n1,h.n5,h.own,h.vl,by simpa using h.nl,h.ml,h.hl,h.room,h.tot,h.fil,h.logl,h.agr,h.man,fun hl j=>⟨getD_set_le (fun j=>(h.lead hl j).1) (hx hl) j,(h.lead hl j).2⟩,h.term0,h.termM,h.cho,h.choM,h.recl,h.tick,h.hrd⟩
theorem settleF_le (s:Rp) (n m:Nat) (h:settleF s n=some m):m≤n:=by
 induction n with
 | zero=>cases h
 | succ n ih =>
  unfold settleF at h
  split at h
  ·split at h
   ·cases h;exact Nat.le_refl _
   ·exact Nat.le_succ_of_le (ih h)
  ·cases h
theorem wf_settle (h:Wf s k):Wf (settleM s).2 k:=by
 have h1:=wf_mat h s.own s.log.length (fun _=>Nat.le_refl _)
 unfold settleM
 simp only
 split
 ·rename_i m hm
  exact wf_agree h1 m (settleF_le _ _ _ hm)
 ·exact h1
/-- but for log, log file and done it is as it was -/
def Same (s s':Rp):Prop:=∃w d l,s'={ s with wl:=w,done:=d,log:=l }
theorem Same.refl (s:Rp):Same s s:=⟨_,_,_,rfl⟩
theorem Same.trans {a b c:Rp} (h:Same a b) (g:Same b c):Same a c:=by
 obtain ⟨w,d,l,rfl⟩:=h
 obtain ⟨w2,d2,l2,rfl⟩:=g
 exact ⟨_,_,_,rfl⟩
theorem same_write (b:List UInt8):Same s (writeM s k b).1:=⟨_,_,_,write_same b⟩
theorem same_sync:Same s (syncM s k).1:=⟨_,_,_,sync_same⟩
theorem same_place (p:Nat) (x:Ent):Same s (placeM s k p x).2.1:=by
 have h:=same_write (s:=s) (k:=k) (noteE p x)
 unfold placeM
 generalize writeM s k (noteE p x)=q at *
 simp only
 split
 ·exact h
 ·exact h.trans ⟨_,_,_,rfl⟩
theorem same_put (x:Ent):Same s (putM s k x).2.1:=by
 have h:=same_place (s:=s) (k:=k) s.log.length x
 unfold putM
 generalize placeM s k s.log.length x=q at *
 simp only
 split
 ·exact h.trans same_sync
 ·exact h
theorem agree_leads (n:Nat):(agreeM s n).leads=s.leads:=by unfold agreeM;split<;>rfl
theorem settle_leads:(settleM s).2.leads=s.leads:=by
 unfold settleM
 simp only
 split
 ·rw [agree_leads]
 ·rfl
theorem agree_n (n:Nat):(agreeM s n).n=s.n:=by unfold agreeM;split<;>rfl
theorem settle_n:(settleM s).2.n=s.n:=by
 unfold settleM
 simp only
 split
 ·rw [agree_n]
 ·rfl
theorem wf_scal (h:Wf s k) (lives:Int) (ticks clock:Nat) (votes:List Bool) (ht:ticks≤clock) (hv:votes.length=s.n) (hc:s.clock≤clock):Wf { s with lives:=lives,ticks:=ticks,clock:=clock,votes:=votes } k :=
 ⟨h.n1,h.n5,h.own,hv,h.nl,h.ml,h.hl,h.room,h.tot,h.fil,h.logl,h.agr,h.man,h.lead,h.term0,h.termM,h.cho,h.choM,h.recl,ht,fun x hx=>⟨(h.hrd x hx).1,by have:=(h.hrd x hx).2;show x.1≤(clock:Int);omega⟩⟩
theorem wf_leads (h:Wf s k):Wf { s with leads:=true,next:=List.replicate s.n s.log.length,mat:=List.replicate s.n 0 } k :=
 ⟨h.n1,h.n5,h.own,h.vl,by simp,by simp,h.hl,h.room,h.tot,h.fil,h.logl,h.agr,h.man,fun _ j=>⟨by
  show (List.replicate s.n s.log.length).getD j 0≤s.log.length
  rw [List.getD_eq_getElem?_getD,List.getElem?_replicate];split<;>simp,by
  show (List.replicate s.n 0).getD j 0≤s.log.length
  rw [List.getD_eq_getElem?_getD,List.getElem?_replicate];split<;>simp⟩,h.term0,h.termM,h.cho,h.choM,h.recl,h.tick,h.hrd⟩
theorem wf_lead (h:Wf s k):Wf (leadM s k).2.1 (leadM s k).2.2:=by
 have h1:=wf_put (wf_leads h) ⟨s.term,[]⟩ (by simp)
 unfold leadM
 simp only
 split
 ·exact wf_settle h1
 ·exact h1
end
end Go.Proofs.Ytnicaicjgaoolaa
