/-
  What the proof of the law leans on: contracts of the program's functions, one behind another. No condition.
-/
import Derived.Test.YtnicaicjgaoolaaT32
import Derived.Test.YtnicaicjgaoolaaPRepStaysL2
import Derived.Test.YtnicaicjgaoolaaPRepStaysL1
set_option linter.unusedVariables false
set_option linter.unusedSimpArgs false
namespace Go.Proofs.Ytnicaicjgaoolaa
open Go.RowKit Go.ChangeMaps Go.WideMaps Go.Maps
set_option maxRecDepth 20000
theorem runs (k:Nat) (h1:1≤k) (h5:k≤5):(X.allN k 10).1=true:=by
 have:k=1∨k=2∨k=3∨k=4∨k=5:=by omega
 rcases this with rfl | rfl | rfl | rfl | rfl
 ·exact X.run1
 ·exact X.run2
 ·exact X.run3
 ·exact X.run4
 ·exact X.run5
section
variable {w wr:World} {A Y Z:List Nat} {c n:Nat} {S:Mn} {rs ds ls:Nat→Nat} {Xs:Nat→List Nat} {vr vd:Value} {gu:Nat} {qv gv lv:Value}
/-- what is on its way is thrown away -/
theorem SyC.noq (h:SyC w A Y c n S rs ds ls Xs vr vd gu qv gv lv) (hz:∀b,b∈Z↔b∈Y∨∃i,i<n∧b∈Xs i):SyP w (w.setCell ⟨c,3,none⟩ (.slice none 0 0)) A Z c n { S with q:=[]} :=
 h.setq hz ⟨A,Y,.inl ⟨rfl,rfl⟩,Mv.refl _ _ _,h.alt,h.yA,fun b hb=>.inl hb,[],Only.refl _ _,fun b hb=>by cases hb⟩
/-- a record that came in may be given -/
theorem IsBC.z {b off i:Nat} {R:List (List UInt8)} {ao:Option Addr} {q cp:Nat} (h1:w.cell? ⟨b,off+i,none⟩=some (.slice ao q cp)) (h2:IsB w ao q cp (R.getD i [])) (h3:q≤cp) (hA:∀b∈A,w.heap.size≤b) (hb:Below w.heap.size w wr) :
  wr.cell? ⟨b,off+i,none⟩=some (.slice ao q cp)∧ImmZ wr A (.slice ao q cp) (R.getD i [])∧q=(R.getD i []).length:=by
 have hl:q=(R.getD i []).length:=h2.1.symm
 refine ⟨cell_later hb h1,?_,hl⟩
 by_cases h0:(R.getD i []).length=0
 ·exact .inl h0
 ·rw [hl] at h2 h3 ⊢
  refine .inr ⟨ao,cp,rfl,h2.below hb,h3,fun p hp=>?_⟩
  obtain ⟨k1,k2,k3⟩:=h2
  rcases k3 with k3 | ⟨b',off',e,k4⟩
  ·omega
  ·rw [e] at hp
   cases hp
   have h9:=World.block_lt_of_cell? w _ (k4 0 (by omega))
   have h9:b'<w.heap.size:=h9
   exact ⟨fun hm=>by have:=hA _ hm;show False;simp only at this;omega,Nat.lt_of_lt_of_le h9 hb.size⟩
end
theorem actI_same (n q:Nat) (h5:n≤5) (hq:q<n):actI (q:Int) n=q:=by
 have h:∀n:Nat,n<6→∀q:Nat,q<n→actI (q:Int) n=q:=by decide +kernel
 exact h n (by omega) q hq
theorem give_up (rec:List UInt8) (S:Mn) (i j:Nat) (h:(S.at j).up=true):((giveM rec S i).at j).up=true:=by
 unfold giveM
 split
 ·unfold Mn.submit
  split
  ·by_cases hi:i<S.nodes.length
   ·have e:((S.set i ⟨(submitM (S.at i).s (S.at i).k rec).2.2.1,(submitM (S.at i).s (S.at i).k rec).2.2.2,true⟩).at j).up=true:=by
     rw [Mn.at_set S i j _ hi]
     split
     ·rfl
     ·exact h
    simp only
    split<;>exact e
   ·have e:S.set i ⟨(submitM (S.at i).s (S.at i).k rec).2.2.1,(submitM (S.at i).s (S.at i).k rec).2.2.2,true⟩=S:=by
     unfold Mn.set
     rw [List.set_eq_of_length_le (by omega)]
    simp only
    rw [e]
    split<;>exact h
  ·exact h
 ·exact h
theorem gives_up (rec:List UInt8) (l:List Nat) (j:Nat):∀S:Mn,(S.at j).up=true→((l.foldl (giveM rec) S).at j).up=true:=by
 induction l with
 | nil=>exact fun S h=>h
 | cons a l ih=>exact fun S h=>ih _ (give_up rec S a j h)
theorem act_give (S:Mn) {n q:Nat} (h5:n≤5) (hq:q<n) (rec:List UInt8):S.submit q rec=S.act n ⟨6,(q:Int),0,0,rec⟩:=by
 unfold Mn.act
 simp only
 rw [if_neg (by decide),if_neg (by decide),if_neg (by decide),if_pos trivial,actI_same n q h5 hq]
theorem act_crash (S:Mn) {n q:Nat} (h5:n≤5) (hq:q<n) (P:Int):S.crash q P=S.act n ⟨4,(q:Int),0,P,[]⟩:=by
 unfold Mn.act
 simp only
 rw [if_neg (by decide),if_pos trivial,actI_same n q h5 hq]
theorem act_back (S:Mn) {n q:Nat} (h5:n≤5) (hq:q<n):S.back n q=S.act n ⟨5,(q:Int),0,0,[]⟩:=by
 unfold Mn.act
 simp only
 rw [if_neg (by decide),if_neg (by decide),if_pos trivial,actI_same n q h5 hq]
theorem recX_at {R:List (List UInt8)} {l:List UInt8} {j:Nat} (hj:j<R.length) (h1:1≤(R.getD j []).length) (h3:(R.getD j []).length≤300):recX (R++[l]) (j+1)=R.getD j []:=by
 have e:(R++[l]).getD (j+1 - 1) [0]=R.getD j []:=by
  simp [List.getD_eq_getElem?_getD,List.getElem?_append_left hj,hj]
 unfold recX
 rw [if_neg (by omega),e,if_pos ⟨h1,h3⟩]
theorem recX_last {R:List (List UInt8)} {l:List UInt8} (h1:1≤l.length) (h3:l.length≤300):recX (R++[l]) (R.length+1)=l:=by
 have e:(R++[l]).getD (R.length+1 - 1) [0]=l:=by simp [List.getD_eq_getElem?_getD]
 unfold recX
 rw [if_neg (by omega),e,if_pos ⟨h1,h3⟩]
set_option maxHeartbeats 8000000 in
theorem stays_said (n:Int) (ro:Option Addr) (m cp:Nat) (R:List (List UInt8)) (ko:Option Addr) (kn kc:Nat) (K:List Int) (w:World) (hn0:(Lit.int .i64 n).wf=true) (h:IsBC w ro m R) (hm:m≤140737488355328) (hk:IsI w ko kn kc K) (hkn:kn≤140737488355328) (hkr:∀z∈K, -9223372036854775808≤z∧z≤9223372036854775807) :
  Calls Try.prog 5 #[.int .i64 n,.slice ro m cp,.slice ko kn kc] w fun e w'=>e = .returned (.bool true)∧Below w.heap.size w w':=by
 have hn:=lit_sc hn0
 clear hn0
 have HR:=Lib.hid h
 have HK:=Lib.hid hk
 have HKR:=Lib.hid hkr
 clear h hk hkr
 go_enter Try.func5,Try.ntmps5
 go_wp2_with fail
 refine awake_any.mono ?_
 rintro e w1 ⟨rfl,hb1⟩
 have HB1:=Lib.hid hb1
 clear hb1
 by_cases hn1:n<1
 ·go_wp2_with fail
  go_ret
  exact ⟨rfl,HB1.out⟩
 by_cases hn5:5<n
 ·go_wp2_with fail
  go_ret
  exact ⟨rfl,HB1.out⟩
 by_cases hm10:10<(m:Int)
 ·go_wp2_with fail
  go_ret
  exact ⟨rfl,HB1.out⟩
 rcases (Decidable.em ((kn:Int)=n)).symm with hkn2 | hkn2
 ·have hkn3:((kn:Int) != n)=true:=by simpa using hkn2
  go_wp2_with fail
  go_ret
  exact ⟨rfl,HB1.out⟩
 subst hkn2
 have hk1:1≤kn:=by omega
 have hk5:kn≤5:=by omega
 have hm2:m≤10:=by omega
 have hkk:((kn:Int) != (kn:Int))=false:=by simp
 go_wp2_with fail
 refine (begun_any (A:=[]) kn hk5 (fun b hb=>by cases hb)).mono ?_
 rintro e w3 ⟨c,A3,Z3,rfl,hs3,hm3⟩
 have HL3:Hid (Ls w w3 c kn (Mn.begun kn) []):=Lib.hid (LsA.begun (A2:=[]) HB1.out hs3 hm3).ls
 have HBI:=Lib.hid (binv_begun kn hk1 hk5)
 clear hs3 hm3
 go_wp2_with fail
 have hhz:∀x,X.zN x=(recX (R++[[108,97,115,116]]) x).isEmpty:=recX_ne _
 have hhf:=recX_len (R++[[108,97,115,116]])
 have HST:=Lib.hid (mr_start hhz hhf hk1 hk5 (runs kn hk1 hk5))
 obtain ⟨A,Z,hls⟩:=HL3.out
 refine (calm_any hls.sy HBI.out.sv 60 (by omega) (by omega) hk1).mono ?_
 rintro e w4 ⟨rfl,hs4⟩
 have HL4:Hid (Ls w w4 c kn (mrM kn (recX (R++[[108,97,115,116]])) 0) []):=Lib.hid (hls.step hs4)
 have hcm:=HST.out.1
 clear hls hs4
 rw [hcm]
 go_wp2_with fail
 go_loopw [8] (fun i wr=>∃j:Nat,j≤m∧i = .int .i64 (j:Int)∧Ls w wr c kn (mrM kn (recX (R++[[108,97,115,116]])) j) []∧(∀i,i<j→1≤(R.getD i []).length∧(R.getD i []).length≤300)) (fun i _=>m - (intOf i).toNat)
 case atStart=>exact ⟨0,Nat.zero_le _,rfl,HL4.out,fun i hi=>by omega⟩
 case round =>
  obtain ⟨j,hj,rfl,⟨A,Z,hls⟩,hgood⟩:=hrel
  rename World=>wr
  have HLS:=Lib.hid hls
  have HG:=Lib.hid hgood
  clear hls hgood
  have q6:IntKind.i64.wrap ((j:Int)+1)=(j:Int)+1:=IntWalk.i64_in _ (by omega)
  by_cases hjm:j<m
  ·have hjm2:(j:Int)<(m:Int):=by omega
   obtain ⟨b,off,rfl,hat⟩:∃b off,ro=some ⟨b,off,none⟩∧∀i,i<m→∃a m c,w.cell? ⟨b,off+i,none⟩=some (.slice a m c)∧IsB w a m c (R.getD i [])∧m≤140737488351232∧m≤c:=by
    rcases HR.out.at_ with h0 | h0
    ·omega
    ·exact h0
   obtain ⟨ra,rq,rc,g1,g2,g3,g4⟩:=hat j hjm
   obtain ⟨k4,hz,hl⟩:=IsBC.z (i:=j) g1 g2 g4 HLS.out.age HLS.out.bel
   have HZZ:=Lib.hid hz
   have HRL:=Lib.hid hl
   have HGG:=Lib.hid (And.intro g1 (And.intro g2 g4))
   clear hat g1 g2 g4 hz hl
   by_cases hl1:(rq:Int)<1
   ·go_wp2_with fail
    go_ret
    exact ⟨rfl,HLS.out.bel⟩
   by_cases hl3:300<(rq:Int)
   ·go_wp2_with fail
    go_ret
    exact ⟨rfl,HLS.out.bel⟩
   have HMR:=Lib.hid (mr_ok hhz hhf hk1 hk5 (runs kn hk1 hk5) j (by omega))
   have HUP:Hid (∀q,q<kn→((mrM kn (recX (R++[[108,97,115,116]])) j).at q).up=true):=Lib.hid (fun q hq=>(HMR.out.1.nd q (by rw [HMR.out.1.len,HMR.out.2.sv.nl];exact hq)).1)
   have HLJ:=Lib.hid HLS.out.ls
   have HQ:Hid ((mrM kn (recX (R++[[108,97,115,116]])) j).gn≤1+j*kn):=Lib.hid HMR.out.2.gn
   have hjk:j*kn≤10*5:=Nat.mul_le_mul (by omega) hk5
   have hjk2:j*(10*kn)≤10*50:=Nat.mul_le_mul (by omega) (by omega)
   go_wp2_with fail
   go_loopw [9] (fun i wr=>∃q:Nat,q≤kn∧i = .int .i64 (q:Int)∧Ls w wr c kn ((List.range q).foldl (giveM (R.getD j [])) (mrM kn (recX (R++[[108,97,115,116]])) j)) []) (fun i _=>kn - (intOf i).toNat)
   case atStart=>exact ⟨0,Nat.zero_le _,rfl,HLJ.out⟩
   case round =>
    obtain ⟨q,hq,rfl,⟨A6,Z6,hls6⟩⟩:=hrel
    rename World=>w6
    have q7:IntKind.i64.wrap ((q:Int)+1)=(q:Int)+1:=IntWalk.i64_in _ (by omega)
    have HL6:=Lib.hid hls6
    have HB6:=Lib.hid (HMR.out.2.gives (R.getD j []) q hq)
    by_cases hqk:q<kn
    ·have hqk2:(q:Int)<(kn:Int):=by omega
     have HU6:=Lib.hid (gives_up (R.getD j []) (List.range q) q _ (HUP.out q hqk))
     have HE6:Hid ((List.range (q+1)).foldl (giveM (R.getD j [])) (mrM kn (recX (R++[[108,97,115,116]])) j)=giveM (R.getD j []) ((List.range q).foldl (giveM (R.getD j [])) (mrM kn (recX (R++[[108,97,115,116]])) j)) q):=Lib.hid (by rw [List.range_succ,List.foldl_append];rfl)
     generalize (List.range q).foldl (giveM (R.getD j [])) (mrM kn (recX (R++[[108,97,115,116]])) j)=S6 at *
     obtain ⟨Y,rs,ds,ls,Xs,vr,vd,gu,qv,gv,lv,hs,hzz⟩:=hls6.sy
     obtain ⟨gr,kr,evr,hkr,hrow⟩:=ptr_cell hs.rr (by omega)
     subst evr
     have hc0:w6.cell? ⟨c,0,none⟩=some (.slice (some ⟨gr,0,none⟩) kn kr):=by rw [cell_heap hs.cell];rfl
     have hrj:=hrow q hqk
     have HLD:=Lib.hid (leads_sy hs hzz q hqk HU6.out)
     have HSM:=Lib.hid (leadsS_same HB6.out q hqk HU6.out)
     clear hs hzz hrow hls6
     go_wp2_with fail
     refine HLD.out.mono ?_
     rintro e w7 ⟨rfl,hs7⟩
     rw [HSM.out.1] at hs7
     have h7:Ls w w7 c kn S6 []:=HL6.out.step hs7
     obtain ⟨A7,Z7,h7⟩:=h7
     have HL7:=Lib.hid h7
     clear hs7 h7
     cases hld:S6.leads q with
     | false =>
      have HN:Hid (Ls w w7 c kn (giveM (R.getD j []) S6 q) []):=Lib.hid (by unfold giveM;rw [hld];exact HL7.out.ls)
      clear hc0 hrj HLD
      go_wp2_with fail
      go_roundw
      case rel=>exact ⟨q+1,by omega,by simp,by rw [HE6.out];exact HN.out⟩
      case measure=>simp [intOf];omega
     | true =>
      obtain ⟨k7,hz7,hx7⟩:=IsBC.z (i:=j) HGG.out.1 HGG.out.2.1 HGG.out.2.2 HL7.out.age HL7.out.bel
      have HDO:Hid (Calls Try.prog 11 #[.pointer (some ⟨c,0,none⟩),.agg #[.int .i64 6,.int .i64 (q:Int),.int .i64 0,.int .i64 0,.slice ra rq rc]] w7 fun e w'=>e = .returned (.tuple #[])∧SyP w7 w' A7 Z7 c kn (S6.act kn ⟨6,(q:Int),0,0,R.getD j []⟩)):=Lib.hid (by
       have e:=HRL.out
       subst e
       exact do_any HL7.out.sy HB6.out ⟨6,(q:Int),0,0,R.getD j []⟩ ra rc hz7 (by show (R.getD j []).length≤300;omega) ⟨by show _≤(0:Int);decide,by show (0:Int)≤_;decide⟩ (by omega) (by omega))
      have HE:Hid (giveM (R.getD j []) S6 q=S6.act kn ⟨6,(q:Int),0,0,R.getD j []⟩):=Lib.hid (by unfold giveM;rw [if_pos hld,act_give S6 hk5 hqk])
      have kb:∀w,(Instr.build 31 #[(0,.int .i64 6),(1,.int .i64 (q:Int)),(4,.slice ra rq rc)]).run Try.prog w = .ok (.agg #[.int .i64 6,.int .i64 (q:Int),.int .i64 0,.int .i64 0,.slice ra rq rc]) w:=fun w=>run_build w 31 _ _ (by rfl)
      clear hc0 hrj HLD hz7 hx7
      go_wp2_with fail
      refine HDO.out.mono ?_
      rintro e w8 ⟨rfl,hs8⟩
      have HN:Hid (Ls w w8 c kn (giveM (R.getD j []) S6 q) []):=Lib.hid (by rw [HE.out];exact HL7.out.step hs8)
      clear hs8 HDO
      go_wp2_with fail
      go_roundw
      case rel=>exact ⟨q+1,by omega,by simp,by rw [HE6.out];exact HN.out⟩
      case measure=>simp [intOf];omega
    ·obtain rfl:q=kn:=by omega
     have hqk2:¬(q:Int)<(q:Int):=by omega
     have HREC:Hid (recX (R++[[108,97,115,116]]) (j+1)=R.getD j []):=Lib.hid (recX_at (by rw [HR.out.len];exact hjm) (by have:=HRL.out;omega) (by have:=HRL.out;omega))
     have HST2:Hid (OneM (recX (R++[[108,97,115,116]])) q j (60*q+j*(10*q)) (1+j*q) (mrM q (recX (R++[[108,97,115,116]])) j) (X.manyN q j).2):=Lib.hid (mr_step hhz hhf hk1 hk5 (runs q hk1 hk5) j (by omega))
     have HC2:Hid ((Mn.calm q 10 (givesM q (R.getD j []) (mrM q (recX (R++[[108,97,115,116]])) j))).1=true):=Lib.hid (by have:=HST2.out.calm;rw [HREC.out] at this;exact this)
     have HK2:Hid (((Mn.calm q 10 (givesM q (R.getD j []) (mrM q (recX (R++[[108,97,115,116]])) j))).2.look q).1=true):=Lib.hid (by have:=HST2.out.look;rw [HREC.out] at this;exact this)
     have HM2:Hid (((Mn.calm q 10 (givesM q (R.getD j []) (mrM q (recX (R++[[108,97,115,116]])) j))).2.look q).2=mrM q (recX (R++[[108,97,115,116]])) (j+1)):=Lib.hid (by rw [mr_succ,HREC.out];rfl)
     have HG2:Hid (((Mn.calm q 10 (givesM q (R.getD j []) (mrM q (recX (R++[[108,97,115,116]])) j))).2.look q).2.long.length=j+1):=Lib.hid (by
      have:=HST2.out.long
      rw [HREC.out] at this
      have e:(oneM q (R.getD j []) (mrM q (recX (R++[[108,97,115,116]])) j)).long=((Mn.calm q 10 (givesM q (R.getD j []) (mrM q (recX (R++[[108,97,115,116]])) j))).2.look q).2.long:=rfl
      rw [←e,this];simp)
     have HB7:=Lib.hid (HMR.out.2.gives (R.getD j []) q (Nat.le_refl _))
     have HL7:Hid (LsA w w6 A6 Z6 c q (givesM q (R.getD j []) (mrM q (recX (R++[[108,97,115,116]])) j)) []):=Lib.hid HL6.out
     have HB7:Hid (BInv q (60*q+j*(10*q)) (1+j*q+q) (givesM q (R.getD j []) (mrM q (recX (R++[[108,97,115,116]])) j))):=Lib.hid HB7.out
     have HN0:Hid (∀i,i<j+1→1≤(R.getD i []).length∧(R.getD i []).length≤300):=Lib.hid (fun i hi=>by
      by_cases e:i=j
      ·subst e;have:=HRL.out;omega
      ·exact HG.out i (by omega))
     generalize givesM q (R.getD j []) (mrM q (recX (R++[[108,97,115,116]])) j)=S7 at *
     have HDC:=Lib.hid (calm_any HL7.out.sy HB7.out.sv 10 (by omega) (by omega) hk1)
     clear hls6 HL6 HB6
     go_wp2_with fail
     refine HDC.out.mono ?_
     rintro e w8 ⟨he,hs8⟩
     rw [HC2.out] at he
     subst he
     have HB8:=Lib.hid (HB7.out.calm 10)
     have HL8:=Lib.hid (HL7.out.step hs8)
     clear hs8 HDC
     obtain ⟨A8,Z8,hl8⟩:=HL8.out
     have HDL:=Lib.hid (look_any hl8.sy (fun i hi hu=>(HB8.out.up i hi hu).1.wf) hk1)
     have HL8:=Lib.hid hl8
     clear hl8
     go_wp2_with fail
     refine HDL.out.mono ?_
     rintro e w9 ⟨he,hs9⟩
     rw [HK2.out] at he
     subst he
     have HL9:Hid (Ls w w9 c q (mrM q (recX (R++[[108,97,115,116]])) (j+1)) []):=Lib.hid (by
      have:=HL8.out.step hs9
      rw [HM2.out] at this
      exact this)
     rw [HM2.out] at hs9
     obtain ⟨A9,Z9,⟨Y9,rs9,ds9,ls9,Xs9,vr9,vd9,gu9,qv9,gv9,lgv9,hs,hz9⟩,hm9⟩:=hs9
     have hlg:=hs.long
     obtain ⟨al,cal,e9,_,_,_⟩:=immL_at hlg
     have HAL:Hid ((mrM q (recX (R++[[108,97,115,116]])) (j+1)).long.length=j+1):=Lib.hid (by rw [←HM2.out];exact HG2.out)
     rw [HAL.out] at e9
     subst e9
     have hc5:w9.cell? ⟨c,5,none⟩=some (.slice al (j+1) cal):=by rw [cell_heap hs.cell];rfl
     clear hs hz9 hm9 hlg HDL
     have hne:((((j+1:Nat):Int)) != (j:Int)+1)=false:=by simp
     go_wp2_with fail
     go_roundw
     case rel=>exact ⟨j+1,by omega,by simp,HL9.out,HN0.out⟩
     case measure=>simp [intOf];omega
  ·obtain rfl:j=m:=by omega
   have hjm2:¬(j:Int)<(j:Int):=by omega
   have HMR:=Lib.hid (mr_ok hhz hhf hk1 hk5 (runs kn hk1 hk5) j (by omega))
   have HLJ:Hid (Ls w wr c kn (mrM kn (recX (R++[[108,97,115,116]])) j) []):=Lib.hid HLS.out.ls
   have hjk:j*kn≤10*5:=Nat.mul_le_mul (by omega) hk5
   have hjk2:j*(10*kn)≤10*50:=Nat.mul_le_mul (by omega) (by omega)
   have HEND:=Lib.hid (mr_end hhz hhf hk1 hk5 (runs kn hk1 hk5) j (by omega) K)
   go_wp2_with fail
   go_loopw [10] (fun i wr=>∃q:Nat,q≤kn∧i = .int .i64 (q:Int)∧Ls w wr c kn ((List.range q).foldl (fun S i=>S.crash i (K.getD i 0)) (mrM kn (recX (R++[[108,97,115,116]])) j)) []) (fun i _=>kn - (intOf i).toNat)
   case atStart=>exact ⟨0,Nat.zero_le _,rfl,HLJ.out⟩
   case round =>
    obtain ⟨q,hq,rfl,⟨A6,Z6,hls6⟩⟩:=hrel
    rename World=>w6
    have q7:IntKind.i64.wrap ((q:Int)+1)=(q:Int)+1:=IntWalk.i64_in _ (by omega)
    have HL6:=Lib.hid hls6
    have HB6:=Lib.hid (HMR.out.2.crashes K q hq)
    by_cases hqk:q<kn
    ·have hqk2:(q:Int)<(kn:Int):=by omega
     have HE6:Hid ((List.range (q+1)).foldl (fun S i=>S.crash i (K.getD i 0)) (mrM kn (recX (R++[[108,97,115,116]])) j)=((List.range q).foldl (fun S i=>S.crash i (K.getD i 0)) (mrM kn (recX (R++[[108,97,115,116]])) j)).crash q (K.getD q 0)):=Lib.hid (by rw [List.range_succ,List.foldl_append];rfl)
     generalize (List.range q).foldl (fun S i=>S.crash i (K.getD i 0)) (mrM kn (recX (R++[[108,97,115,116]])) j)=S6 at *
     obtain ⟨kb,ko2,rfl,hkat⟩:∃b off,ko=some ⟨b,off,none⟩∧∀i,i<kn→w.cell? ⟨b,off+i,none⟩=some (.int .i64 (K.getD i 0)):=by
      rcases HK.out.at_ with h0 | h0
      ·omega
      ·exact h0
     have k6:w6.cell? ⟨kb,ko2+q,none⟩=some (.int .i64 (K.getD q 0)):=cell_later HL6.out.bel (hkat q hqk)
     have HKP:=Lib.hid (HKR.out (K.getD q 0) (by
      rw [List.getD_eq_getElem?_getD,List.getElem?_eq_getElem (by rw [HK.out.len];exact hqk)]
      exact List.getElem_mem _))
     have HDO:Hid (Calls Try.prog 11 #[.pointer (some ⟨c,0,none⟩),.agg #[.int .i64 4,.int .i64 (q:Int),.int .i64 0,.int .i64 (K.getD q 0),.slice none 0 0]] w6 fun e w'=>e = .returned (.tuple #[])∧SyP w6 w' A6 Z6 c kn (S6.act kn ⟨4,(q:Int),0,K.getD q 0,[]⟩)):=Lib.hid (do_any HL6.out.sy HB6.out ⟨4,(q:Int),0,K.getD q 0,[]⟩ none 0 (.inl rfl) (by show (0:Nat)≤300;omega) HKP.out (by omega) (by omega))
     have HE:Hid (S6.crash q (K.getD q 0)=S6.act kn ⟨4,(q:Int),0,K.getD q 0,[]⟩):=Lib.hid (act_crash S6 hk5 hqk (K.getD q 0))
     have kbd:∀w,(Instr.build 31 #[(0,.int .i64 4),(1,.int .i64 (q:Int)),(3,.int .i64 (K.getD q 0))]).run Try.prog w = .ok (.agg #[.int .i64 4,.int .i64 (q:Int),.int .i64 0,.int .i64 (K.getD q 0),.slice none 0 0]) w:=fun w=>run_build w 31 _ _ (by rfl)
     clear hkat hls6
     generalize K.getD q 0=kp at *
     go_wp2_with fail
     refine HDO.out.mono ?_
     rintro e w8 ⟨rfl,hs8⟩
     have HN:Hid (Ls w w8 c kn (S6.crash q kp) []):=Lib.hid (by rw [HE.out];exact HL6.out.step hs8)
     clear hs8 HDO
     go_wp2_with fail
     go_roundw
     case rel=>exact ⟨q+1,by omega,by simp,by rw [HE6.out];exact HN.out⟩
     case measure=>simp [intOf];omega
    ·obtain rfl:q=kn:=by omega
     have hqk2:¬(q:Int)<(q:Int):=by omega
     have HL7:Hid (LsA w w6 A6 Z6 c q (crashM K q (mrM q (recX (R++[[108,97,115,116]])) j)) []):=Lib.hid hls6
     have HB7:Hid (BInv q (60*q+j*(10*q)) (1+j*q) (crashM K q (mrM q (recX (R++[[108,97,115,116]])) j))):=Lib.hid (HMR.out.2.crashes K q (Nat.le_refl _))
     have HDN:Hid ((backM q { crashM K q (mrM q (recX (R++[[108,97,115,116]])) j) with q:=[]})=(List.range q).foldl (fun S i=>S.back q i) { crashM K q (mrM q (recX (R++[[108,97,115,116]])) j) with q:=[]}):=Lib.hid rfl
     clear hls6 HL6 HB6 HLS HLJ
     generalize hS7:crashM K q (mrM q (recX (R++[[108,97,115,116]])) j)=S7 at *
     clear hS7
     obtain ⟨Y,rs,ds,ls,Xs,vr,vd,gu,qv,gv,lv,hs,hzz⟩:=HL7.out.sy
     have hc3:=free_heap hs.cell 3
     have hcq:∃v,w6.cell? ⟨c,3,none⟩=some v:=⟨_,by rw [cell_heap hs.cell];rfl⟩
     obtain ⟨vq,hcq⟩:=hcq
     have HLQ:=Lib.hid (HL7.out.step (hs.noq hzz))
     have HBQ:Hid (BInv q (60*q+j*(10*q)) (1+j*q) { S7 with q:=[]}):=Lib.hid (HB7.out.ofq (q:=[]) (fun m hm=>by cases hm) (by simp))
     clear hs hzz
     go_wp2_with fail
     generalize w6.setCell ⟨c,3,none⟩ (.slice none 0 0)=w7 at *
     go_loopw [11] (fun i wr=>∃p:Nat,p≤q∧i = .int .i64 (p:Int)∧Ls w wr c q ((List.range p).foldl (fun (S:Mn) i=>S.back q i) { S7 with q:=[]}) []) (fun i _=>q - (intOf i).toNat)
     case atStart=>exact ⟨0,Nat.zero_le _,rfl,HLQ.out⟩
     case round =>
      obtain ⟨p,hp,rfl,⟨A8,Z8,hls8⟩⟩:=hrel
      rename World=>w8
      have q8:IntKind.i64.wrap ((p:Int)+1)=(p:Int)+1:=IntWalk.i64_in _ (by omega)
      have HL8:=Lib.hid hls8
      have HB8:=Lib.hid (HBQ.out.backs p hp)
      by_cases hpq:p<q
      ·have hpq2:(p:Int)<(q:Int):=by omega
       have HE6:Hid ((List.range (p+1)).foldl (fun (S:Mn) i=>S.back q i) { S7 with q:=[]}=((List.range p).foldl (fun (S:Mn) i=>S.back q i) { S7 with q:=[]}).back q p):=Lib.hid (by rw [List.range_succ,List.foldl_append];rfl)
       generalize (List.range p).foldl (fun (S:Mn) i=>S.back q i) { S7 with q:=[]}=S8 at *
       have HDO:Hid (Calls Try.prog 11 #[.pointer (some ⟨c,0,none⟩),.agg #[.int .i64 5,.int .i64 (p:Int),.int .i64 0,.int .i64 0,.slice none 0 0]] w8 fun e w'=>e = .returned (.tuple #[])∧SyP w8 w' A8 Z8 c q (S8.act q ⟨5,(p:Int),0,0,[]⟩)):=Lib.hid (do_any HL8.out.sy HB8.out ⟨5,(p:Int),0,0,[]⟩ none 0 (.inl rfl) (by show (0:Nat)≤300;omega) ⟨by show _≤(0:Int);decide,by show (0:Int)≤_;decide⟩ (by omega) (by omega))
       have HE:Hid (S8.back q p=S8.act q ⟨5,(p:Int),0,0,[]⟩):=Lib.hid (act_back S8 hk5 hpq)
       have kbd:∀w,(Instr.build 31 #[(0,.int .i64 5),(1,.int .i64 (p:Int))]).run Try.prog w = .ok (.agg #[.int .i64 5,.int .i64 (p:Int),.int .i64 0,.int .i64 0,.slice none 0 0]) w:=fun w=>run_build w 31 _ _ (by rfl)
       clear hls8
       go_wp2_with fail
       refine HDO.out.mono ?_
       rintro e w9 ⟨rfl,hs9⟩
       have HN:Hid (Ls w w9 c q (S8.back q p) []):=Lib.hid (by rw [HE.out];exact HL8.out.step hs9)
       clear hs9 HDO
       go_wp2_with fail
       go_roundw
       case rel=>exact ⟨p+1,by omega,by simp,by rw [HE6.out];exact HN.out⟩
       case measure=>simp [intOf];omega
      ·obtain rfl:p=q:=by omega
       have hpq2:¬(p:Int)<(p:Int):=by omega
       have HL9:Hid (LsA w w8 A8 Z8 c p (backM p { S7 with q:=[]}) []):=Lib.hid hls8
       have HB9:Hid (BInv p (60*p+j*(10*p)) (1+j*p+p) (backM p { S7 with q:=[]})):=Lib.hid (HBQ.out.backs p (Nat.le_refl _))
       clear hls8 HL8 HB8
       generalize backM p { S7 with q:=[]}=S9 at *
       have HDC:=Lib.hid (calm_any HL9.out.sy HB9.out.sv 60 (by omega) (by omega) hk1)
       have HE1:=Lib.hid HEND.out.1
       have HE2:=Lib.hid HEND.out.2.1
       obtain ⟨T9,ho9,hb9,hu9⟩:=HEND.out.2.2
       have HUP:=Lib.hid hu9
       have HO9:=Lib.hid ho9
       have HBL:=Lib.hid hb9
       clear ho9 hb9 hu9
       go_wp2_with fail
       refine HDC.out.mono ?_
       rintro e w10 ⟨he,hs10⟩
       rw [HE1.out] at he
       subst he
       have HB10:=Lib.hid (HB9.out.calm 60)
       obtain ⟨A10,Z10,hl10⟩:=HL9.out.step hs10
       clear hs10 HDC
       have HDL:=Lib.hid (look_any hl10.sy (fun i hi hu=>(HB10.out.up i hi hu).1.wf) hk1)
       have HL10:=Lib.hid hl10
       clear hl10
       go_wp2_with fail
       refine HDL.out.mono ?_
       rintro e w11 ⟨he,hs11⟩
       rw [HE2.out] at he
       subst he
       have HL11:Hid (Ls w w11 c p ((Mn.calm p 60 S9).2.look p).2 []):=Lib.hid (HL10.out.step hs11)
       clear hs11 HDL HEND HE1 HE2 HL10 HB10
       generalize ((Mn.calm p 60 S9).2.look p).2=S11 at *
       have kc:=fun (w:World) (C:Array Value) (n c:Nat)=>Lib.run_convert_bytes_const (P:=Try.prog) w 29 5 C n c Try.underlying29 Try.underlying5
       go_wp2_with fail
       go_loopw [12] (fun i wr=>∃a:Nat,a≤p∧i = .int .i64 (a:Int)∧Ls w wr c p ((List.range a).foldl (giveM [108,97,115,116]) S11) []) (fun i _=>p - (intOf i).toNat)
       case atStart=>exact ⟨0,Nat.zero_le _,rfl,HL11.out⟩
       case round =>
        obtain ⟨a,ha,rfl,⟨A12,Z12,hls12⟩⟩:=hrel
        rename World=>w12
        have q9:IntKind.i64.wrap ((a:Int)+1)=(a:Int)+1:=IntWalk.i64_in _ (by omega)
        have HL12:=Lib.hid hls12
        have HB12:=Lib.hid (HBL.out.gives [108,97,115,116] a ha)
        by_cases hap:a<p
        ·have hap2:(a:Int)<(p:Int):=by omega
         have HU6:=Lib.hid (gives_up [108,97,115,116] (List.range a) a _ (HUP.out a hap))
         have HE6:Hid ((List.range (a+1)).foldl (giveM [108,97,115,116]) S11=giveM [108,97,115,116] ((List.range a).foldl (giveM [108,97,115,116]) S11) a):=Lib.hid (by rw [List.range_succ,List.foldl_append];rfl)
         generalize (List.range a).foldl (giveM [108,97,115,116]) S11=S6 at *
         obtain ⟨Y,rs,ds,ls,Xs,vr,vd,gu,qv,gv,lv,hs,hzz⟩:=hls12.sy
         obtain ⟨gr,kr,evr,hkr,hrow⟩:=ptr_cell hs.rr (by omega)
         subst evr
         have hc0:w12.cell? ⟨c,0,none⟩=some (.slice (some ⟨gr,0,none⟩) p kr):=by rw [cell_heap hs.cell];rfl
         have hrj:=hrow a hap
         have HLD:=Lib.hid (leads_sy hs hzz a hap HU6.out)
         have HSM:=Lib.hid (leadsS_same HB12.out a hap HU6.out)
         clear hs hzz hrow hls12
         go_wp2_with fail
         refine HLD.out.mono ?_
         rintro e w13 ⟨rfl,hs13⟩
         rw [HSM.out.1] at hs13
         have h13:Ls w w13 c p S6 []:=HL12.out.step hs13
         obtain ⟨A13,Z13,h13⟩:=h13
         have HL13:=Lib.hid h13
         clear hs13 h13
         cases hld:S6.leads a with
         | false =>
          have HN:Hid (Ls w w13 c p (giveM [108,97,115,116] S6 a) []):=Lib.hid (by unfold giveM;rw [hld];exact HL13.out.ls)
          clear hc0 hrj HLD
          go_wp2_with fail
          go_roundw
          case rel=>exact ⟨a+1,by omega,by simp,by rw [HE6.out];exact HN.out⟩
          case measure=>simp [intOf];omega
         | true =>
          have hb14:Below w13.heap.size w13 (w13.alloc (.cells #[.int .u8 108,.int .u8 97,.int .u8 115,.int .u8 116] 5 (4,5))):=(Below.refl _ _).alloc (Nat.le_refl _) _
          have HL14:Hid (LsA w (w13.alloc (.cells #[.int .u8 108,.int .u8 97,.int .u8 115,.int .u8 116] 5 (4,5))) A13 Z13 c p S6 []):=Lib.hid (HL13.out.below hb14)
          have HIB:Hid (Imm (w13.alloc (.cells #[.int .u8 108,.int .u8 97,.int .u8 115,.int .u8 116] 5 (4,5))) A13 (.slice (some ⟨w13.heap.size,0,none⟩) 4 4) [108,97,115,116]):=Lib.hid ⟨_,_,rfl,isB_new w13 [108,97,115,116] #[.int .u8 108,.int .u8 97,.int .u8 115,.int .u8 116] rfl 5 (4,5) w13.heap.size rfl 4 rfl 4,Nat.le_refl _,fun p hp=>by
           cases hp
           obtain ⟨Y,rs,ds,ls,Xs,vr,vd,gu,qv,gv,lgv,hs,hz⟩:=HL13.out.sy
           exact ⟨fun hm=>by have:=hs.alt _ hm;simp at this,by simp⟩⟩
          have HDO:Hid (Calls Try.prog 11 #[.pointer (some ⟨c,0,none⟩),.agg #[.int .i64 6,.int .i64 (a:Int),.int .i64 0,.int .i64 0,.slice (some ⟨w13.heap.size,0,none⟩) 4 4]] (w13.alloc (.cells #[.int .u8 108,.int .u8 97,.int .u8 115,.int .u8 116] 5 (4,5))) fun e w'=>e = .returned (.tuple #[])∧SyP (w13.alloc (.cells #[.int .u8 108,.int .u8 97,.int .u8 115,.int .u8 116] 5 (4,5))) w' A13 Z13 c p (S6.act p ⟨6,(a:Int),0,0,[108,97,115,116]⟩)):=Lib.hid (do_any HL14.out.sy HB12.out ⟨6,(a:Int),0,0,[108,97,115,116]⟩ _ 4 (.inr HIB.out) (by show (4:Nat)≤300;omega) ⟨by show _≤(0:Int);decide,by show (0:Int)≤_;decide⟩ (by omega) (by omega))
          have HE:Hid (giveM [108,97,115,116] S6 a=S6.act p ⟨6,(a:Int),0,0,[108,97,115,116]⟩):=Lib.hid (by unfold giveM;rw [if_pos hld,act_give S6 hk5 hap])
          have kb:∀w,(Instr.build 31 #[(0,.int .i64 6),(1,.int .i64 (a:Int)),(4,.slice (some ⟨w13.heap.size,0,none⟩) 4 4)]).run Try.prog w = .ok (.agg #[.int .i64 6,.int .i64 (a:Int),.int .i64 0,.int .i64 0,.slice (some ⟨w13.heap.size,0,none⟩) 4 4]) w:=fun w=>run_build w 31 _ _ (by rfl)
          clear hc0 hrj HLD hb14
          go_wp2_with fail
          refine HDO.out.mono ?_
          rintro e w15 ⟨rfl,hs15⟩
          have HN:Hid (Ls w w15 c p (giveM [108,97,115,116] S6 a) []):=Lib.hid (by rw [HE.out];exact HL14.out.step hs15)
          clear hs15 HDO HIB HL14 kb
          go_wp2_with fail
          go_roundw
          case rel=>exact ⟨a+1,by omega,by simp,by rw [HE6.out];exact HN.out⟩
          case measure=>simp [intOf];omega
        ·obtain rfl:a=p:=by omega
         have hap2:¬(a:Int)<(a:Int):=by omega
         have HREC:Hid ((recX (R++[[108,97,115,116]])) (j+1)=[108,97,115,116]):=Lib.hid (by have:=recX_last (R:=R) (l:=[108,97,115,116]) (by decide) (by decide);rw [HR.out.len] at this;exact this)
         have HC2:Hid ((Mn.calm a 10 (givesM a [108,97,115,116] S11)).1=true):=Lib.hid (by have:=HO9.out.calm;rw [HREC.out] at this;exact this)
         have HK2:Hid (((Mn.calm a 10 (givesM a [108,97,115,116] S11)).2.look a).1=true):=Lib.hid (by have:=HO9.out.look;rw [HREC.out] at this;exact this)
         have HG2:Hid (((Mn.calm a 10 (givesM a [108,97,115,116] S11)).2.look a).2.long=(List.range (j+1)).map fun i=>(recX (R++[[108,97,115,116]])) (i+1)):=Lib.hid (by
          have:=HO9.out.long
          rw [HREC.out] at this
          exact this)
         have HL13:Hid (LsA w w12 A12 Z12 c a (givesM a [108,97,115,116] S11) []):=Lib.hid hls12
         have HB13:Hid (BInv a 2000 (200+a) (givesM a [108,97,115,116] S11)):=Lib.hid (HBL.out.gives [108,97,115,116] a (Nat.le_refl _))
         clear hls12 HL12 HB12
         generalize givesM a [108,97,115,116] S11=S12 at *
         have HDC:=Lib.hid (calm_any HL13.out.sy HB13.out.sv 10 (by omega) (by omega) hk1)
         go_wp2_with fail
         refine HDC.out.mono ?_
         rintro e w13 ⟨he,hs13⟩
         rw [HC2.out] at he
         subst he
         have HB14:=Lib.hid (HB13.out.calm 10)
         obtain ⟨A14,Z14,hl14⟩:=HL13.out.step hs13
         clear hs13 HDC
         have HDL:=Lib.hid (look_any hl14.sy (fun i hi hu=>(HB14.out.up i hi hu).1.wf) hk1)
         have HL14:=Lib.hid hl14
         clear hl14
         go_wp2_with fail
         refine HDL.out.mono ?_
         rintro e w15 ⟨he,hs15⟩
         rw [HK2.out] at he
         subst he
         obtain ⟨A15,Z15,hl15⟩:=HL14.out.step hs15
         have HBL15:=Lib.hid hl15.bel
         clear hs15 HDL
         obtain ⟨Y15,rs15,ds15,ls15,Xs15,vr15,vd15,gu15,qv15,gv15,lgv15,hs,hz15⟩:=hl15.sy
         have hlg:=hs.long
         rw [HG2.out] at hlg
         obtain ⟨al,cal,e9,_,_,hat9⟩:=immL_at hlg
         have e10:((List.range (j+1)).map fun i=>(recX (R++[[108,97,115,116]])) (i+1)).length=j+1:=by simp
         rw [e10] at e9 hat9
         subst e9
         have hc5:w15.cell? ⟨c,5,none⟩=some (.slice al (j+1) cal):=by rw [cell_heap hs.cell];rfl
         obtain ⟨gl,e11,_⟩:=hat9 0 (by omega)
         subst e11
         have HAT:Hid (∀i,i<j+1→∃a m k,w15.cell? ⟨gl,i,none⟩=some (.slice a m k)∧IsB w15 a m k ((recX (R++[[108,97,115,116]])) (i+1))):=Lib.hid (fun i hi=>by
          obtain ⟨g2,e12,h12⟩:=hat9 i hi
          cases e12
          obtain ⟨x1,x2,x3,x4,x5⟩:=h12 w15 (Below.refl _ _)
          have e13:((List.range (j+1)).map fun i=>(recX (R++[[108,97,115,116]])) (i+1)).getD i []=(recX (R++[[108,97,115,116]])) (i+1):=by simp [List.getD_eq_getElem?_getD,hi]
          rw [e13] at x5
          exact ⟨x1,x2,x3,x4,x5⟩)
         clear hs hz15 hlg hat9 hl15 e10
         have hne:((((j+1:Nat):Int)) != (j:Int)+1)=false:=by simp
         go_wp2_with fail
         go_loopw [13] (fun i wr=>∃x:Nat,x≤j∧i = .int .i64 (x:Int)∧Below w15.heap.size w15 wr) (fun i _=>j - (intOf i).toNat)
         case atStart=>exact ⟨0,Nat.zero_le _,rfl,Below.refl _ _⟩
         case round =>
          obtain ⟨x,hx,rfl,hbw⟩:=hrel
          rename World=>wx
          have q11:IntKind.i64.wrap ((x:Int)+1)=(x:Int)+1:=IntWalk.i64_in _ (by omega)
          have HBW:=Lib.hid hbw
          clear hbw
          by_cases hxj:x<j
          ·have hxj2:(x:Int)<(j:Int):=by omega
           obtain ⟨b,off,rfl,hat⟩:∃b off,ro=some ⟨b,off,none⟩∧∀i,i<j→∃a m c,w.cell? ⟨b,off+i,none⟩=some (.slice a m c)∧IsB w a m c (R.getD i [])∧m≤140737488351232∧m≤c:=by
            rcases HR.out.at_ with h0 | h0
            ·omega
            ·exact h0
           obtain ⟨ra,rq,rc,g1,g2,_,_⟩:=hat x hxj
           obtain ⟨la,lq,lc,u1,u2⟩:=HAT.out x (by omega)
           have hgx:=HG.out x hxj
           rw [recX_at (by rw [HR.out.len];exact hxj) hgx.1 hgx.2] at u2
           have hc5x:wx.cell? ⟨c,5,none⟩=some (.slice (some ⟨gl,0,none⟩) (j+1) cal):=cell_later HBW.out hc5
           have u1x:wx.cell? ⟨gl,x,none⟩=some (.slice la lq lc):=cell_later HBW.out u1
           have g1x:wx.cell? ⟨b,off+x,none⟩=some (.slice ra rq rc):=cell_later (HBL15.out.trans (HBW.out.mono HBL15.out.size)) g1
           have kcv1:∀q,(convert 29 9 (.slice la lq lc)).run Try.prog (wx.drewN q) = .ok (.string (strB (R.getD x []))) (wx.drewN q):=fun q=>conv_any _ _ _ _ _ (u2.below (HBW.out.trans ((below_drewN wx q).mono HBW.out.size)))
           have kcv2:∀q,(convert 29 9 (.slice ra rq rc)).run Try.prog (wx.drewN q) = .ok (.string (strB (R.getD x []))) (wx.drewN q):=fun q=>conv_any _ _ _ _ _ ((g2.below (HBL15.out.trans (HBW.out.mono HBL15.out.size))).below (below_drewN wx q))
           clear hat g1 g2 u1 u2 hgx hc5
           generalize strB (R.getD x [])=sx at *
           have heq:(sx.toList==sx.toList)=true:=by simp
           have hxl:(x:Int)<((j+1:Nat):Int):=by omega
           generalize hL:j+1=L at hc5x hxl
           clear hL
           go_upto_region 41 with (fail)
           go_quiet (fail)
           go_wp2_with fail
           go_roundw
           case rel=>exact ⟨x+1,by omega,by simp,HBW.out.trans ((below_drewN _ _).mono HBW.out.size)⟩
           case measure=>simp [intOf];omega
          ·obtain rfl:x=j:=by omega
           have hxj2:¬(x:Int)<(x:Int):=by omega
           obtain ⟨la,lq,lc,u1,u2⟩:=HAT.out x (by omega)
           have HREC:Hid ((recX (R++[[108,97,115,116]])) (x+1)=[108,97,115,116]):=Lib.hid (by have:=recX_last (R:=R) (l:=[108,97,115,116]) (by decide) (by decide);rw [HR.out.len] at this;exact this)
           rw [HREC.out] at u2
           have hc5x:wx.cell? ⟨c,5,none⟩=some (.slice (some ⟨gl,0,none⟩) (x+1) cal):=cell_later HBW.out hc5
           have u1x:wx.cell? ⟨gl,x,none⟩=some (.slice la lq lc):=cell_later HBW.out u1
           have kcv1:(convert 29 9 (.slice la lq lc)).run Try.prog wx = .ok (.string (strB [108,97,115,116])) wx:=conv_any _ _ _ _ _ (u2.below HBW.out)
           have heq:((strB [108,97,115,116]).toList==[108,97,115,116])=true:=by decide +kernel
           have hxl:(x:Int)<((x+1:Nat):Int):=by omega
           generalize hL:x+1=L at hc5x hxl
           clear hL
           have HF:=Lib.hid (HBL15.out.trans (HBW.out.mono HBL15.out.size))
           clear u1 u2 hc5
           generalize strB [108,97,115,116]=sx at *
           go_wp2_with fail
           go_ret
           exact ⟨rfl,HF.out⟩
end Go.Proofs.Ytnicaicjgaoolaa
