/-
  What the proof of the law leans on: contracts of the program's functions, one behind another. No condition.
-/
import Derived.Test.YtnhefallmioefaaGreatV0
import Derived.Test.YtnhefallmioefaaGreatV15
import Derived.Test.YtnhefallmioefaaGreatV3
import Derived.Test.YtnhefallmioefaaGreatV13
set_option linter.unusedVariables false
set_option linter.unusedSimpArgs false
namespace Go.Proofs.YtnhefallmioefaaGreat
open Go.RowKit Go.ChangeMaps Go.WideMaps Go.Maps
set_option maxRecDepth 20000
section
variable {w w':World} {A Y:List Nat} {nb mb n:Nat} {qv v:Value} {q ms:List Msg} {es:Cuts}
def dG (es:Cuts) (m:Msg):Bool:=li es (lu m.frm m.dst)
theorem xm (ct:Msg->Bool) (q ms:List Msg) (j:Nat) (h:j<ms.length):(ms.take (j+1)).foldl (fz ct) q=fz ct ((ms.take j).foldl (fz ct) q) ms[j]:=by
 rw [<-bf h,fN];rfl
set_option maxHeartbeats 16000000 in
theorem vX (h:IsNt w A Y nb mb n qv q es) (hn:n<=5) (hq:q.length<=2000) (v:Value) (hr:MsRow w A v ms) (hg:∀m∈ms,gV m/\(0<=m.frm/\m.frm<(n:Int))/\0<=m.dst/\m.dst<(n:Int)) :
  Calls Tryz.prog 60 #[.pointer (some ⟨nb,0,none⟩),v] w λe w'=>(∃c:Int,e = .returned (.int .i64 c))/\NtP w w' A Y nb n mb (ms.foldl (fz (dG es)) q) es:=by
 have HR:=ab hr;have HG:=ab hg;have HST:=ab (λj (hj:j<ms.length)=>xm (dG es) q ms j hj);have HQLn:=ab (λj=>sI (dG es) (ms.take j) q hq);have HYA:=ab h.yA;have H0:Hid (NtP w w A Y nb n mb q es):=ab (h.ntp (az _ _));have HALL:Hid (ms.foldl (fz (dG es)) q=(ms.take ms.length).foldl (fz (dG es)) q):=ab (by rw [cK]);have hl:ms.length<=9223372036854775807:=by
  rcases hr with ⟨rfl,rfl⟩ | ⟨g,c',cur,rfl,h1,h2,_⟩
  ·simp
  ·omega
 have hsh:∃ao cc,v = .slice ao ms.length cc:=by
  rcases hr with ⟨rfl,rfl⟩ | ⟨g,c',cur,rfl,_⟩
  ·exact ⟨none,0,rfl⟩
  ·exact ⟨_,_,rfl⟩
 obtain ⟨ao,cc,rfl⟩:=hsh;clear h hr hg hq;go_enter Tryz.func60,Tryz.ntmps60
 go_wp2_with fail
 go_loopw [5,10] (λv i wr=>∃(j:Nat) (c:Int),j<=ms.length/\i = .int .i64 (j:Int)/\v = .int .i64 c/\NtP w wr A Y nb n mb ((ms.take j).foldl (fz (dG es)) q) es) (λ_ i _=>ms.length - (intOf i).toNat)
 case atStart=>exact ⟨0,0,aH _,rfl,rfl,H0.out⟩
 case round =>
  obtain ⟨j,cn,hj,rfl,rfl,hP⟩:=hrel;by_cases hlt:j<ms.length
  ·obtain ⟨A1,Y1,mb1,qv1,h1,X1⟩:=hP.open;have hr1:=HR.out.step X1.mv.mv.only HYA.out X1.mv.ext;rcases hr1 with ⟨_,h0⟩ | ⟨g,c',cur,ev,_,_,hgA,hgh,hat⟩
   ·rw [h0] at hlt;cases hlt
   cases ev;obtain ⟨mv,mu,k0,k1,k2,k3,k4,hmsg⟩:=hat j hlt;obtain ⟨f0,f1,f2⟩:=HG.out ms[j] (bO _);have HSTJ:=ab (HST.out j hlt);generalize ms[j]=x at *;have hk0:wr.cell? ⟨g,j*5,none⟩=some (.int .i64 x.frm):=by rw [af hgh];exact k0
   have hk1:wr.cell? ⟨g,j*5+1,none⟩=some (.int .i64 x.dst):=by rw [af hgh];exact k1
   have hk2:wr.cell? ⟨g,j*5+2,none⟩=some (.int .i64 x.kind):=by rw [af hgh];exact k2
   have hk3:wr.cell? ⟨g,j*5+3,none⟩=some mv:=by rw [af hgh];exact k3
   have hk4:wr.cell? ⟨g,j*5+4,none⟩=some mu:=by rw [af hgh];exact k4
   have HQL:Hid (((ms.take j).foldl (fz (dG es)) q).length<=2000):=ab (HQLn.out j);generalize (ms.take j).foldl (fz (dG es)) q=Q at *;obtain ⟨⟨ax,cx,rfl⟩,ax2,bx,dx,rfl⟩:=hmsg.shapes;obtain ⟨O,hO⟩:∃O,O=lM x (.slice ax x.N.length cx) (.slice ax2 bx dx):=⟨_,rfl⟩
   have hBW:Below wr.heap.size wr (wr.alloc O):=(az _ _).alloc (ah _) O;have HNW:=ab (h1.below hBW);have HMSG:=ab (hmsg.below hBW);have HX1:=ab X1;have HN1:=ab h1;have HBW:=ab hBW;have HXC:=ab (aK wr O);have q6:IntKind.i64.wrap ((j:Int)+1)=(j:Int)+1:=IntWalk.i64_in _ (by omega);have HWF:=ab (x5 f1 f2 hn);have HL:=ab f0;have HF1:=ab f1;have HF2:=ab f2;have HO:=ab hO;unfold lM at hO;subst hO;clear hgh hat k0 k1 k2 k3 k4 h1 X1 hmsg hP f0 f1 f2 hBW;go_upto_region 5 with (fail)
   generalize wr.alloc (.cells #[.int .i64 x.frm,.int .i64 x.dst,.int .i64 x.kind,.slice ax x.N.length cx,.slice ax2 bx dx] 83)=W at *;obtain ⟨aq,cq,rfl,hnet⟩:=HNW.out.shape;have HNET:=ab hnet;unfold de at hnet;have x0:∀w',Below W.heap.size W w'->w'.cell? ⟨wr.heap.size,0,none⟩=some (.int .i64 x.frm):=λw' hb=>cell_later hb (by rw [af HXC.out];rfl);have x1:∀w',Below W.heap.size W w'->w'.cell? ⟨wr.heap.size,1,none⟩=some (.int .i64 x.dst):=λw' hb=>cell_later hb (by rw [af HXC.out];rfl);have a1:∀w',Below W.heap.size W w'->w'.cell? ⟨nb,1,none⟩=some (.int .i64 2000):=λw' hb=>cell_later hb (by rw [af hnet];rfl);have a2:∀w',Below W.heap.size W w'->w'.cell? ⟨nb,2,none⟩=some (.slice aq Q.length cq):=λw' hb=>cell_later hb (by rw [af hnet];rfl);have a3:∀w',Below W.heap.size W w'->w'.cell? ⟨nb,3,none⟩=some (.map (some mb1)):=λw' hb=>cell_later hb (by rw [af hnet];rfl);have HF:Hid (∀w',Below W.heap.size W w'->Calls Tryz.prog 76 #[.pointer (some ⟨nb,0,none⟩),.int .i64 x.frm] w' λe w''=>e = .returned (.bool true)/\w'=w''):=ab λw' hb=>by
    have:=kU (bd hb (aQ HNET.out) HNET.out) x.frm
    rwa [aJ HF1.out.1,aJ HF1.out.2] at this
   have HD:Hid (∀w',Below W.heap.size W w'->Calls Tryz.prog 76 #[.pointer (some ⟨nb,0,none⟩),.int .i64 x.dst] w' λe w''=>e = .returned (.bool true)/\w'=w''):=ab λw' hb=>by
    have:=kU (bd hb (aQ HNET.out) HNET.out) x.dst
    rwa [aJ HF2.out.1,aJ HF2.out.2] at this
   have hlk:∀w',Below W.heap.size W w'->(Instr.lookup 63 (.map (some mb1)) (jx (lu x.frm x.dst)) false).run Tryz.prog w' = .ok (.bool (li es (lu x.frm x.dst))) w':=λw' hb=>AQ (HNW.out.below hb).cut _ HWF.out;have HCT:Hid (dG es x=li es (lu x.frm x.dst)):=ab rfl;have HXS:Hid (∀w',Below W.heap.size W w'->w'.cell? ⟨wr.heap.size,0,none⟩=some (.int .i64 x.frm)/\w'.cell? ⟨wr.heap.size,1,none⟩=some (.int .i64 x.dst)/\w'.cell? ⟨wr.heap.size,2,none⟩=some (.int .i64 x.kind)/\w'.cell? ⟨wr.heap.size,3,none⟩=some (.slice ax x.N.length cx)/\w'.cell? ⟨wr.heap.size,4,none⟩=some (.slice ax2 bx dx)):=ab λw' hb =>
    ⟨x0 w' hb,x1 w' hb,cell_later hb (by rw [af HXC.out];rfl),cell_later hb (by rw [af HXC.out];rfl),cell_later hb (by rw [af HXC.out];rfl)⟩
   have HA2:=ab a2;clear hk0 hk1 hk2 hk3 hk4 hnet hgA;generalize hcb:li es (lu x.frm x.dst)=cb at *;generalize hql:Q.length=ql at *;have HQE:=ab hql;clear hcb hql;cases cb
   ·go_cut [48] (λu wx=>u = .bool (decide ((ql:Int)<2000))/\Below W.heap.size W wx)
    case first =>
     refine wp_region_held_drew (S:=λw'=>Below W.heap.size W w') (by kernel_rfl) (bq W) (λam=>?_);refine aB 0 ?_;refine aB 1 ?_;refine aB 2 ?_;refine fP (i:=3) (oi:={ dst:=some 17,op:=Op.call { callee:=Callee.value (Operand.func 76),args:=#[Operand.tmp 14,Operand.tmp 16],argTypes:=#[45,3]},type:=4,pos:=_,after:=#[{ on:=0,ground:=Ground.data },{ on:=2,ground:=Ground.data }],guard:=none }) (v:=(.bool true)) rfl (by kernel_rfl) (by kernel_rfl) (by kernel_rfl) (λ_ _ _ h=>h) (by rfl) 76 #[.pointer (some ⟨nb,0,none⟩),.int .i64 x.frm] (λw hSw=>by simp [execOp,resolve,invoke,Act.eval,Deferred.ofValue,Result.andThen]) (λw hSw=>HF.out w hSw) (by exact am) ?_;refine bH ?_;refine aB 4 ?_;refine aB 5 ?_;refine aB 6 ?_;refine aB 7 ?_;refine fP (i:=8) (oi:={ dst:=some 22,op:=Op.call { callee:=Callee.value (Operand.func 76),args:=#[Operand.tmp 19,Operand.tmp 21],argTypes:=#[45,3]},type:=4,pos:=_,after:=#[{ on:=5,ground:=Ground.data },{ on:=7,ground:=Ground.data },{ on:=4,ground:=Ground.chain },{ on:=4,ground:=Ground.guard }],guard:=some (4,true)}) (v:=(.bool true)) rfl (by kernel_rfl) (by kernel_rfl) (by kernel_rfl) (λ_ _ _ h=>h) (by rfl) 76 #[.pointer (some ⟨nb,0,none⟩),.int .i64 x.dst] (λw hSw=>by simp [execOp,resolve,invoke,Act.eval,Deferred.ofValue,Result.andThen]) (λw hSw=>HD.out w hSw) (by exact am) ?_;refine bH ?_;refine aB 9 ?_;refine aB 10 ?_;refine aB 11 ?_;refine aB 12 ?_;refine aB 13 ?_;refine aB 14 ?_;refine aB 15 ?_;refine aB 16 ?_;refine aB 17 ?_;refine aB 18 ?_;refine cC 19 λK hK=>?_;go_simp
     refine (pG _ _ _).mono ?_;rintro e w3 ⟨rfl,hb3⟩;go_wp2_with fail
     refine hK.out _ _ (am.trans (hb3.mono am.size)) (λam=>?_);clear hK K;refine bH ?_;clear hb3;refine aB 20 ?_;refine aB 21 ?_;refine aB 22 ?_;refine aB 23 ?_;refine aB 24 ?_;refine aB 25 ?_;refine aB 26 ?_;refine aB 27 ?_;refine aB 28 ?_;refine aB 29 ?_;refine aB 30 ?_;refine aB 31 ?_;refine aB 32 ?_;refine aB 33 ?_;refine aB 34 ?_;refine fI ?_;go_wp2_with fail
     go_meet
     exact ⟨rfl,am⟩
    case rest =>
    obtain ⟨rfl,hbx⟩:=hcut;clear x0 x1 a1 a2 a3 hlk;by_cases hfull:ql<2000
    ·have hfull2:decide ((ql:Int)<2000)=true:=aJ (by omega);rw [hfull2];have HAD:Hid (fz (dG es) Q x=Q++[x]):=ab (by unfold fz fK;rw [HCT.out,aw (by simp),aA (by rw [HQE.out];exact hfull)]);have HN:=ab (HNW.out.below hbx);have hM:=HMSG.out.below hbx;obtain ⟨xx0,xx1,xx2,xx3,xx4⟩:=HXS.out wc hbx;have c2:=HA2.out wc hbx;have HBX:=ab hbx;have HCP:Hid (∀w',Below wc.heap.size wc w'->Calls Tryz.prog 43 #[df x (.slice ax x.N.length cx) (.slice ax2 bx dx)] w' λe w''=>∃v' u',e = .returned (df x v' u')/\IsMsg w'' A1 x v' u'/\Below w'.heap.size w' w''):=ab λw' hb=>kC x _ _ w' (hM.below hb) HL.out (λb hb2=>aE (HN.out.alt b hb2) hb.size);unfold df at HCP;clear hM hbx hfull2;go_wp2_with fail
     go_region_law (first
      | (refine dm rfl λQ' hQ=>?_;refine ji rfl (.tmp 53) (.tmp 56) rfl (by exact HN6.out.q) (by exact HN6.out.yA) (by exact HN6.out.alt) (by exact HH6.out) (by exact HM6.out) (by have:=HQL.out;have:=HQE.out;omega) (by rfl) (by rfl) ?_;intro v9 w9 hqp hz9;obtain ⟨a9,n9,c9,e9⟩:=hqp.shape;subst e9;have hc9:=HN6.out.cell_qp hqp;unfold de at hc9;have hcb9:w9.cell? ⟨nb,2,none⟩=some (.slice aq ql cq):=(af hc9 2).trans rfl;have hfb9:=aM hc9 2;refine hQ _ _ ?_;clear hQ Q' hc9)
      | (go_simp;go_at_call 43;refine (HCP.out _ (by exact ⟨rfl,rfl,rfl,ah _,λ_ _=>rfl⟩)).mono ?_;rintro e w5 ⟨v5,u5,rfl,hv5,hb5⟩;obtain ⟨⟨av,cv,rfl⟩,av2,bv,cw,rfl⟩:=hv5.shapes;try dsimp only;have hb5':Below wc.heap.size wc w5:=⟨hb5.os,hb5.tape,hb5.output,hb5.size,hb5.block⟩;have ha25:=cell_later hb5' c2;have hbO:Below w5.heap.size w5 (w5.alloc (.cells #[.int .i64 x.frm,.int .i64 x.dst,.int .i64 x.kind,.slice av x.N.length cv,.slice av2 bv cw] 83)):=(az _ _).alloc (ah _) _;have ha25a:=cell_later hbO ha25;have HN6:=ab ((HN.out.below hb5').below hbO);have HM6:=ab (hv5.below hbO);have HH6:=ab (aK w5 (.cells #[.int .i64 x.frm,.int .i64 x.dst,.int .i64 x.kind,.slice av x.N.length cv,.slice av2 bv cw] 83));have HB6:=ab (hb5'.trans (hbO.mono hb5'.size));clear hb5 hv5 hb5' hbO))
     all_goals
      have HFI:=ab (NtX.trans HX1.out (NtP.later HN1.out HBW.out (NtP.later HNW.out HBX.out (NtP.later HN.out HB6.out (HN6.out.setq hqp (hz9 HN.out.z))))));clear hqp hz9 hcb9 hfb9 ha25 ha25a xx0 xx1 xx2 xx3 xx4 c2;go_wp2_with fail
      go_roundw
      case rel =>
       refine ⟨j+1,_,by omega,by simp,rfl,?_⟩;rw [HSTJ.out,HAD.out];exact HFI.out
      case measure=>simp [intOf];omega
    ·have hfull2:decide ((ql:Int)<2000)=false:=aW (by omega);rw [hfull2];have HAD:Hid (fz (dG es) Q x=Q):=ab (by unfold fz fK;rw [HCT.out,aw (by simp),aw (by rw [HQE.out];exact hfull)]);have HFI:=ab (NtX.trans HX1.out (NtP.later HN1.out HBW.out (HNW.out.ntp hbx)));clear hbx hfull2;go_wp2_with fail
     go_roundw
     case rel =>
      refine ⟨j+1,_,by omega,by simp,rfl,?_⟩;rw [HSTJ.out,HAD.out];exact HFI.out
     case measure=>simp [intOf];omega
   ·go_cut [48] (λu wx=>u = .bool false/\Below W.heap.size W wx)
    case first =>
     refine wp_region_held_drew (S:=λw'=>Below W.heap.size W w') (by kernel_rfl) (bq W) (λam=>?_);refine aB 0 ?_;refine aB 1 ?_;refine aB 2 ?_;refine fP (i:=3) (oi:={ dst:=some 17,op:=Op.call { callee:=Callee.value (Operand.func 76),args:=#[Operand.tmp 14,Operand.tmp 16],argTypes:=#[45,3]},type:=4,pos:=_,after:=#[{ on:=0,ground:=Ground.data },{ on:=2,ground:=Ground.data }],guard:=none }) (v:=(.bool true)) rfl (by kernel_rfl) (by kernel_rfl) (by kernel_rfl) (λ_ _ _ h=>h) (by rfl) 76 #[.pointer (some ⟨nb,0,none⟩),.int .i64 x.frm] (λw hSw=>by simp [execOp,resolve,invoke,Act.eval,Deferred.ofValue,Result.andThen]) (λw hSw=>HF.out w hSw) (by exact am) ?_;refine bH ?_;refine aB 4 ?_;refine aB 5 ?_;refine aB 6 ?_;refine aB 7 ?_;refine fP (i:=8) (oi:={ dst:=some 22,op:=Op.call { callee:=Callee.value (Operand.func 76),args:=#[Operand.tmp 19,Operand.tmp 21],argTypes:=#[45,3]},type:=4,pos:=_,after:=#[{ on:=5,ground:=Ground.data },{ on:=7,ground:=Ground.data },{ on:=4,ground:=Ground.chain },{ on:=4,ground:=Ground.guard }],guard:=some (4,true)}) (v:=(.bool true)) rfl (by kernel_rfl) (by kernel_rfl) (by kernel_rfl) (λ_ _ _ h=>h) (by rfl) 76 #[.pointer (some ⟨nb,0,none⟩),.int .i64 x.dst] (λw hSw=>by simp [execOp,resolve,invoke,Act.eval,Deferred.ofValue,Result.andThen]) (λw hSw=>HD.out w hSw) (by exact am) ?_;refine bH ?_;refine aB 9 ?_;refine aB 10 ?_;refine aB 11 ?_;refine aB 12 ?_;refine aB 13 ?_;refine aB 14 ?_;refine aB 15 ?_;refine aB 16 ?_;refine aB 17 ?_;refine aB 18 ?_;refine cC 19 λK hK=>?_;go_simp
     refine (pG _ _ _).mono ?_;rintro e w3 ⟨rfl,hb3⟩;go_wp2_with fail
     refine hK.out _ _ (am.trans (hb3.mono am.size)) (λam=>?_);clear hK K;refine bH ?_;clear hb3;refine aB 20 ?_;refine aB 21 ?_;refine aB 22 ?_;refine aB 23 ?_;refine bP 24 ?_;refine bP 25 ?_;refine bP 26 ?_;refine bP 27 ?_;refine bP 28 ?_;refine bP 29 ?_;refine bP 30 ?_;refine bP 31 ?_;refine bP 32 ?_;refine bP 33 ?_;refine aB 34 ?_;refine fI ?_;go_wp2_with fail
     go_meet
     exact ⟨rfl,am⟩
    case rest =>
    obtain ⟨rfl,hbx⟩:=hcut;clear x0 x1 a1 a2 a3 hlk;have HAD:Hid (fz (dG es) Q x=Q):=ab (by unfold fz;rw [HCT.out,aA rfl]);have HFI:=ab (NtX.trans HX1.out (NtP.later HN1.out HBW.out (HNW.out.ntp hbx)));clear hbx;go_wp2_with fail
    go_roundw
    case rel =>
     refine ⟨j+1,_,by omega,by simp,rfl,?_⟩;rw [HSTJ.out,HAD.out];exact HFI.out
    case measure=>simp [intOf];omega
  ·obtain rfl:j=ms.length:=by omega
   have HF:=ab hP;clear hP;go_wp2_with fail
   go_ret
   rw [HALL.out];exact ⟨⟨_,rfl⟩,HF.out⟩
end
theorem lQ (l:List (Int×Int×Int)) (i c:Nat) (hi:i<l.length) (hc:c<3):(eS l)[i*3+c]? = (lG (l.getD i (0,0,0)))[c]? := by
 have key:∀(l:List (Int×Int×Int)) (i:Nat),i<l.length->(l.flatMap lG)[i*3+c]? = (lG (l.getD i (0,0,0)))[c]? := by
  intro l;induction l with
  | nil=>intro i hi;simp at hi
  | cons x l ih =>
   intro i hi;cases i with
   | zero =>
    rw [kG,cI (by simp [lG];omega)];simp
   | succ i =>
    rw [kG,fk (by simp [lG];omega)];have:=ih i (by simpa using hi);rw [show (i+1)*3+c - (lG x).length=i*3+c by simp [lG];omega,this];simp
 unfold eS;rw [gZ];exact key l i hi
section
variable {w w':World} {A A' X X':List Nat} {r d l:Nat} {s s':Rp} {k k':Dk}
set_option maxHeartbeats 4000000 in
theorem Ab (h:Nd w A X r d l s k) (hw:Wf s k) (hck:s.clock<=1000000):Calls Tryz.prog 64 #[.pointer (some ⟨r,0,none⟩)] w λe w'=>e = .returned (.bool (jF s))/\Below w.heap.size w w':=by
 obtain ⟨al,cl,hc8,hl1,hl2⟩:=h.loglen;have hlb:=hw.logb;have HLT:=ab (λq=>eY (h.below (ak w q)) s.log.length (ah _) (by omega));obtain ⟨D,L,R,vl,gv,gn,gm,gh,h,hX⟩:=h;have hc0:w.cell? ⟨r,0,none⟩=some (.int .i64 (s.own:Int)):=by rw [af h.cell];rfl
 have hc16:w.cell? ⟨r,16,none⟩=some (.int .i64 (s.clock:Int)):=by rw [af h.cell];rfl
 have hc17:w.cell? ⟨r,17,none⟩=some (.slice (some ⟨gh,0,none⟩) s.n s.n):=by rw [af h.cell];rfl
 have hhl:=hw.hl;have HH:Hid (∀i,i<s.n->w.cell? ⟨gh,i*3,none⟩=some (.int .i64 (s.heard.getD i (0,0,0)).1)/\w.cell? ⟨gh,i*3+1,none⟩=some (.int .i64 (s.heard.getD i (0,0,0)).2.1)/\w.cell? ⟨gh,i*3+2,none⟩=some (.int .i64 (s.heard.getD i (0,0,0)).2.2)):=ab (λi hi=>⟨by
  rw [af h.heard];exact lQ s.heard i 0 (by omega) (by omega),by
  rw [af h.heard];exact lQ s.heard i 1 (by omega) (by omega),by
  rw [af h.heard];exact lQ s.heard i 2 (by omega) (by omega)⟩)
 have HR:Hid (∀i,i<s.n->0<=(s.heard.getD i (0,0,0)).1/\(s.heard.getD i (0,0,0)).1<=(s.clock:Int)):=ab (λi hi=>by
  have e:s.heard.getD i (0,0,0)=s.heard[i]'(by omega):=by simp [List.getD,show i<s.heard.length by omega]
  rw [e];exact hw.hrd _ (bO _))
 have HYES:Hid ((∀i,i<s.n->better s i (s.heard.getD i (0,0,0))=false)->jF s=true):=ab (λhh=>by
  unfold jF;rw [dI];intro i hi;rw [hh i (by have:=cW.1 hi;omega)];rfl)
 have HNO1:Hid (∀i,i<s.n->better s i (s.heard.getD i (0,0,0))=true->jF s=false):=ab (λi hi hb=>by
  unfold jF;rw [List.all_eq_false];exact ⟨i,cW.2 (by omega),by rw [hb];simp⟩)
 have HBT:Hid (∀i x,better s i x=(!(x.1==0||decide (4<(s.clock:Int) - x.1))&&(decide (bJ s.log s.log.length<x.2.2)||(x.2.2==bJ s.log s.log.length&&(decide ((s.log.length:Int)<x.2.1)||(x.2.1==(s.log.length:Int)&&decide (i<s.own))))))):=ab (λi x=>rfl);have hn5:=hw.n5;clear h hX hw hhl;generalize jF s=bm at *;generalize better s=bt at *;generalize bJ s.log s.log.length=lt at *;generalize s.log.length=sl at *;generalize s.n=n at *;generalize s.own=ow at *;generalize s.clock=ck at *;generalize s.heard=hd at *;go_enter Tryz.func64,Tryz.ntmps64
 go_upto_region 1 with (fail)
 refine wp_region_held_drew (S:=λw'=>w'.cell? ⟨r,8,none⟩=some (.slice al sl cl)) (by kernel_rfl) hc8 (λam=>?_);refine aB 0 ?_;refine aB 1 ?_;refine aB 2 ?_;refine aB 3 ?_;refine aB 4 ?_;refine aB 5 ?_;refine aB 6 ?_;refine aB 7 ?_;refine aB 8 ?_;refine aB 9 ?_;refine aB 10 ?_;refine cC 11 λK hK=>?_;go_simp
 refine (HLT.out _).mono ?_;rintro e wa ⟨rfl,rfl⟩;go_wp2_with fail
 refine hK.out _ _ am (λam=>?_);clear hK K;refine bH ?_;refine aB 12 ?_;refine aB 13 ?_;refine fI ?_;clear am;go_wp2_with fail
 go_loopw [24] (λi wr=>∃j:Nat,j<=n/\i = .int .i64 (j:Int)/\(∀i,i<j->bt i (hd.getD i (0,0,0))=false)/\Below w.heap.size w wr) (λi _=>n - (intOf i).toNat)
 case atStart=>exact ⟨0,aH _,rfl,(λi hi=>by omega),ak _ 1⟩
 case round =>
  obtain ⟨j,hj,rfl,hpr,hb⟩:=hrel;have HPR:=ab hpr;have HB:=ab hb;clear hpr hb;by_cases hlt2:j<n
  ·obtain ⟨hu0,hu1,hu2⟩:=HH.out j hlt2;obtain ⟨hr0,hr1⟩:=HR.out j hlt2;have HBE:=ab (HBT.out j (hd.getD j (0,0,0)));have HNO:=ab (HNO1.out j hlt2);generalize hx:hd.getD j (0,0,0)=x at *;obtain ⟨at_,mn,tm⟩:=x;simp only at hu0 hu1 hu2 hr0 hr1 HBE;have HBE:Hid (bt j (at_,mn,tm)=(!(at_==0||decide (4<(ck:Int) - at_))&&(decide (lt<tm)||(tm==lt&&(decide ((sl:Int)<mn)||(mn==(sl:Int)&&decide ((j:Int)<(ow:Int)))))))):=ab (by
    have e9:decide ((j:Int)<(ow:Int))=decide (j<ow):=decide_eq_decide.2 ⟨λh=>by omega,λh=>by omega⟩;rw [HBE.out,e9])
   have hu0:=cell_later HB.out hu0;have hu1:=cell_later HB.out hu1;have hu2:=cell_later HB.out hu2;have hbA:Below wr.heap.size wr (wr.alloc (.cells #[.int .i64 at_,.int .i64 mn,.int .i64 tm] 117)):=(az _ _).alloc (ah _) _;have hy16:=cell_later hbA (cell_later HB.out hc16);have hy0:=cell_later hbA (cell_later HB.out hc0);have hz0:(wr.alloc (.cells #[.int .i64 at_,.int .i64 mn,.int .i64 tm] 117)).cell? ⟨wr.heap.size,0,none⟩=some (.int .i64 at_):=by rw [af (aK _ _)];rfl
   have hz1:(wr.alloc (.cells #[.int .i64 at_,.int .i64 mn,.int .i64 tm] 117)).cell? ⟨wr.heap.size,1,none⟩=some (.int .i64 mn):=by rw [af (aK _ _)];rfl
   have hz2:(wr.alloc (.cells #[.int .i64 at_,.int .i64 mn,.int .i64 tm] 117)).cell? ⟨wr.heap.size,2,none⟩=some (.int .i64 tm):=by rw [af (aK _ _)];rfl
   have HB2:Hid (∀q,Below w.heap.size w ((wr.alloc (.cells #[.int .i64 at_,.int .i64 mn,.int .i64 tm] 117)).drewN q)):=ab (λq=>(HB.out.trans (hbA.mono HB.out.size)).trans ((ak _ q).mono (HB.out.trans (hbA.mono HB.out.size)).size));have q1:IntKind.i64.wrap ((ck:Int) - at_)=(ck:Int) - at_:=IntWalk.i64_in _ (by omega);have q2:IntKind.i64.wrap ((j:Int)+1)=(j:Int)+1:=IntWalk.i64_in _ (by omega);have q3:(j:Int)<(n:Int):=by omega
   have HX:=ab hx;clear hr0 hr1 hbA hc0 hc16 hc17 hlt2 hx;cases a1:at_==0 with
   | true =>
    go_upto_region 5 with (fail)
    generalize wr.alloc (.cells #[.int .i64 at_,.int .i64 mn,.int .i64 tm] 117)=W2 at *;go_quiet (fail)
    go_wp2_with fail
    go_roundw
    case rel=>exact ⟨j+1,by omega,rfl,λi hi=>(by
     by_cases hij:i=j
     ·rw [hij,HX.out,HBE.out];simp [*]
     ·exact HPR.out i (by omega)),HB2.out _⟩
    case measure=>simp [intOf];omega
   | false =>
    cases a2:decide (4<(ck:Int) - at_) with
    | true =>
     go_upto_region 5 with (fail)
     generalize wr.alloc (.cells #[.int .i64 at_,.int .i64 mn,.int .i64 tm] 117)=W2 at *;go_quiet (fail)
     go_wp2_with fail
     go_roundw
     case rel=>exact ⟨j+1,by omega,rfl,λi hi=>(by
      by_cases hij:i=j
      ·rw [hij,HX.out,HBE.out];simp [*]
      ·exact HPR.out i (by omega)),HB2.out _⟩
     case measure=>simp [intOf];omega
    | false =>
     cases t1:decide (lt<tm) with
     | true =>
      go_upto_region 5 with (fail)
      generalize wr.alloc (.cells #[.int .i64 at_,.int .i64 mn,.int .i64 tm] 117)=W2 at *;go_quiet (fail)
      go_wp2_with fail
      go_ret
      exact ⟨by rw [HNO.out (by rw [HBE.out];simp [*])];rfl,HB2.out _⟩
     | false =>
      cases t2:tm==lt with
      | true =>
       cases m1:decide ((sl:Int)<mn) with
       | true =>
        go_upto_region 5 with (fail)
        generalize wr.alloc (.cells #[.int .i64 at_,.int .i64 mn,.int .i64 tm] 117)=W2 at *;go_quiet (fail)
        go_wp2_with fail
        go_ret
        exact ⟨by rw [HNO.out (by rw [HBE.out];simp [*])];rfl,HB2.out _⟩
       | false =>
        cases m2:mn==(sl:Int) with
        | true =>
         cases o1:decide (j<ow) with
         | true =>
          go_upto_region 5 with (fail)
          generalize wr.alloc (.cells #[.int .i64 at_,.int .i64 mn,.int .i64 tm] 117)=W2 at *;go_quiet (fail)
          go_wp2_with fail
          go_ret
          exact ⟨by rw [HNO.out (by rw [HBE.out];simp [*])];rfl,HB2.out _⟩
         | false =>
          go_upto_region 5 with (fail)
          generalize wr.alloc (.cells #[.int .i64 at_,.int .i64 mn,.int .i64 tm] 117)=W2 at *;go_quiet (fail)
          go_wp2_with fail
          go_roundw
          case rel=>exact ⟨j+1,by omega,rfl,λi hi=>(by
           by_cases hij:i=j
           ·rw [hij,HX.out,HBE.out];simp [*]
           ·exact HPR.out i (by omega)),HB2.out _⟩
          case measure=>simp [intOf];omega
        | false =>
         go_upto_region 5 with (fail)
         generalize wr.alloc (.cells #[.int .i64 at_,.int .i64 mn,.int .i64 tm] 117)=W2 at *;go_quiet (fail)
         go_wp2_with fail
         go_roundw
         case rel=>exact ⟨j+1,by omega,rfl,λi hi=>(by
          by_cases hij:i=j
          ·rw [hij,HX.out,HBE.out];simp [*]
          ·exact HPR.out i (by omega)),HB2.out _⟩
         case measure=>simp [intOf];omega
      | false =>
       go_upto_region 5 with (fail)
       generalize wr.alloc (.cells #[.int .i64 at_,.int .i64 mn,.int .i64 tm] 117)=W2 at *;go_quiet (fail)
       go_wp2_with fail
       go_roundw
       case rel=>exact ⟨j+1,by omega,rfl,λi hi=>(by
        by_cases hij:i=j
        ·rw [hij,HX.out,HBE.out];simp [*]
        ·exact HPR.out i (by omega)),HB2.out _⟩
       case measure=>simp [intOf];omega
  ·obtain rfl:j=n:=by omega
   go_wp2_with fail
   go_ret
   exact ⟨by rw [HYES.out HPR.out];rfl,HB.out⟩
end
end Go.Proofs.YtnhefallmioefaaGreat
