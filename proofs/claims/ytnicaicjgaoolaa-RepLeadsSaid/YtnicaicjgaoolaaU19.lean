/-
  What the proof of the law leans on: contracts of the program's functions, one behind another. No condition.
-/
import Derived.Test.YtnicaicjgaoolaaU0
import Derived.Test.YtnicaicjgaoolaaU14
import Derived.Test.YtnicaicjgaoolaaU3
set_option linter.unusedVariables false
set_option linter.unusedSimpArgs false
namespace Go.Proofs.Ytnicaicjgaoolaa
open Go.RowKit Go.ChangeMaps Go.WideMaps Go.Maps
set_option maxRecDepth 20000
section
variable {w w':World} {A A' X X':List Nat} {r d l:Nat} {s s':Rp} {k k':Dk}
def bX (m:Msg) (v u:Value):Array Value:=#[.int .i64 m.frm,.int .i64 m.dst,.int .i64 m.kind,v,u]
theorem dM (w:World) (a b:Nat):(w.drewN a).drewN b=w.drewN (a+b):=by
 simp
theorem kF (h:Nd w A X r d l s k) {w2:World} (hb:Below w.heap.size w w2) (m:Msg) (v u:Value) (hm:IsMsg w2 A m v u):MsP w (w2.alloc (.cells (bX m v u) 51)) A X r d l (.returned (.slice (some ⟨w2.heap.size,0,none⟩) 1 1)) ([m],s,k):=by
 have hbb:Below w2.heap.size w2 (w2.alloc (.cells (bX m v u) 51)):=(aB _ _).alloc (ah _) _;have hb2:=hb.trans (hbb.mono hb.size);refine ⟨_,A,X,rfl,h.below hb2,⟨[⟨m,v,u⟩],rfl,?_,λx hx=>?_⟩,Mv.below hb2,λb hb3 hm3=>by have h9:=h.alt b hm3;have h8:=hb.size;simp [Value.ownBlock] at hb3;omega⟩
 ·refine ⟨by simp [lO,fH],.inr ⟨w2.heap.size,1,bX m v u,rfl,hb.size,aJ _ _,ah _,by unfold maxLen;omega,rfl,?_⟩⟩;simp [lO,fH,bX]
 ·obtain rfl:=aj.1 hx;have ho:=Only.ofBelow hbb [];refine hm.step ho (λb hb=>by cases hb) (λb hb=>?_);rcases av.1 hb with hb | hb
  ·exact .inl hb
  ·refine .inr ?_;have:b=w2.heap.size:=by simpa [Value.ownBlock] using hb
   omega
structure NumC (w:World) (v:Value) (N:List Int) (b off c:Nat):Prop where
 v:v = .slice (some ⟨b,off,none⟩) N.length c
 at_:∀i,i<N.length->w.cell? ⟨b,off+i,none⟩=some (.int .i64 (N.getD i 0))
theorem vT {v:Value} {N:List Int} (h:ImmI w A v N) (hn:0<N.length):∃b off c,NumC w v N b off c:=by
 obtain ⟨ao,c,rfl,⟨_,_,h3⟩,_⟩:=h;rcases h3 with h3 | ⟨b,off,h4,h5⟩
 ·omega
 ·subst h4;exact ⟨b,off,c,rfl,λi hi=>by rw [h5 i hi]⟩
theorem NumC.below {v:Value} {N:List Int} {b off c:Nat} (h:NumC w v N b off c) (hb:Below w.heap.size w w'):NumC w' v N b off c:=⟨h.v,λi hi=>cell_later hb (h.at_ i hi)⟩
set_option maxHeartbeats 4000000 in
theorem wY (h:Nd w A X r d l s k) (hw:Wf s k) (m:Msg) (v u:Value) (hm:IsMsg w A m v u) (hf:0<=m.frm) (hf2:m.frm<s.n):Calls Try.prog 35 #[.pointer (some ⟨r,0,none⟩),eA m v u] w λe w'=>MsP w w' A X r d l e (dV s k m):=by
 have hbw:Below w.heap.size w (w.alloc (.cells (bX m v u) 51)):=(aB _ _).alloc (ah _) _;have hbx:=aJ w (.cells (bX m v u) 51);have h1:=h.below hbw;have HM0:Hid (Mv A A X X w (w.alloc (.cells (bX m v u) 51))):=ab (Mv.below hbw);have hM0:(w.alloc (.cells (bX m v u) 51)).cell? ⟨w.heap.size,0,none⟩=some (.int .i64 m.frm):=by rw [af hbx];rfl
 have hM3:(w.alloc (.cells (bX m v u) 51)).cell? ⟨w.heap.size,3,none⟩=some v:=by rw [af hbx];rfl
 have HPN:Hid (∀b∈X,b≠w.heap.size):=ab (λb hb e=>by have:=h.alt b (h.xA b hb);omega);have hPW:w.heap.size<(w.alloc (.cells (bX m v u) 51)).heap.size:=by simp
 have ho1:=hm.one;obtain ⟨ao,cN,ev,hIs,hcN,hcN2,_⟩:=id hm.n;by_cases h3:m.N.length=3
 ·obtain ⟨b,off,c,hc⟩:=vT hm.n (by omega);have hcW:=hc.below hbw;have hv:=hc.v;rw [h3] at hv;subst hv;have hN0:=hcW.at_ 0 (by omega);have hN1:=hcW.at_ 1 (by omega);have hN2:=hcW.at_ 2 (by omega);rw [eK] at hN0;obtain ⟨al,cl,hc8,hl1,hl2⟩:=h1.loglen;obtain ⟨vl,gv,gn,gm,gh,hcell⟩:=h1.cells;have hc6:(w.alloc (.cells (bX m (.slice (some ⟨b,off,none⟩) 3 c) u) 51)).cell? ⟨r,6,none⟩=some (.int .i64 s.term):=by rw [af hcell];rfl
  have hc7:(w.alloc (.cells (bX m (.slice (some ⟨b,off,none⟩) 3 c) u) 51)).cell? ⟨r,7,none⟩=some (.int .i64 s.choice):=by rw [af hcell];rfl
  have hlb:=hw.logb;have HLT:=ab (λW' (hb:Below (w.alloc (.cells (bX m (.slice (some ⟨b,off,none⟩) 3 c) u) 51)).heap.size (w.alloc (.cells (bX m (.slice (some ⟨b,off,none⟩) 3 c) u) 51)) W')=>fp (h1.below hb) s.log.length (ah _) (by omega));have HEN:=ab (λW' (hb:Below (w.alloc (.cells (bX m (.slice (some ⟨b,off,none⟩) 3 c) u) 51)).heap.size (w.alloc (.cells (bX m (.slice (some ⟨b,off,none⟩) 3 c) u) 51)) W')=>(me (h1.below hb) hw s.term m.frm).mono (R':=λe w'=>e = .returned (.bool (bx s k s.term m.frm).1)/\NdP (w.alloc (.cells (bX m (.slice (some ⟨b,off,none⟩) 3 c) u) 51)) w' A X r d l (bx s k s.term m.frm).2.1 (bx s k s.term m.frm).2.2) (by rintro e w' ⟨h1,h2⟩;exact ⟨h1,h2.trans (Mv.below hb)⟩));have HKM:Hid (∀w2 s2 k2,NdP (w.alloc (.cells (bX m (.slice (some ⟨b,off,none⟩) 3 c) u) 51)) w2 A X r d l s2 k2->w2.cell? ⟨w.heap.size,0,none⟩=some (.int .i64 m.frm)):=ab (λw2 s2 k2 hn=>by
   obtain ⟨A2,X2,h2,m2⟩:=hn;exact m2.mv.only.cell hM0 (λhm=>HPN.out _ hm rfl))
  have HE:Hid (dV s k m=(
   let own:=bT s.log s.log.length
   let behind:=decide (own<m.N.getD 2 0)||(m.N.getD 2 0==own&&decide ((s.log.length:Int)<=m.N.getD 1 0))
   let yes:=(m.N.getD 0 0==s.term)&&behind&&(s.choice == -1||s.choice==m.frm)
   if yes then
    if s.choice == -1 then
     let p:=bx s k s.term m.frm
     if p.1 then (let s1:={ p.2.1 with ticks:=0 };([dv s1 m.frm 2 [s1.term,1]],s1,p.2.2)) else ([],p.2)
    else (let s1:={ s with ticks:=0 };([dv s1 m.frm 2 [s1.term,1]],s1,k))
   else ([dv s m.frm 2 [s.term,0]],s,k))):=ab (by unfold dV;rw [ax h3])
  (try simp only at HE)
  have HN1:=ab h1;clear h h1 hw hm hIs hcell hbw hbx ev hc hcW ho1;unfold eA bX at *;generalize bT s.log s.log.length=lt at *;generalize s.log.length=sl at *;generalize m.N.getD 0 0=n0 at *;generalize m.N.getD 1 0=n1 at *;generalize m.N.getD 2 0=n2 at *;go_enter Try.func35,Try.ntmps35
  go_wp2_with fail
  generalize w.alloc (.cells #[.int .i64 m.frm,.int .i64 m.dst,.int .i64 m.kind,.slice (some ⟨b,off,none⟩) 3 c,u] 51)=W at *;generalize w.heap.size=M at *;refine (HLT.out W (aB _ _)).mono ?_;rintro e w1 ⟨rfl,rfl⟩;go_upto_region 4 with (fail)
  go_cut [6] (λv wx=>v = .bool (decide (lt<n2)||(n2==lt&&decide ((sl:Int)<=n1)))/\∃q,wx=W.drewN q)
  case first =>
   cases b1:decide (lt<n2) with
   | true =>
    go_quiet (fail)
    go_wp2_with fail
    go_meet
    exact ⟨by rw [b1];rfl,nq,rfl⟩
   | false =>
    cases b2:n2==lt with
    | false =>
     go_quiet (fail)
     go_wp2_with fail
     go_meet
     exact ⟨by rw [b1,b2];rfl,nq,rfl⟩
    | true =>
     go_quiet (fail)
     go_wp2_with fail
     go_meet
     exact ⟨by rw [b1,b2];rfl,nq,rfl⟩
  case rest =>
  obtain ⟨rfl,q4,rfl⟩:=hcut;generalize (decide (lt<n2)||(n2==lt&&decide ((sl:Int)<=n1)))=bh at *;go_upto_region 5 with (fail)
  go_cut [7] (λv wx=>v = .bool ((n0==s.term)&&bh&&(s.choice == -1||s.choice==m.frm))/\∃q,wx=W.drewN q)
  case first =>
   cases y1:n0==s.term with
   | false =>
    go_quiet (fail)
    go_wp2_with fail
    go_meet
    exact ⟨by rw [y1];rfl,_,dM W q4 nq⟩
   | true =>
    cases bh with
    | false =>
     go_quiet (fail)
     go_wp2_with fail
     go_meet
     exact ⟨by rw [y1];rfl,_,dM W q4 nq⟩
    | true =>
     cases c1:s.choice == -1 with
     | true =>
      go_quiet (fail)
      go_wp2_with fail
      go_meet
      exact ⟨by rw [y1,c1];rfl,_,dM W q4 nq⟩
     | false =>
      go_quiet (fail)
      go_wp2_with fail
      go_meet
      exact ⟨by rw [y1,c1];rfl,_,dM W q4 nq⟩
  case rest =>
  obtain ⟨rfl,q5,rfl⟩:=hcut;generalize ((n0==s.term)&&bh&&(s.choice == -1||s.choice==m.frm))=yes at *;have HBQ5:Hid (Below W.heap.size W (W.drewN q5)):=ab (ap W q5);have HSAYG:Hid (∀(W8:World) A8 X8 s8 k8,Nd W8 A8 X8 r d l s8 k8->∀W9,Below W8.heap.size W8 W9->∀dst kind N ao n c,Calls Try.prog 44 #[.pointer (some ⟨r,0,none⟩),.int .i64 dst,.int .i64 kind,.slice ao n c] W9 λe w2=>e = .returned (eA (dv s8 dst kind N) (.slice ao n c) (.slice none 0 0))/\Below W9.heap.size W9 w2):=ab (λW8 A8 X8 s8 k8 h W9 hb dst kind N ao n c=>j0 (h.below hb) dst kind N ao n c);clear HLT hN0 hN1 hN2 hM3 hc8;cases yes with
  | false =>
   rw [aw (by simp)] at HE;go_upto_region 6 with (fail)
   go_quiet (fail)
   go_upto_region 9 with (fail)
   obtain ⟨st8,hst8⟩:∃st8,st8=s.term:=⟨_,rfl⟩
   obtain ⟨s8,hs8⟩:∃s8,s8=s:=⟨_,rfl⟩
   obtain ⟨k8,hk8⟩:∃k8,k8=k:=⟨_,rfl⟩
   obtain ⟨A8,hA8⟩:∃A8,A8=A:=⟨_,rfl⟩
   obtain ⟨X8,hX8⟩:∃X8,X8=X:=⟨_,rfl⟩
   have h8:Nd (W.drewN (q5+nq)).drew A8 X8 r d l s8 k8:=by rw [hs8,hk8,hA8,hX8];exact (HN1.out.below (ap W (q5+nq))).below (ap _ 1)
   have M8:Hid (Mv A A8 X X8 w (W.drewN (q5+nq)).drew):=ab (by rw [hA8,hX8];exact (HM0.out.trans (Mv.below (ap W (q5+nq)))).trans (Mv.below (ap _ 1)));have hMV:(W.drewN (q5+nq)).drew.cell? ⟨M,0,none⟩=some (.int .i64 m.frm):=hM0;have hr6:(W.drewN (q5+nq)).drew.cell? ⟨r,6,none⟩=some (.int .i64 st8):=by rw [hst8];exact hc6
   have HE:Hid (dV s k m=([dv s8 m.frm 2 [st8,0]],s8,k8)):=ab (by rw [hs8,hk8,hst8];exact HE.out);clear hc6 hc7 hM0 hst8 hs8 hk8 hA8 hX8;generalize W.drewN (q5+nq)=W8 at *;have HK8:Hid (∀W',Below W8.drew.heap.size W8.drew W'->W'.cell? ⟨M,0,none⟩=some (.int .i64 m.frm)/\W'.cell? ⟨r,6,none⟩=some (.int .i64 st8)):=ab (λW' hb=>⟨cell_later hb hMV,cell_later hb hr6⟩);have HSAY:=ab (HSAYG.out _ _ _ _ _ h8);have HA8:=ab h8.alt;have HBV:Hid (∀o,Below W8.drew.heap.size W8.drew (W8.drew.alloc o)):=ab (λo=>(aB _ _).alloc (ah _) o);have HF8:Hid (∀V10 vv N,Below W8.drew.heap.size W8.drew V10->ImmI V10 A8 vv N->MsP w (V10.alloc (.cells (bX (dv s8 m.frm 2 N) vv (.slice none 0 0)) 51)) A X r d l (.returned (.slice (some ⟨V10.heap.size,0,none⟩) 1 1)) ([dv s8 m.frm 2 N],s8,k8)):=ab (λV10 vv N hb hi=>MsP.trans M8.out (kF h8 hb (dv s8 m.frm 2 N) vv (.slice none 0 0) ⟨hi,.inl ⟨rfl,rfl⟩⟩));unfold bX at HF8;refine wp_region_held_drew (S:=λw'=>w'.cell? ⟨M,0,none⟩=some (.int .i64 m.frm)/\w'.cell? ⟨r,6,none⟩=some (.int .i64 st8)) (by kernel_rfl) (HK8.out _ (aB _ _)) (λam=>?_);refine az 0 ?_;refine az 1 ?_;refine az 2 ?_;refine az 3 ?_;refine az 4 ?_;refine az 5 ?_;refine az 6 ?_;generalize W8.drew=V8 at *;refine cf 7 λK hK=>?_;go_simp
   refine hK.out _ _ (HK8.out _ (HBV.out (.cells #[.int .i64 st8,.int .i64 0] 2))) (λam=>?_);clear hK K;refine bu ?_;have HI8:Hid (ImmI (V8.alloc (.cells #[.int .i64 st8,.int .i64 0] 2)) A8 (.slice (some ⟨V8.heap.size,0,none⟩) 2 2) [st8,0]):=ab (ImmI.fresh [st8,0] _ rfl 2 2 rfl (by omega) HA8.out);have HB8:=ab (HBV.out (.cells #[.int .i64 st8,.int .i64 0] 2));generalize V8.alloc (.cells #[.int .i64 st8,.int .i64 0] 2)=V9 at *;refine cf 8 λK hK=>?_;go_simp
   refine (HSAY.out _ HB8.out _ _ [st8,0] _ _ _).mono ?_;rintro e V10 ⟨rfl,hb10⟩;have HB10:=ab (HB8.out.trans (hb10.mono HB8.out.size));have HI10:=ab (HI8.out.below hb10);clear hb10;go_wp2_with fail
   refine hK.out _ _ (HK8.out _ HB10.out) (λam=>?_);clear hK K;refine bu ?_;refine cf 9 λK hK=>?_;unfold eA;go_simp
   refine hK.out _ _ (HK8.out _ (HB10.out.alloc HB10.out.size _)) (λam=>?_);clear hK K;refine bu ?_;refine az 10 ?_;refine fc ?_;clear am;go_wp2_with fail
   go_ret
   rw [HE.out];exact HF8.out _ _ _ HB10.out HI10.out
  | true =>
   rw [ax rfl] at HE;go_upto_region 6 with (fail)
   have HQ6:Hid (∀n,(W.drewN q5).drewN n=W.drewN (q5+n)):=ab (λn=>dM W q5 n);cases hfail:(s.choice == -1) && !(bx s k s.term m.frm).1 with
   | true =>
    have hc1:(s.choice == -1)=true:=by revert hfail;cases (s.choice == -1)<;>simp
    have hok:(bx s k s.term m.frm).1=false:=by revert hfail;rw [hc1];simp
    rw [ax hc1,aw (by rw [hok];simp)] at HE;have HEN2:=ab (HEN.out (W.drewN (q5+1)) (ap W (q5+1)));rw [hok] at HEN2;have hM6:(W.drewN q5).drew.cell? ⟨M,0,none⟩=some (.int .i64 m.frm):=hM0;have HKM:=ab (λw2=>HKM.out w2 (bx s k s.term m.frm).2.1 (bx s k s.term m.frm).2.2);generalize (bx s k s.term m.frm).2=p2 at *;refine wp_region_held_drew (S:=λw'=>w'.cell? ⟨M,0,none⟩=some (.int .i64 m.frm)) (by kernel_rfl) hM6 (λam=>?_);refine az 0 ?_;refine az 1 ?_;refine az 2 ?_;refine az 3 ?_;refine az 4 ?_;refine cf 5 λK hK=>?_;go_simp
    refine hK.out _ _ am (λam=>?_);clear hK K;refine bu ?_;refine az 6 ?_;refine az 7 ?_;refine az 8 ?_;refine az 9 ?_;refine az 10 ?_;refine az 11 ?_;refine az 12 ?_;refine az 14 ?_;refine az 15 ?_;refine cf 13 λK hK=>?_;go_simp
    refine hK.out _ _ am (λam=>?_);clear hK K;refine bu ?_;refine cf 16 λK hK=>?_;go_simp
    refine HEN2.out.mono ?_;rintro e w2 ⟨rfl,hn2⟩;have HN2:=ab hn2;have hk2:=HKM.out w2 hn2;clear hn2;go_wp2_with fail
    refine hK.out _ _ hk2 (λam=>?_);clear hK K;refine bu ?_;refine az 17 ?_;refine az 18 ?_;refine fc ?_;clear am;go_wp2_with fail
    go_ret
    rw [HE.out];exact MsP.none (NdP.trans HM0.out HN2.out)
   | false =>
    go_cut [91] (λv wx=>v = .bool false/\wx.cell? ⟨M,0,none⟩=some (.int .i64 m.frm)/\∃s8 k8,NdP W wx A X r d l s8 k8/\dV s k m=([dv { s8 with ticks:=0 } m.frm 2 [s8.term,1]],{ s8 with ticks:=0 },k8))
    case first =>
     cases c1:s.choice == -1 with
     | true =>
      have hok:(bx s k s.term m.frm).1=true:=by revert hfail;rw [c1];simp
      rw [ax c1,ax hok] at HE;have HEN2:=ab (HEN.out (W.drewN (q5+1)) (ap W (q5+1)));rw [hok] at HEN2;have hM6:(W.drewN q5).drew.cell? ⟨M,0,none⟩=some (.int .i64 m.frm):=hM0;have HKM:=ab (λw2=>HKM.out w2 (bx s k s.term m.frm).2.1 (bx s k s.term m.frm).2.2);generalize (bx s k s.term m.frm).2=p2 at *;refine wp_region_held_drew (S:=λw'=>w'.cell? ⟨M,0,none⟩=some (.int .i64 m.frm)) (by kernel_rfl) hM6 (λam=>?_);refine az 0 ?_;refine az 1 ?_;refine az 2 ?_;refine az 3 ?_;refine az 4 ?_;refine cf 5 λK hK=>?_;go_simp
      refine hK.out _ _ am (λam=>?_);clear hK K;refine bu ?_;refine az 6 ?_;refine az 7 ?_;refine az 8 ?_;refine az 9 ?_;refine az 10 ?_;refine az 11 ?_;refine az 12 ?_;refine az 14 ?_;refine az 15 ?_;refine cf 13 λK hK=>?_;go_simp
      refine hK.out _ _ am (λam=>?_);clear hK K;refine bu ?_;refine cf 16 λK hK=>?_;go_simp
      refine HEN2.out.mono ?_;rintro e w2 ⟨rfl,hn2⟩;have HN2:=ab hn2;have hk2:=HKM.out w2 hn2;clear hn2;go_wp2_with fail
      refine hK.out _ _ hk2 (λam=>?_);clear hK K;refine bu ?_;refine az 17 ?_;refine az 18 ?_;refine fc ?_;clear am;go_wp2_with fail
      go_meet
      exact ⟨rfl,hk2,_,_,HN2.out,HE.out⟩
     | false =>
      rw [aw (by rw [c1];simp)] at HE;go_quiet (fail)
      go_wp2_with fail
      go_meet
      exact ⟨rfl,hM0,s,k,((HN1.out.below (ap W q5)).below (ap _ nq)).ndp ((Mv.below (ap W q5)).trans (Mv.below (ap _ nq))),HE.out⟩
    case rest =>
    obtain ⟨rfl,hM7,s7,k7,hn7,he7⟩:=hcut;rename World=>W7;obtain ⟨A7,X7,h7,m7⟩:=hn7;have H7:=ab h7;have M7:=ab (HM0.out.trans m7);have HPX7:Hid (M∉X7):=ab (λhm=>by
     rcases m7.mv.gr M hm with h9 | h9
     ·exact HPN.out M h9 rfl
     ·omega)
    obtain ⟨vl,gv,gn,gm,gh,hcell⟩:=h7.cells;have hz15:=aO hcell 15;have hc15:W7.cell? ⟨r,15,none⟩=some (.int .i64 (s7.ticks:Int)):=by rw [af hcell];rfl
    have hrM:r≠M:=λe=>HPX7.out (e ▸ h7.rX);have HT:Hid (NdP W7 (W7.setCell ⟨r,15,none⟩ (.int .i64 0)) A7 X7 r d l { s7 with ticks:=0 } k7):=ab (by
     refine Nd.scal h7 ((Only.refl _ _).setCell (by simp) _) ?_ rfl rfl rfl rfl rfl rfl;intro vl gv gn gm gh hc;rw [aZ hc];rfl)
    have HE:Hid (dV s k m=([dv { s7 with ticks:=0 } m.frm 2 [s7.term,1]],{ s7 with ticks:=0 },k7)):=ab he7;have hM8:(W7.setCell ⟨r,15,none⟩ (.int .i64 0)).cell? ⟨M,0,none⟩=some (.int .i64 m.frm):=((Only.refl [r] _).setCell (p:=⟨r,15,none⟩) (by simp) _).cell hM7 (by simpa using hrM.symm);clear h7 m7 hcell he7 hc6 hc7 hM0 hfail HEN;go_upto_region 11 with (fail)
    generalize W7.setCell ⟨r,15,none⟩ (.int .i64 0)=W8 at *;obtain ⟨A8,X8,h8,m8⟩:=HT.out;have M8:=ab ((M7.out.trans m8).trans (Mv.below (A:=A8) (X:=X8) (ap W8 1)));have h8:=h8.below (ap W8 1);change Nd W8.drew A8 X8 r d l { s7 with ticks:=0 } k7 at h8;change Hid (Mv A A8 X X8 w W8.drew) at M8;have hMV:W8.drew.cell? ⟨M,0,none⟩=some (.int .i64 m.frm):=hM8;generalize hs8:({ s7 with ticks:=0 }:Rp)=s8 at *;have hst:s7.term=s8.term:=by rw [<-hs8]
    obtain ⟨st8,hst8⟩:∃st8,st8=s8.term:=⟨_,rfl⟩
    have hr6:W8.drew.cell? ⟨r,6,none⟩=some (.int .i64 st8):=by
     obtain ⟨vl,gv,gn,gm,gh,hcell⟩:=h8.cells;rw [af hcell,hst8];rfl
    rw [hst,<-hst8] at HE;clear hs8 hst;obtain ⟨k8,hk8⟩:∃k8,k8=k7:=⟨_,rfl⟩
    rw [<-hk8] at HE h8;clear hst8 hk8 m8 hM7 hM8 hz15 hc15 HT;have HK8:Hid (∀W',Below W8.drew.heap.size W8.drew W'->W'.cell? ⟨M,0,none⟩=some (.int .i64 m.frm)/\W'.cell? ⟨r,6,none⟩=some (.int .i64 st8)):=ab (λW' hb=>⟨cell_later hb hMV,cell_later hb hr6⟩);have HSAY:=ab (HSAYG.out _ _ _ _ _ h8);have HA8:=ab h8.alt;have HBV:Hid (∀o,Below W8.drew.heap.size W8.drew (W8.drew.alloc o)):=ab (λo=>(aB _ _).alloc (ah _) o);have HF8:Hid (∀V10 vv N,Below W8.drew.heap.size W8.drew V10->ImmI V10 A8 vv N->MsP w (V10.alloc (.cells (bX (dv s8 m.frm 2 N) vv (.slice none 0 0)) 51)) A X r d l (.returned (.slice (some ⟨V10.heap.size,0,none⟩) 1 1)) ([dv s8 m.frm 2 N],s8,k8)):=ab (λV10 vv N hb hi=>MsP.trans M8.out (kF h8 hb (dv s8 m.frm 2 N) vv (.slice none 0 0) ⟨hi,.inl ⟨rfl,rfl⟩⟩));unfold bX at HF8;refine wp_region_held_drew (S:=λw'=>w'.cell? ⟨M,0,none⟩=some (.int .i64 m.frm)/\w'.cell? ⟨r,6,none⟩=some (.int .i64 st8)) (by kernel_rfl) (HK8.out _ (aB _ _)) (λam=>?_);refine az 0 ?_;refine az 1 ?_;refine az 2 ?_;refine az 3 ?_;refine az 4 ?_;refine az 5 ?_;refine az 6 ?_;generalize W8.drew=V8 at *;refine cf 7 λK hK=>?_;go_simp
    refine hK.out _ _ (HK8.out _ (HBV.out (.cells #[.int .i64 st8,.int .i64 1] 2))) (λam=>?_);clear hK K;refine bu ?_;have HI8:Hid (ImmI (V8.alloc (.cells #[.int .i64 st8,.int .i64 1] 2)) A8 (.slice (some ⟨V8.heap.size,0,none⟩) 2 2) [st8,1]):=ab (ImmI.fresh [st8,1] _ rfl 2 2 rfl (by omega) HA8.out);have HB8:=ab (HBV.out (.cells #[.int .i64 st8,.int .i64 1] 2));generalize V8.alloc (.cells #[.int .i64 st8,.int .i64 1] 2)=V9 at *;refine cf 8 λK hK=>?_;go_simp
    refine (HSAY.out _ HB8.out _ _ [st8,1] _ _ _).mono ?_;rintro e V10 ⟨rfl,hb10⟩;have HB10:=ab (HB8.out.trans (hb10.mono HB8.out.size));have HI10:=ab (HI8.out.below hb10);clear hb10;go_wp2_with fail
    refine hK.out _ _ (HK8.out _ HB10.out) (λam=>?_);clear hK K;refine bu ?_;refine cf 9 λK hK=>?_;unfold eA;go_simp
    refine hK.out _ _ (HK8.out _ (HB10.out.alloc HB10.out.size _)) (λam=>?_);clear hK K;refine bu ?_;refine az 10 ?_;refine fc ?_;clear am;go_wp2_with fail
    go_ret
    rw [HE.out];exact HF8.out _ _ _ HB10.out HI10.out
 ·have HE:Hid (dV s k m=([],s,k)):=ab (by unfold dV;rw [aw h3]);subst ev;have g1:((m.N.length:Int) != 3)=true:=by rw [qq];omega
  have HF:Hid (NdP w (w.alloc (.cells (bX m (.slice ao m.N.length cN) u) 51)) A X r d l s k):=ab (h1.ndp HM0.out);clear h h1 hw hm hIs;unfold eA bX at *;go_enter Try.func35,Try.ntmps35
  go_wp2_with fail
  go_ret
  rw [HE.out];exact MsP.none HF.out
end
section
variable {w w':World} {A A' X X':List Nat} {r d l:Nat} {s s':Rp} {k k':Dk}
set_option maxHeartbeats 4000000 in
theorem vf (h:Nd w A X r d l s k) (hw:Wf s k) (m:Msg) (v u:Value) (hm:IsMsg w A m v u) (fr:Nat) (hfr:m.frm=(fr:Int)) (hf2:fr<s.n) (hlen:2<=m.N.length):Calls Try.prog 36 #[.pointer (some ⟨r,0,none⟩),eA m v u] w λe w'=>MsP w w' A X r d l e (eM s k m):=by
 have hbw:Below w.heap.size w (w.alloc (.cells (bX m v u) 51)):=(aB _ _).alloc (ah _) _;have hbx:=aJ w (.cells (bX m v u) 51);have h1:=h.below hbw;have HM0:Hid (Mv A A X X w (w.alloc (.cells (bX m v u) 51))):=ab (Mv.below hbw);have hM0:(w.alloc (.cells (bX m v u) 51)).cell? ⟨w.heap.size,0,none⟩=some (.int .i64 m.frm):=by rw [af hbx];rfl
 have hM3:(w.alloc (.cells (bX m v u) 51)).cell? ⟨w.heap.size,3,none⟩=some v:=by rw [af hbx];rfl
 have HPN:Hid (∀b∈X,b≠w.heap.size):=ab (λb hb e=>by have:=h.alt b (h.xA b hb);omega);obtain ⟨b,off,c,hc⟩:=vT hm.n (by omega);have hcW:=hc.below hbw;have hv:=hc.v;subst hv;have hN0:=hcW.at_ 0 (by omega);have hN1:=hcW.at_ 1 (by omega);rw [eK] at hN0;obtain ⟨vl,gv0,gn,gm,gh,hcell⟩:=h1.cells;have hc6:(w.alloc (.cells (bX m (.slice (some ⟨b,off,none⟩) m.N.length c) u) 51)).cell? ⟨r,6,none⟩=some (.int .i64 s.term):=by rw [af hcell];rfl
 have hc7:(w.alloc (.cells (bX m (.slice (some ⟨b,off,none⟩) m.N.length c) u) 51)).cell? ⟨r,7,none⟩=some (.int .i64 s.choice):=by rw [af hcell];rfl
 have hc0:(w.alloc (.cells (bX m (.slice (some ⟨b,off,none⟩) m.N.length c) u) 51)).cell? ⟨r,0,none⟩=some (.int .i64 (s.own:Int)):=by rw [af hcell];rfl
 have hc11:(w.alloc (.cells (bX m (.slice (some ⟨b,off,none⟩) m.N.length c) u) 51)).cell? ⟨r,11,none⟩=some (.bool s.leads):=by rw [af hcell];rfl
 have HE:Hid (eM s k m=if s.leads || !(m.N.getD 0 0==s.term) || !(s.choice==(s.own:Int)) || !(m.N.getD 1 0==1) then ([],s,k) else
  if fG { s with votes:=s.votes.set fr true } then fR { s with votes:=s.votes.set fr true } k else ([],{ s with votes:=s.votes.set fr true },k)):=ab (by
   unfold eM;rw [hfr,dj])
 have HN1:=ab h1;have HW:=ab hw;have hl0:(0:Int)<(m.N.length:Int):=by omega
 have hl1:(1:Int)<(m.N.length:Int):=by omega
 rw [hfr] at hM0;clear h h1 hw hm hcell hbw hbx hc hcW;unfold eA bX at *;rw [hfr] at *;generalize m.N.getD 0 0=n0 at *;generalize m.N.getD 1 0=n1 at *;generalize m.N.length=nl at *;go_enter Try.func36,Try.ntmps36
 go_upto_region 1 with (fail)
 generalize w.alloc (.cells #[.int .i64 (fr:Int),.int .i64 m.dst,.int .i64 m.kind,.slice (some ⟨b,off,none⟩) nl c,u] 51)=W at *;generalize w.heap.size=M at *;go_cut [37] (λv wx=>v = .bool (s.leads || !(n0==s.term) || !(s.choice==(s.own:Int)) || !(n1==1))/\∃q,wx=W.drewN q)
 case first =>
  cases b1:s.leads with
  | true =>
   rw [b1] at hc11;go_quiet (fail)
   go_wp2_with fail
   go_meet
   exact ⟨by rw [b1];rfl,nq,rfl⟩
  | false =>
   rw [b1] at hc11;cases b2:n0==s.term with
   | false =>
    have g2:(n0 != s.term)=true:=by rw [bne,b2];rfl
    go_quiet (fail)
    go_wp2_with fail
    go_meet
    exact ⟨by rw [b1,b2];rfl,nq,rfl⟩
   | true =>
    have g2:(n0 != s.term)=false:=by rw [bne,b2];rfl
    cases b3:s.choice==(s.own:Int) with
    | false =>
     have g3:(s.choice != (s.own:Int))=true:=by rw [bne,b3];rfl
     go_quiet (fail)
     go_wp2_with fail
     go_meet
     exact ⟨by rw [b1,b2,b3];rfl,nq,rfl⟩
    | true =>
     have g3:(s.choice != (s.own:Int))=false:=by rw [bne,b3];rfl
     go_quiet (fail)
     go_wp2_with fail
     go_meet
     exact ⟨by rw [b1,b2,b3];rfl,nq,rfl⟩
 case rest =>
 obtain ⟨rfl,q1,rfl⟩:=hcut;generalize (s.leads || !(n0==s.term) || !(s.choice==(s.own:Int)) || !(n1==1))=no at *;cases no with
 | true =>
  rw [ax rfl] at HE;go_wp2_with fail
  go_ret
  rw [HE.out];exact MsP.none (NdP.trans (HM0.out.trans (Mv.below (ap W q1))) ((HN1.out.below (ap W q1)).ndp (Mv.refl _ _ _)))
 | false =>
  rw [aw (by simp)] at HE;go_upto_region 3 with (fail)
  have h3:=(HN1.out.below (ap W q1)).below (ap _ 1);change Nd (W.drewN q1).drew A X r d l s k at h3;have M3:Hid (Mv A A X X w (W.drewN q1).drew):=ab ((HM0.out.trans (Mv.below (ap W q1))).trans (Mv.below (ap _ 1)));have hkM:(W.drewN q1).drew.cell? ⟨M,0,none⟩=some (.int .i64 (fr:Int)):=hM0;clear hM0 hM3 hN0 hN1 hc0 hc6 hc7 hc11;obtain ⟨D,L,R,vl,gv,gn,gm,gh,h4,hX4⟩:=h3;have hk12:(W.drewN q1).drew.cell? ⟨r,12,none⟩=some (.slice (some ⟨gv,0,none⟩) s.n s.n):=by rw [af h4.cell];rfl
  have hkv:(W.drewN q1).drew.cell? ⟨gv,fr,none⟩=some (.bool (s.votes.getD fr false)):=by rw [af h4.votes];exact gp _ _ (by rw [HW.out.vl];exact hf2)
  have hzv:=aO h4.votes fr;have hf3:(fr:Int)<(s.n:Int):=by omega
  have hMgv:M≠gv:=λe=>HPN.out gv ((hX4 gv).2 (.inr (.inr h4.vR))) e.symm;have hrgv:r≠gv:=b8 h4.cell h4.votes (by decide);have HK3:Hid (∀v,((W.drewN q1).drew.setCell ⟨gv,fr,none⟩ v).cell? ⟨r,12,none⟩=some (.slice (some ⟨gv,0,none⟩) s.n s.n)/\((W.drewN q1).drew.setCell ⟨gv,fr,none⟩ v).cell? ⟨M,0,none⟩=some (.int .i64 (fr:Int))):=ab (λv=>by
   have ho:Only [gv] (W.drewN q1).drew ((W.drewN q1).drew.setCell ⟨gv,fr,none⟩ v):=(Only.refl _ _).setCell (by simp) _;exact ⟨ho.cell hk12 (by simpa using hrgv),ho.cell hkM (by simpa using hMgv)⟩)
  have H4:Hid (NdP (W.drewN q1).drew ((W.drewN q1).drew.setCell ⟨gv,fr,none⟩ (.bool true)) A X r d l { s with votes:=s.votes.set fr true } k):=ab ((h4.set_votes fr true).ndpR hX4 (S:=[gv]) ((Only.refl _ _).setCell (by simp) _) (λb hb=>by rw [aj.1 hb];exact h4.vR));have HWV:Hid (Wf { s with votes:=s.votes.set fr true } k):=ab (eL HW.out s.lives s.ticks s.clock (s.votes.set fr true) HW.out.tick (by rw [cW];exact HW.out.vl) (ah _));clear h4 hX4 hMgv hrgv;generalize s.votes.getD fr false=vo at *;refine wp_region_held_drew (S:=λw'=>w'.cell? ⟨r,12,none⟩=some (.slice (some ⟨gv,0,none⟩) s.n s.n)/\w'.cell? ⟨M,0,none⟩=some (.int .i64 (fr:Int))) (by kernel_rfl) ⟨hk12,hkM⟩ (λam=>?_);refine az 0 ?_;refine az 1 ?_;refine az 2 ?_;refine az 3 ?_;refine az 4 ?_;refine az 5 ?_;refine az 6 ?_;generalize (W.drewN q1).drew=V3 at *;refine cf 7 λK hK=>?_;go_simp
  refine hK.out _ _ (HK3.out _) (λam=>?_);clear hK K;refine bu ?_;refine fc ?_;clear am;generalize V3.setCell ⟨gv,fr,none⟩ (.bool true)=W4 at *;go_wp2_with fail
  obtain ⟨A5,X5,h5,m5⟩:=H4.out;have H5:=ab h5;have M5:=ab (M3.out.trans m5);have HCH:=ab (nW h5 HWV.out.n5 HWV.out.vl);clear h5 m5 hk12 hkM hkv hzv HK3 H4;generalize ({ s with votes:=s.votes.set fr true }:Rp)=s5 at *;refine HCH.out.mono ?_;rintro e w9 ⟨rfl,rfl⟩;cases hch:fG s5 with
  | true =>
   rw [hch,ax rfl] at HE;go_wp2_with fail
   refine (rD H5.out HWV.out).mono ?_;rintro e w9 ⟨v9,A9,X9,rfl,h9,ho9,m9⟩;have HF:=ab (MsP.trans M5.out ⟨v9,A9,X9,rfl,h9,ho9,m9⟩);clear h9 ho9 m9;go_wp2_with fail
   go_ret
   rw [HE.out];exact HF.out
  | false =>
   rw [hch,aw (by simp)] at HE;go_wp2_with fail
   go_ret
   rw [HE.out];exact MsP.none (H5.out.ndp M5.out)
end
end Go.Proofs.Ytnicaicjgaoolaa
