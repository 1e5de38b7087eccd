/-
  What the proof of the law leans on: contracts of the program's functions, one behind another. No condition.
-/
import Derived.Test.YtnhefallmioefaaGreatV0
import Derived.Test.YtnhefallmioefaaGreatV24
import Derived.Test.YtnhefallmioefaaGreatV3
set_option linter.unusedVariables false
set_option linter.unusedSimpArgs false
namespace Go.Proofs.YtnhefallmioefaaGreat
open Go.RowKit Go.ChangeMaps Go.WideMaps Go.Maps
set_option maxRecDepth 20000
section
variable {w w':World} {A A' X X':List Nat} {r d l:Nat} {s s':Rp} {k k':Dk}
def qr (s:Rp) (m:Msg):Bool := !s.leads || !(m.N.getD 0 0==s.term) || !(m.N.length==3)||decide (m.N.getD 2 0<0)||decide ((s.log.length:Int)<m.N.getD 2 0)
theorem qp (m:Msg) (h:qr s m=true):bR s m=([],s):=by unfold bR;rw [aA (by exact h)]
theorem sC (m:Msg) (fr kk:Nat) (h:qr s m=false) (hf:m.frm=(fr:Int)) (hk:m.N.getD 2 0=(kk:Int)):bR s m =
  if m.N.getD 1 0=0 then (if s.next.getD fr 0<=kk then ([],s) else ([bQ { s with next:=s.next.set fr (max kk (s.mat.getD fr 0))} fr],{ s with next:=s.next.set fr (max kk (s.mat.getD fr 0))}))
  else if kk<=s.mat.getD fr 0 then ([],s) else
   (let p:=bI { s with mat:=s.mat.set fr kk,next:=s.next.set fr (max kk (s.next.getD fr 0))}
    if p.1 then (cR p.2 (bQ p.2),p.2) else if p.2.next.getD fr 0<p.2.log.length then ([bQ p.2 fr],p.2) else ([],p.2)):=by
 unfold bR;rw [aw (by show ¬qr s m=true;rw [h];decide)];rw [hf,hk,ed,ed]
theorem rx (a b:Nat):max (a:Int) (b:Int)=((max a b:Nat):Int):=by omega
set_option maxHeartbeats 4000000 in
theorem qq (h:Nd w A X r d l s k) (hw:Wf s k) (m:Msg) (v u:Value) (hm:IsMsg w A m v u) (fr:Nat) (hfr:m.frm=(fr:Int)) (hf2:fr<s.n) (hlen:2<=m.N.length):Calls Tryz.prog 74 #[.pointer (some ⟨r,0,none⟩),df m v u] w λe w'=>MsP w w' A X r d l e ((bR s m).1,(bR s m).2,k):=by
 have hbw:Below w.heap.size w (w.alloc (.cells (bU m v u) 83)):=(az _ _).alloc (ah _) _;have hbx:=aK w (.cells (bU m v u) 83);have h1:=h.below hbw;have HM0:Hid (Mv A A X X w (w.alloc (.cells (bU m v u) 83))):=ab (Mv.below hbw);have hM0:(w.alloc (.cells (bU m v u) 83)).cell? ⟨w.heap.size,0,none⟩=some (.int .i64 m.frm):=by rw [af hbx];rfl
 have hM3:(w.alloc (.cells (bU m v u) 83)).cell? ⟨w.heap.size,3,none⟩=some v:=by rw [af hbx];rfl
 obtain ⟨b,off,c,hc⟩:=vW hm.n (by omega);have hcW:=hc.below hbw;have hv:=hc.v;subst hv;have hN0:=hcW.at_ 0 (by omega);have hN1:=hcW.at_ 1 (by omega);rw [fL] at hN0;have hN2:=λ(h3:m.N.length=3)=>hcW.at_ 2 (by omega);obtain ⟨al,cl,hc8,hl1,hl2⟩:=h1.loglen;obtain ⟨vl,gv0,gn0,gm0,gh0,hcell⟩:=h1.cells;have hc6:(w.alloc (.cells (bU m (.slice (some ⟨b,off,none⟩) m.N.length c) u) 83)).cell? ⟨r,6,none⟩=some (.int .i64 s.term):=by rw [af hcell];rfl
 have hc11:(w.alloc (.cells (bU m (.slice (some ⟨b,off,none⟩) m.N.length c) u) 83)).cell? ⟨r,11,none⟩=some (.bool s.leads):=by rw [af hcell];rfl
 have HBAD:=ab (qp (s:=s) m);have HEQ:=ab (λkk h hk=>sC (s:=s) m fr kk h hfr hk);have HBE:Hid (qr s m=(!s.leads || !(m.N.getD 0 0==s.term) || !(m.N.length==3)||decide (m.N.getD 2 0<0)||decide ((s.log.length:Int)<m.N.getD 2 0))):=ab rfl;have HN1:=ab h1;have HW:=ab hw;have hl0:(0:Int)<(m.N.length:Int):=by omega
 have hl1':(1:Int)<(m.N.length:Int):=by omega
 rw [hfr] at hM0;clear h h1 hw hm hcell hbw hbx hc hcW;unfold df bU at *;rw [hfr] at *;generalize m.N.getD 0 0=n0 at *;generalize m.N.getD 1 0=n1 at *;generalize m.N.getD 2 0=n2 at *;generalize m.N.length=nl at *;generalize hsl:s.log.length=sl at *;go_enter Tryz.func74,Tryz.ntmps74
 go_upto_region 1 with (fail)
 generalize w.alloc (.cells #[.int .i64 (fr:Int),.int .i64 m.dst,.int .i64 m.kind,.slice (some ⟨b,off,none⟩) nl c,u] 83)=W at *;generalize w.heap.size=M at *;go_cut [47] (λv wx=>v = .bool (!s.leads || !(n0==s.term) || !(nl==3)||decide (n2<0)||decide ((sl:Int)<n2))/\∃q,wx=W.drewN q)
 case first =>
  cases b1:s.leads with
  | false =>
   rw [b1] at hc11;go_quiet (fail)
   go_wp2_with fail
   go_meet
   exact ⟨by rw [b1];rfl,nq,rfl⟩
  | true =>
   rw [b1] at hc11;cases b2:n0==s.term with
   | false =>
    have g2:(n0 != s.term)=true:=by rw [bne,b2];rfl
    go_quiet (fail)
    go_wp2_with fail
    go_meet
    exact ⟨by rw [b1,b2];rfl,nq,rfl⟩
   | true =>
    have g2:(n0 != s.term)=false:=by rw [bne,b2];rfl
    by_cases h3:nl=3
    ·subst h3;have hN2:=hN2 rfl;cases b4:decide (n2<0) with
     | true =>
      go_quiet (fail)
      go_wp2_with fail
      go_meet
      exact ⟨by rw [b1,b2,b4];rfl,nq,rfl⟩
     | false =>
      go_quiet (fail)
      go_wp2_with fail
      go_meet
      exact ⟨by rw [b1,b2,b4];rfl,nq,rfl⟩
    ·have g3:((nl:Int) != 3)=true:=by rw [qz];omega
     have e3:(nl==3)=false:=by simpa using h3
     go_quiet (fail)
     go_wp2_with fail
     go_meet
     exact ⟨by rw [b1,b2,e3];rfl,nq,rfl⟩
 case rest =>
 obtain ⟨rfl,q1,rfl⟩:=hcut;cases hno:(!s.leads || !(n0==s.term) || !(nl==3)||decide (n2<0)||decide ((sl:Int)<n2)) with
 | true =>
  have HE:=ab (HBAD.out (HBE.out.trans hno));go_wp2_with fail
  go_ret
  rw [HE.out];exact MsP.none (NdP.trans (HM0.out.trans (Mv.below (ak W q1))) ((HN1.out.below (ak W q1)).ndp (Mv.refl _ _ _)))
 | false =>
  have hnb:=HBE.out.trans hno;simp only [eL,qC,xp,ez] at hno;obtain ⟨⟨⟨⟨hld,_⟩,h3⟩,h4⟩,h5⟩:=hno;subst h3;obtain ⟨kk,rfl⟩:∃kk:Nat,n2=(kk:Int):=⟨n2.toNat,by omega⟩
  have HE:=ab (HEQ.out kk hnb rfl);have hkl:kk<=sl:=by omega
  have hN2:=hN2 rfl;go_upto_region 3 with (fail)
  go_quiet (fail)
  go_upto_region 4 with (fail)
  have hlb:=HW.out.logb;rw [hsl] at hlb;have H3:=ab ((HN1.out.below (ak W (q1+nq))).below (ak _ 1));have M3:=ab ((HM0.out.trans (Mv.below (ak W (q1+nq)))).trans (Mv.below (A:=A) (X:=X) (ak _ 1)));have HW3:Hid (Nd (W.drewN (q1+nq)) A X r d l s k/\Mv A A X X w (W.drewN (q1+nq))):=ab ⟨HN1.out.below (ak W (q1+nq)),HM0.out.trans (Mv.below (ak W (q1+nq)))⟩;obtain ⟨D,L,R,vl,gv,gn,gm,gh,h4,hX4⟩:=HW3.out.1;have hj13:(W.drewN (q1+nq)).cell? ⟨r,13,none⟩=some (.slice (some ⟨gn,0,none⟩) s.n s.n):=by rw [af h4.cell];rfl
  have hj14:(W.drewN (q1+nq)).cell? ⟨r,14,none⟩=some (.slice (some ⟨gm,0,none⟩) s.n s.n):=by rw [af h4.cell];rfl
  have hjn:(W.drewN (q1+nq)).cell? ⟨gn,fr,none⟩=some (.int .i64 (s.next.getD fr 0:Int)):=by rw [af h4.next];exact gA _ _ (by rw [HW.out.nl];exact hf2)
  have hjm:(W.drewN (q1+nq)).cell? ⟨gm,fr,none⟩=some (.int .i64 (s.mat.getD fr 0:Int)):=by rw [af h4.mat];exact gA _ _ (by rw [HW.out.ml];exact hf2)
  have hkN1:(W.drewN (q1+nq)).cell? ⟨b,off+1,none⟩=some (.int .i64 n1):=hN1;have hkM3:(W.drewN (q1+nq)).cell? ⟨M,3,none⟩=some (.slice (some ⟨b,off,none⟩) 3 c):=hM3;have hf3:(fr:Int)<(s.n:Int):=by omega
  have hMT:s.mat.getD fr 0<=sl:=by rw [<-hsl];exact (HW.out.lead hld fr).2
  have hNT:s.next.getD fr 0<=sl:=by rw [<-hsl];exact (HW.out.lead hld fr).1
  have HW7:Hid (Wf { s with next:=s.next.set fr (max kk (s.mat.getD fr 0))} k):=ab (mF HW.out fr _ (λ_=>by rw [hsl];omega));have HW11:Hid (Wf { s with mat:=s.mat.set fr kk,next:=s.next.set fr (max kk (s.next.getD fr 0))} k):=ab (mF (sS HW.out fr kk (λ_=>by rw [hsl];omega)) fr _ (λ_=>by show _<=s.log.length;rw [hsl];omega));have HH4:=ab h4;have HX4:=ab hX4;clear hc6 hc8 hc11 hM0 hM3 hN0 hN1 hN2 hnb h4 hX4 h5;generalize hmt:s.mat.getD fr 0=mt at *;generalize hnt:s.next.getD fr 0=nt at *
  (try rw [dL W q1 nq])
  generalize W.drewN (q1+nq)=W3 at *;by_cases hn1:n1=0
  ·rw [aA hn1] at HE;have g1:(n1==0)=true:=by simpa using hn1
   by_cases hge:nt<=kk
   ·have g2:(nt:Int)<=(kk:Int):=by omega
    rw [aA hge] at HE;go_wp2_with fail
    go_ret
    rw [HE.out];exact MsP.none (HW3.out.1.ndp HW3.out.2)
   ·have g2:¬(nt:Int)<=(kk:Int):=by omega
    rw [aw hge] at HE;go_upto_region 7 with (fail)
    have h4:=HH4.out.below (ak W3 1);change NdC W3.drew A D L R r d l s k vl gv gn gm gh at h4;have hX4:=HX4.out;have hmx:=rx kk mt;have hk13:W3.drew.cell? ⟨r,13,none⟩=some (.slice (some ⟨gn,0,none⟩) s.n s.n):=hj13;have hk14:W3.drew.cell? ⟨r,14,none⟩=some (.slice (some ⟨gm,0,none⟩) s.n s.n):=hj14;have hkm:W3.drew.cell? ⟨gm,fr,none⟩=some (.int .i64 (mt:Int)):=hjm;have hkn:W3.drew.cell? ⟨gn,fr,none⟩=some (.int .i64 (nt:Int)):=hjn;have hzn:=aM h4.next fr;have hrn:r≠gn:=bZ h4.cell h4.next (by decide);have HK7:Hid (∀v,(W3.drew.setCell ⟨gn,fr,none⟩ v).cell? ⟨r,13,none⟩=some (.slice (some ⟨gn,0,none⟩) s.n s.n)/\(W3.drew.setCell ⟨gn,fr,none⟩ v).cell? ⟨r,14,none⟩=some (.slice (some ⟨gm,0,none⟩) s.n s.n)/\(W3.drew.setCell ⟨gn,fr,none⟩ v).cell? ⟨gm,fr,none⟩=some (.int .i64 (mt:Int))):=ab (λv=>by
     have ho:Only [gn] W3.drew (W3.drew.setCell ⟨gn,fr,none⟩ v):=(Only.refl _ _).setCell (by simp) _;exact ⟨ho.cell hk13 (by simpa using hrn),ho.cell hk14 (by simpa using hrn),ho.cell hkm (by simpa using h4.nm.symm)⟩)
    have H4:Hid (NdP W3.drew (W3.drew.setCell ⟨gn,fr,none⟩ (.int .i64 ((max kk mt:Nat):Int))) A X r d l { s with next:=s.next.set fr (max kk mt)} k):=ab ((h4.set_next fr (max kk mt)).ndpR hX4 (S:=[gn]) ((Only.refl _ _).setCell (by simp) _) (λb hb=>by rw [aj.1 hb];exact h4.nR));have M4:Hid (Mv A A X X w W3.drew):=ab (HW3.out.2.trans (Mv.below (ak _ 1)));clear h4 hX4 hrn hj13 hj14 hjn hjm hkN1 hkM3;refine wp_region_held_drew (S:=λw'=>w'.cell? ⟨r,13,none⟩=some (.slice (some ⟨gn,0,none⟩) s.n s.n)/\w'.cell? ⟨r,14,none⟩=some (.slice (some ⟨gm,0,none⟩) s.n s.n)/\w'.cell? ⟨gm,fr,none⟩=some (.int .i64 (mt:Int))) (by kernel_rfl) ⟨hk13,hk14,hkm⟩ (λam=>?_);refine aB 0 ?_;refine aB 1 ?_;refine aB 2 ?_;refine aB 3 ?_;refine aB 4 ?_;refine aB 5 ?_;refine aB 6 ?_;refine aB 7 ?_;refine aB 8 ?_;refine aB 9 ?_;refine aB 10 ?_;refine aB 11 ?_;refine aB 12 ?_;refine aB 13 ?_;refine aB 14 ?_;generalize W3.drew=V3 at *;refine cC 15 λK hK=>?_;go_simp
    refine hK.out _ _ (HK7.out _) (λam=>?_);clear hK K;refine bH ?_;refine fI ?_;clear am;generalize V3.setCell ⟨gn,fr,none⟩ (.int .i64 ((max kk mt:Nat):Int))=W4 at *;go_wp2_with fail
    obtain ⟨A5,X5,h5,m5⟩:=H4.out;have H5:=ab h5;have M5:=ab (M4.out.trans m5);have HLY:=ab (kz h5 HW7.out fr hf2 (by
     have h9:=(HW7.out.lead hld fr).1;exact h9))
    clear h5 m5 hk13 hk14 hkm hkn hzn HK7 H4;generalize ({ s with next:=s.next.set fr (max kk mt)}:Rp)=s5 at *;refine HLY.out.mono ?_;rintro e W6 ⟨v6,u6,rfl,hm6,hb6⟩;have HF:=ab (MsP.trans M5.out (ku H5.out hb6 _ _ _ hm6));unfold bU at HF;unfold df;clear hm6 hb6;go_wp2_with fail
    go_ret
    rw [HE.out];exact HF.out
  ·rw [aw hn1] at HE;have g1:(n1==0)=false:=by simpa using hn1
   by_cases hge:kk<=mt
   ·have g2:(kk:Int)<=(mt:Int):=by omega
    rw [aA hge] at HE;go_wp2_with fail
    go_ret
    rw [HE.out];exact MsP.none (HW3.out.1.ndp HW3.out.2)
   ·have g2:¬(kk:Int)<=(mt:Int):=by omega
    rw [aw hge] at HE;go_upto_region 11 with (fail)
    have h4:=HH4.out.below (ak W3 1);change NdC W3.drew A D L R r d l s k vl gv gn gm gh at h4;have hX4:=HX4.out;have hmx:=rx kk nt;have hk13:W3.drew.cell? ⟨r,13,none⟩=some (.slice (some ⟨gn,0,none⟩) s.n s.n):=hj13;have hk14:W3.drew.cell? ⟨r,14,none⟩=some (.slice (some ⟨gm,0,none⟩) s.n s.n):=hj14;have hkm:W3.drew.cell? ⟨gm,fr,none⟩=some (.int .i64 (mt:Int)):=hjm;have hkn:W3.drew.cell? ⟨gn,fr,none⟩=some (.int .i64 (nt:Int)):=hjn;have hzn:=aM h4.next fr;have hzm:=aM h4.mat fr;have hrn:r≠gn:=bZ h4.cell h4.next (by decide);have hrm:r≠gm:=bZ h4.cell h4.mat (by decide);have o1:∀v,Only [gm] W3.drew (W3.drew.setCell ⟨gm,fr,none⟩ v):=λv=>(Only.refl _ _).setCell (by simp) _;have hkn2:(W3.drew.setCell ⟨gm,fr,none⟩ (.int .i64 (kk:Int))).cell? ⟨gn,fr,none⟩=some (.int .i64 (nt:Int)):=(o1 _).cell hkn (by simpa using h4.nm);have hzn2:=aM ((o1 (.int .i64 (kk:Int))).keeps h4.next (by simpa using h4.nm)) fr;have HK11:Hid (∀v w5,(w5=W3.drew.setCell ⟨gm,fr,none⟩ (.int .i64 (kk:Int))\/w5=(W3.drew.setCell ⟨gm,fr,none⟩ (.int .i64 (kk:Int))).setCell ⟨gn,fr,none⟩ v)->w5.cell? ⟨r,13,none⟩=some (.slice (some ⟨gn,0,none⟩) s.n s.n)/\w5.cell? ⟨r,14,none⟩=some (.slice (some ⟨gm,0,none⟩) s.n s.n)):=ab (λv w5 e=>by
     have ho:Only [gn,gm] W3.drew w5:=by
      rcases e with rfl | rfl
      ·exact (Only.refl _ _).setCell (by simp) _
      ·exact ((Only.refl _ _).setCell (by simp) _).setCell (by simp) _
     exact ⟨ho.cell hk13 (by simp [hrn,hrm]),ho.cell hk14 (by simp [hrn,hrm])⟩)
    have H4:Hid (NdP W3.drew ((W3.drew.setCell ⟨gm,fr,none⟩ (.int .i64 (kk:Int))).setCell ⟨gn,fr,none⟩ (.int .i64 ((max kk nt:Nat):Int))) A X r d l { s with mat:=s.mat.set fr kk,next:=s.next.set fr (max kk nt)} k):=ab (((h4.set_mat fr kk).set_next fr (max kk nt)).ndpR hX4 (S:=[gn,gm]) (((Only.refl _ _).setCell (by simp) _).setCell (by simp) _) (λb hb=>by
     simp at hb;rcases hb with rfl | rfl
     ·exact h4.nR
     ·exact h4.mR))
    have M4:Hid (Mv A A X X w W3.drew):=ab (HW3.out.2.trans (Mv.below (ak _ 1)));clear h4 hX4 hrn hrm o1 hj13 hj14 hjn hjm hkN1 hkM3;refine wp_region_held_drew (S:=λw'=>w'.cell? ⟨r,13,none⟩=some (.slice (some ⟨gn,0,none⟩) s.n s.n)/\w'.cell? ⟨r,14,none⟩=some (.slice (some ⟨gm,0,none⟩) s.n s.n)) (by kernel_rfl) ⟨hk13,hk14⟩ (λam=>?_);refine aB 0 ?_;refine aB 1 ?_;refine aB 2 ?_;refine aB 3 ?_;refine aB 4 ?_;refine aB 5 ?_;refine aB 6 ?_;refine aB 7 ?_;refine aB 8 ?_;refine aB 9 ?_;refine aB 10 ?_;refine aB 11 ?_;refine aB 12 ?_;refine aB 13 ?_;refine aB 14 ?_;refine aB 15 ?_;refine aB 16 ?_;refine aB 17 ?_;generalize W3.drew=V3 at *;refine cC 18 λK hK=>?_;go_simp
    refine hK.out _ _ am (λam=>?_);clear hK K;refine bH ?_;refine aB 19 ?_;refine aB 20 ?_;refine cC 21 λK hK=>?_;go_simp
    refine hK.out _ _ (HK11.out undef _ (.inl rfl)) (λam=>?_);clear hK K;refine bH ?_;refine aB 22 ?_;refine cC 23 λK hK=>?_;go_simp
    refine hK.out _ _ (HK11.out _ _ (.inr rfl)) (λam=>?_);clear hK K;refine bH ?_;refine fI ?_;clear am;generalize (V3.setCell ⟨gm,fr,none⟩ (.int .i64 (kk:Int))).setCell ⟨gn,fr,none⟩ (.int .i64 ((max kk nt:Nat):Int))=W4 at *;go_wp2_with fail
    obtain ⟨A5,X5,h5,m5⟩:=H4.out;have H5:=ab h5;have M5:=ab (M4.out.trans m5);clear h5 m5 hk13 hk14 hkm hkn hzn hzm hkn2 hzn2 HK11 H4;have hl5:({ s with mat:=s.mat.set fr kk,next:=s.next.set fr (max kk nt)}:Rp).leads=true:=hld;have hn5:({ s with mat:=s.mat.set fr kk,next:=s.next.set fr (max kk nt)}:Rp).n=s.n:=rfl
    (try simp only at HE)
    generalize ({ s with mat:=s.mat.set fr kk,next:=s.next.set fr (max kk nt)}:Rp)=s5 at *;refine (ke H5.out HW11.out).mono ?_;rintro e W6 ⟨rfl,A6,X6,h6,m6⟩;have H6:=ab h6;have M6:=ab (M5.out.trans m6);have HW6:=ab (fA HW11.out);have HL6:Hid ((bI s5).2.leads=true):=ab (by rw [iV];exact hl5);have HN6:Hid ((bI s5).2.n=s.n):=ab (by rw [yq];exact hn5);clear h6 m6 hl5 hn5;generalize bI s5=q6 at *;obtain ⟨ob,s6⟩:=q6
    (try simp only at HE);(try simp only at H6);(try simp only at HW6);(try simp only at HL6);(try simp only at HN6)
    cases ob with
    | true =>
     rw [aA rfl] at HE;go_wp2_with fail
     refine (gk H6.out HW6.out.n5 HW6.out (λi _=>(HW6.out.lead HL6.out i).1)).mono ?_;rintro e w4 ⟨v4,rfl,ho4,hb4⟩;have HF:=ab (MsP.trans M6.out (gf H6.out ho4 hb4));clear ho4 hb4;go_wp2_with fail
     go_ret
     rw [HE.out];exact HF.out
    | false =>
     rw [aw (by simp)] at HE;go_upto_region 14 with (fail)
     obtain ⟨D,L,R,vl,gv,gn,gm,gh,h7,hX7⟩:=H6.out;obtain ⟨al,cl,hy8,hyl,hyc⟩:=H6.out.loglen;have hy13:W6.cell? ⟨r,13,none⟩=some (.slice (some ⟨gn,0,none⟩) s6.n s6.n):=by rw [af h7.cell];rfl
     have hyn:W6.cell? ⟨gn,fr,none⟩=some (.int .i64 (s6.next.getD fr 0:Int)):=by rw [af h7.next];exact gA _ _ (by rw [HW6.out.nl,HN6.out];exact hf2)
     rw [HN6.out] at hy13;clear h7 hX7;have HLY:=ab (λq=>kz (H6.out.below (ak W6 q)) HW6.out fr (by rw [HN6.out];exact hf2) (HW6.out.lead HL6.out fr).1);by_cases hlt:s6.next.getD fr 0<s6.log.length
     ·have g3:decide (s6.next.getD fr 0<s6.log.length)=true:=aJ hlt;rw [aA hlt] at HE;clear hlt;generalize s6.next.getD fr 0=x6 at *;generalize s6.log.length=y6 at *;go_quiet (fail)
      go_wp2_with fail
      refine (HLY.out nq).mono ?_;rintro e W7 ⟨v7,u7,rfl,hm7,hb7⟩;have HF:=ab (MsP.trans (M6.out.trans (Mv.below (ak W6 nq))) (ku (H6.out.below (ak W6 nq)) hb7 _ _ _ hm7));unfold bU at HF;unfold df;clear hm7 hb7;go_wp2_with fail
      go_ret
      rw [HE.out];exact HF.out
     ·have g3:decide (s6.next.getD fr 0<s6.log.length)=false:=aW hlt;rw [aw hlt] at HE;clear hlt;generalize s6.next.getD fr 0=x6 at *;generalize s6.log.length=y6 at *;go_quiet (fail)
      go_wp2_with fail
      go_ret
      rw [HE.out];exact MsP.none ((H6.out.below (ak W6 nq)).ndp (M6.out.trans (Mv.below (ak W6 nq))))
end
structure LayC (w:World) (A:List Nat) (M:Nat) (m:Msg) (b off c:Nat) (u:Value):Prop where
 cell:w.heap[M]? = some (.cells (bU m (.slice (some ⟨b,off,none⟩) m.N.length c) u) 83 (0,0))
 nums:∀i,i<m.N.length->w.cell? ⟨b,off+i,none⟩=some (.int .i64 (m.N.getD i 0))
 bs:ImmL w A u m.B
 nM:M∉A
 nb:b∉A
 lb:b<w.heap.size
section
variable {w w':World} {A A' X X':List Nat} {r d l:Nat} {s s':Rp} {k k':Dk}
theorem LayC.step {M b off c:Nat} {m:Msg} {u:Value} {S:List Nat} (h:LayC w A M m b off c u) (ho:Only S w w') (hS:∀x∈S,x∈A) (he:Ext A A' w):LayC w' A' M m b off c u:=by
 have hlt:=aQ h.cell;refine ⟨ho.keeps h.cell (λhm=>h.nM (hS _ hm)),λi hi=>ho.cell (h.nums i hi) (λhm=>h.nb (hS _ hm)),h.bs.step ho hS he,λhm=>?_,λhm=>?_,aE h.lb ho.size⟩
 ·rcases he _ hm with h1 | h1
  ·exact h.nM h1
  ·omega
 ·rcases he _ hm with h1 | h1
  ·exact h.nb h1
  ·have:=h.lb;omega
theorem LayC.below {M b off c:Nat} {m:Msg} {u:Value} (h:LayC w A M m b off c u) (hb:Below w.heap.size w w'):LayC w' A M m b off c u:=h.step (Only.ofBelow hb []) (λx hx=>by cases hx) (Ext.refl _ _)
theorem rJ (hA:∀b∈A,b<w.heap.size) {m:Msg} {v u:Value} (hm:IsMsg w A m v u) (hn:0<m.N.length):∃b off c,v = .slice (some ⟨b,off,none⟩) m.N.length c/\LayC (w.alloc (.cells (bU m v u) 83)) A w.heap.size m b off c u:=by
 have hbw:Below w.heap.size w (w.alloc (.cells (bU m v u) 83)):=(az _ _).alloc (ah _) _;obtain ⟨ao,c,rfl,h1,h2,h9,h3⟩:=id hm.n;obtain ⟨_,_,h4⟩:=h1;rcases h4 with h4 | ⟨b,off,h5,h6⟩
 ·omega
 ·subst h5;obtain ⟨h7,h8⟩:=h3 _ rfl;exact ⟨b,off,c,rfl,aK _ _,λi hi=>cell_later hbw (by rw [h6 i hi]),hm.b.below hbw,λhm=>by have:=hA _ hm;omega,h7,aE h8 hbw.size⟩
theorem Df {u:Value} {ls:List (List UInt8)} (h:ImmL w A u ls) (i:Nat) (hi:i<ls.length):∃g c ui,u = .slice (some ⟨g,0,none⟩) ls.length c/\w.cell? ⟨g,i,none⟩=some ui/\Imm w A ui (ls.getD i []):=by
 rcases h with ⟨_,h0⟩ | ⟨g,c,cur,rfl,h1,h2,h3,h4,h5⟩
 ·rw [h0] at hi;cases hi
 ·obtain ⟨ui,k1,k2⟩:=h5 i hi;exact ⟨g,c,ui,rfl,by rw [af h4];exact k1,k2⟩
theorem ll {u:Value} {ls:List (List UInt8)} (h:ImmL w A u ls):∃ao c,u = .slice ao ls.length c:=by
 rcases h with ⟨rfl,rfl⟩ | ⟨g,c,cur,rfl,_⟩
 ·exact ⟨none,0,rfl⟩
 ·exact ⟨_,c,rfl⟩
theorem vL (p:Nat) (x:Ent) (hp:p<=s.log.length) (h:(b8 s k p x).1=true):(b8 s k p x).2.1.log.length=p+1:=by
 have hs:=ei (s:=s) (k:=k) (db p x);unfold b8 at *;generalize bB s k (db p x)=q at *;simp only at *;split at h
 ·cases h
 ·rename_i hd;rw [aw hd];have hl1:q.1.log=s.log:=by rw [hs]
  show (q.1.log.take p++[x]).length=p+1;rw [hl1];simp [bi hp]
theorem vM (h:Nd w A X r d l s k) (hw:Wf s k) (p:Nat) (z:Int) (hz:z=(p:Int)) (x:Ent) (hp:p<=s.log.length) (hx:x.bs.length<=8000) (u:Value) (hu:Imm w A u x.bs) :
  Calls Tryz.prog 97 #[.pointer (some ⟨r,0,none⟩),.int .i64 z,sg x u] w λe w'=>e = .returned (.bool (b8 s k p x).1)/\NdP w w' A X r d l (b8 s k p x).2.1 (b8 s k p x).2.2:=by
 subst hz;exact o0 h hw p x hp hx u hu
theorem xi (h:Nd w A X r d l s k) (z:Int) (hn:z<=s.log.length) (hb:s.log.length<=1000000) (hm:s.many<=s.agreed):Calls Tryz.prog 98 #[.pointer (some ⟨r,0,none⟩),.int .i64 z] w λe w'=>Nd w' A X r d l (bM s z.toNat) k/\Only [r] w w'/\e = .returned (.tuple #[]):=by
 by_cases hz:0<=z
 ·obtain ⟨n,rfl⟩:∃n:Nat,z=(n:Int):=⟨z.toNat,by omega⟩
  exact py h n (by omega) hb hm
 ·have HE:=ab (pz s z.toNat (by omega));have H0:=ab h;obtain ⟨vl,gv,gn,gm,gh,hcell⟩:=h.cells;have hc9:w.cell? ⟨r,9,none⟩=some (.int .i64 (s.agreed:Int)):=by rw [af hcell];rfl
  have hlt:¬(s.agreed:Int)<z:=by omega
  clear h hcell;go_enter Tryz.func98,Tryz.ntmps98
  go_wp2_with fail
  go_loopw [] (λwr=>wr=w) (λwr=>0)
  case atStart=>rfl
  case round =>
   subst hrel;go_wp2_with fail
   go_end0
   rw [HE.out];exact ⟨H0.out,Only.refl _ _,rfl⟩
end
section
variable {w w':World} {A A' X X':List Nat} {r d l:Nat} {s s':Rp} {k k':Dk}
def gF (s:Rp) (m:Msg):Bool := !(m.N.length==4+m.B.length)||decide (m.N.getD 1 0<0)||(m.N.getD 0 0==s.term&&s.leads)
theorem rH (m:Msg) (h:gF s m=true):dH s k m=([],s,k):=by unfold dH;rw [aA (by exact h)]
theorem rF (m:Msg) (h:gF s m=false) (h2:m.N.getD 0 0<s.term):dH s k m=([da s m.frm 4 [s.term,0,0]],s,k):=by
 unfold dH;rw [aw (by show ¬gF s m=true;rw [h];decide),aA h2]
theorem nD (m:Msg) (h:gF s m=false) (h2:¬m.N.getD 0 0<s.term) (h3:ey { s with ticks:=0 } (m.N.getD 1 0) (m.N.getD 2 0)=false):dH s k m=([da { s with ticks:=0 } m.frm 4 [s.term,0,min (s.log.length:Int) (max (m.N.getD 1 0 - 1) 0)]],{ s with ticks:=0 },k):=by
 unfold dH;rw [aw (by show ¬gF s m=true;rw [h];decide),aw h2];simp only;rw [aw (by rw [h3];decide)]
theorem rG (m:Msg) (f:Nat) (h:gF s m=false) (h2:¬m.N.getD 0 0<s.term) (h3:ey { s with ticks:=0 } (m.N.getD 1 0) (m.N.getD 2 0)=true) (hf:m.N.getD 1 0=(f:Int)):dH s k m =
  (let p:=bE f ((m.N.drop 4).zip m.B) 0 { s with ticks:=0 } k
   if p.1 then
    let q:=if m.B.length=0 then p.2 else bT p.2.1 p.2.2
    if 0<m.B.length/\q.1.done=true then ([],q) else
    let s2:=bM q.1 (min (m.N.getD 3 0) ((f+m.B.length:Nat):Int)).toNat
    ([da s2 m.frm 4 [s2.term,1,((f+m.B.length:Nat):Int)]],s2,q.2)
   else ([],p.2)):=by
 unfold dH;rw [aw (by show ¬gF s m=true;rw [h];decide),aw h2];simp only;rw [aA h3,hf,ed]
theorem xv (m:Msg) (j:Nat) (h1:4+j<m.N.length) (h2:j<m.B.length):((m.N.drop 4).zip m.B).drop j=(m.N.getD (4+j) 0,m.B.getD j [])::((m.N.drop 4).zip m.B).drop (j+1):=by
 have hl:j<((m.N.drop 4).zip m.B).length:=by rw [oq,bz];omega
 rw [dK hl];congr 1;simp [List.getElem_zip,List.getD,h1,h2]
set_option maxHeartbeats 80000000 in
theorem Bj (h:Nd w A X r d l s k) (hw:Wf s k) (m:Msg) (v u:Value) (hm:IsMsg w A m v u) (hlen:2<=m.N.length) (hle:m.N.getD 0 0<=s.term) (hN1m:m.N.getD 1 0<=4611686018427387904) (hB:m.B.length<=1000000) (HC:Hid (¬(gF s m=false/\¬m.N.getD 0 0<s.term/\ey { s with ticks:=0 } (m.N.getD 1 0) (m.N.getD 2 0)=true))) :
  Calls Tryz.prog 73 #[.pointer (some ⟨r,0,none⟩),df m v u] w λe w'=>MsP w w' A X r d l e (dH s k m):=by
 have hbw:Below w.heap.size w (w.alloc (.cells (bU m v u) 83)):=(az _ _).alloc (ah _) _;have h1:=h.below hbw;have HM0:Hid (Mv A A X X w (w.alloc (.cells (bU m v u) 83))):=ab (Mv.below hbw);obtain ⟨b,off,c,ev,hlc⟩:=rJ h.alt hm (by omega);subst ev;obtain ⟨ub,bc,eu⟩:=ll hm.b;subst eu;have hM0:(w.alloc (.cells (bU m (.slice (some ⟨b,off,none⟩) m.N.length c) (.slice ub m.B.length bc)) 83)).cell? ⟨w.heap.size,0,none⟩=some (.int .i64 m.frm):=by rw [af hlc.cell];rfl
 have hM3:(w.alloc (.cells (bU m (.slice (some ⟨b,off,none⟩) m.N.length c) (.slice ub m.B.length bc)) 83)).cell? ⟨w.heap.size,3,none⟩=some (.slice (some ⟨b,off,none⟩) m.N.length c):=by rw [af hlc.cell];rfl
 have hM4:(w.alloc (.cells (bU m (.slice (some ⟨b,off,none⟩) m.N.length c) (.slice ub m.B.length bc)) 83)).cell? ⟨w.heap.size,4,none⟩=some (.slice ub m.B.length bc):=by rw [af hlc.cell];rfl
 have hN0:=hlc.nums 0 (by omega);have hN1:=hlc.nums 1 (by omega);rw [fL] at hN0;obtain ⟨al,cl,hc8,hl1,hl2⟩:=h1.loglen;obtain ⟨vl,gv0,gn0,gm0,gh0,hcell⟩:=h1.cells;have hc6:(w.alloc (.cells (bU m (.slice (some ⟨b,off,none⟩) m.N.length c) (.slice ub m.B.length bc)) 83)).cell? ⟨r,6,none⟩=some (.int .i64 s.term):=by rw [af hcell];rfl
 have hc15:(w.alloc (.cells (bU m (.slice (some ⟨b,off,none⟩) m.N.length c) (.slice ub m.B.length bc)) 83)).cell? ⟨r,15,none⟩=some (.int .i64 (s.ticks:Int)):=by rw [af hcell];rfl
 have hz15:=aM hcell 15;have hc11:(w.alloc (.cells (bU m (.slice (some ⟨b,off,none⟩) m.N.length c) (.slice ub m.B.length bc)) 83)).cell? ⟨r,11,none⟩=some (.bool s.leads):=by rw [af hcell];rfl
 have HN1:=ab h1;have HW:=ab hw;have HLC:=ab hlc;have HBAD:=ab (rH (s:=s) (k:=k) m);have HOLD:=ab (rF (s:=s) (k:=k) m);have HUNF:=ab (nD (s:=s) (k:=k) m);have HFIT:=ab (rG (s:=s) (k:=k) m);have HBE:Hid (gF s m=(!(m.N.length==4+m.B.length)||decide (m.N.getD 1 0<0)||(m.N.getD 0 0==s.term&&s.leads))):=ab rfl;have HSAYG:Hid (∀(W8:World) A8 X8 s8 k8,Nd W8 A8 X8 r d l s8 k8->∀W9,Below W8.heap.size W8 W9->∀dst kind N ao n c,Calls Tryz.prog 67 #[.pointer (some ⟨r,0,none⟩),.int .i64 dst,.int .i64 kind,.slice ao n c] W9 λe w2=>e = .returned (df (da s8 dst kind N) (.slice ao n c) (.slice none 0 0))/\Below W9.heap.size W9 w2):=ab (λW8 A8 X8 s8 k8 h W9 hb dst kind N ao n c=>jP (h.below hb) dst kind N ao n c);have hl0:(0:Int)<(m.N.length:Int):=by omega
 have hl1':(1:Int)<(m.N.length:Int):=by omega
 have q1:IntKind.i64.wrap (4+(m.B.length:Int))=4+(m.B.length:Int):=IntWalk.i64_in _ (by omega);have HNL:Hid (∃z,z=m.N):=ab ⟨_,rfl⟩;clear h h1 hw hm hcell hbw hlc;unfold df bU at *;go_enter Tryz.func73,Tryz.ntmps73
 go_upto_region 1 with (fail)
 generalize hWW:w.alloc (.cells #[.int .i64 m.frm,.int .i64 m.dst,.int .i64 m.kind,.slice (some ⟨b,off,none⟩) m.N.length c,.slice ub m.B.length bc] 83)=W at *;generalize hMM:w.heap.size=M at *;generalize hn0:m.N.getD 0 0=n0 at *;generalize hn1:m.N.getD 1 0=n1 at *;generalize hn2:m.N.getD 2 0=n2 at *;generalize hn3:m.N.getD 3 0=n3 at *;generalize hnl:m.N.length=nl at *;generalize hbl:m.B.length=bl at *;have HDR:=ab (λa b=>dL W a b);go_cut [40] (λv wx=>v = .bool (!(nl==4+bl)||decide (n1<0)||(n0==s.term&&s.leads))/\∃q,wx=W.drewN q)
 case first =>
  by_cases h4:nl=4+bl
  ·subst h4;have E4:Hid ((4+bl==4+bl)=true):=ab (by simp);cases b1:decide (n1<0) with
   | true =>
    go_quiet (fail)
    go_wp2_with fail
    go_meet
    exact ⟨by rw [E4.out,b1];rfl,nq,rfl⟩
   | false =>
    cases b2:n0==s.term with
    | false =>
     go_quiet (fail)
     go_wp2_with fail
     go_meet
     exact ⟨by rw [E4.out,b1,b2];rfl,nq,rfl⟩
    | true =>
     go_quiet (fail)
     go_wp2_with fail
     go_meet
     exact ⟨by rw [E4.out,b1,b2];rfl,nq,rfl⟩
  ·have g4:((nl:Int) != 4+(bl:Int))=true:=by rw [qz];omega
   have e4:(nl==4+bl)=false:=by simpa using h4
   go_quiet (fail)
   go_wp2_with fail
   go_meet
   exact ⟨by rw [e4];rfl,nq,rfl⟩
 case rest =>
 obtain ⟨rfl,q2,rfl⟩:=hcut;cases hno:(!(nl==4+bl)||decide (n1<0)||(n0==s.term&&s.leads)) with
 | true =>
  have HE:=ab (HBAD.out (HBE.out.trans hno));go_wp2_with fail
  go_ret
  rw [HE.out];exact MsP.none (NdP.trans (HM0.out.trans (Mv.below (ak W q2))) ((HN1.out.below (ak W q2)).ndp (Mv.refl _ _ _)))
 | false =>
  have HNB:=ab (HBE.out.trans hno);simp only [eL,qC,xp,ez,Bool.and_eq_false_imp] at hno;obtain ⟨⟨h4,h5⟩,h6⟩:=hno;subst h4;go_upto_region 3 with (fail)
  by_cases hold:n0<s.term
  ·have HE:=ab (HOLD.out HNB.out hold);have g1:decide (n0<s.term)=true:=aJ hold;go_quiet (fail)
   go_upto_region 4 with (fail)
   (try rw [dL W q2 nq])
   obtain ⟨st8,hst8⟩:∃st8,st8=s.term:=⟨_,rfl⟩
   obtain ⟨s8,hs8⟩:∃s8,s8=s:=⟨_,rfl⟩
   obtain ⟨k8,hk8⟩:∃k8,k8=k:=⟨_,rfl⟩
   obtain ⟨A8,hA8⟩:∃A8,A8=A:=⟨_,rfl⟩
   obtain ⟨X8,hX8⟩:∃X8,X8=X:=⟨_,rfl⟩
   have h8:Nd (W.drewN (q2+nq)).drew A8 X8 r d l s8 k8:=by rw [hs8,hk8,hA8,hX8];exact (HN1.out.below (ak W (q2+nq))).below (ak _ 1)
   have M8:Hid (Mv A A8 X X8 w (W.drewN (q2+nq)).drew):=ab (by rw [hA8,hX8];exact (HM0.out.trans (Mv.below (ak W (q2+nq)))).trans (Mv.below (ak _ 1)));have hMV:(W.drewN (q2+nq)).drew.cell? ⟨M,0,none⟩=some (.int .i64 m.frm):=hM0;have hr6:(W.drewN (q2+nq)).drew.cell? ⟨r,6,none⟩=some (.int .i64 st8):=by rw [hst8];exact hc6
   have HE:Hid (dH s k m=([da s8 m.frm 4 [st8,0,0]],s8,k8)):=ab (by rw [hs8,hk8,hst8];exact HE.out);clear hc6 hc8 hc11 hc15 hz15 hM0 hM3 hM4 hN0 hN1 hst8 hs8 hk8 hA8 hX8 hl0 hl1';generalize W.drewN (q2+nq)=W8 at *;have HK8:Hid (∀W',Below W8.drew.heap.size W8.drew W'->W'.cell? ⟨M,0,none⟩=some (.int .i64 m.frm)/\W'.cell? ⟨r,6,none⟩=some (.int .i64 st8)):=ab (λW' hb=>⟨cell_later hb hMV,cell_later hb hr6⟩);have HSAY:=ab (HSAYG.out _ _ _ _ _ h8);have HA8:=ab h8.alt;have HBV:Hid (∀o,Below W8.drew.heap.size W8.drew (W8.drew.alloc o)):=ab (λo=>(az _ _).alloc (ah _) o);have HF8:Hid (∀V10 vv N,Below W8.drew.heap.size W8.drew V10->ImmI V10 A8 vv N->MsP w (V10.alloc (.cells (bU (da s8 m.frm 4 N) vv (.slice none 0 0)) 83)) A X r d l (.returned (.slice (some ⟨V10.heap.size,0,none⟩) 1 1)) ([da s8 m.frm 4 N],s8,k8)):=ab (λV10 vv N hb hi=>MsP.trans M8.out (ku h8 hb (da s8 m.frm 4 N) vv (.slice none 0 0) ⟨hi,.inl ⟨rfl,rfl⟩⟩));unfold bU at HF8;refine wp_region_held_drew (S:=λw'=>w'.cell? ⟨M,0,none⟩=some (.int .i64 m.frm)/\w'.cell? ⟨r,6,none⟩=some (.int .i64 st8)) (by kernel_rfl) (HK8.out _ (az _ _)) (λam=>?_);refine aB 0 ?_;refine aB 1 ?_;refine aB 2 ?_;refine aB 3 ?_;refine aB 4 ?_;refine aB 5 ?_;refine aB 6 ?_;generalize W8.drew=V8 at *;refine cC 7 λK hK=>?_;go_simp
   refine hK.out _ _ (HK8.out _ (HBV.out (.cells #[.int .i64 st8,.int .i64 0,.int .i64 0] 2))) (λam=>?_);clear hK K;refine bH ?_;have HI8:Hid (ImmI (V8.alloc (.cells #[.int .i64 st8,.int .i64 0,.int .i64 0] 2)) A8 (.slice (some ⟨V8.heap.size,0,none⟩) 3 3) [st8,0,0]):=ab (ImmI.fresh [st8,0,0] _ rfl 2 3 rfl (by omega) HA8.out);have HB8:=ab (HBV.out (.cells #[.int .i64 st8,.int .i64 0,.int .i64 0] 2));generalize V8.alloc (.cells #[.int .i64 st8,.int .i64 0,.int .i64 0] 2)=V9 at *;refine cC 8 λK hK=>?_;go_simp
   refine (HSAY.out _ HB8.out _ _ [st8,0,0] _ _ _).mono ?_;rintro e V10 ⟨rfl,hb10⟩;have HB10:=ab (HB8.out.trans (hb10.mono HB8.out.size));have HI10:=ab (HI8.out.below hb10);clear hb10;go_wp2_with fail
   refine hK.out _ _ (HK8.out _ HB10.out) (λam=>?_);clear hK K;refine bH ?_;refine cC 9 λK hK=>?_
   (try unfold df)
   go_simp
   refine hK.out _ _ (HK8.out _ (HB10.out.alloc HB10.out.size _)) (λam=>?_);clear hK K;refine bH ?_;refine aB 10 ?_;refine fI ?_;clear am;go_wp2_with fail
   go_ret
   rw [HE.out];exact HF8.out _ _ _ HB10.out HI10.out
  ·have g1:decide (n0<s.term)=false:=aW hold;have HLD:Hid (s.leads=false):=ab (h6 (by omega));go_quiet (fail)
   go_upto_region 6 with (fail)
   (try rw [dL W q2 nq])
   have hlb:=HW.out.logb;have hrA:r∈A:=HN1.out.xA r HN1.out.rX;have HN5:Hid (NdP (W.drewN (q2+nq)) ((W.drewN (q2+nq)).setCell ⟨r,15,none⟩ (.int .i64 0)) A X r d l { s with ticks:=0 } k):=ab (by
    refine Nd.scal (HN1.out.below (ak W (q2+nq))) ((Only.refl _ _).setCell (by simp) _) ?_ rfl rfl rfl rfl rfl rfl;intro vl gv gn gm gh hc;rw [aR hc];rfl)
   have HLC5:Hid (LayC ((W.drewN (q2+nq)).setCell ⟨r,15,none⟩ (.int .i64 0)) A M m b off c (.slice ub bl bc)):=ab ((HLC.out.below (ak W (q2+nq))).step (S:=[r]) ((Only.refl _ _).setCell (by simp) _) (by simpa using hrA) (Ext.refl _ _));have HO5:Hid (Only [r] (W.drewN (q2+nq)) ((W.drewN (q2+nq)).setCell ⟨r,15,none⟩ (.int .i64 0))):=ab ((Only.refl _ _).setCell (by simp) _);have HW5:Hid (Wf { s with ticks:=0 } k):=ab (eE HW.out s.lives 0 s.clock s.votes (aH _) HW.out.vl (ah _));have HMD:Hid (Mv A A X X w (W.drewN (q2+nq))):=ab (HM0.out.trans (Mv.below (ak W (q2+nq))));clear hc6 hc8 hc11 hc15 hz15 hM0 hM3 hM4 hN0 hN1 h6;generalize (W.drewN (q2+nq)).setCell ⟨r,15,none⟩ (.int .i64 0)=W5 at *;obtain ⟨A5,X5,h5n,m5⟩:=HN5.out;have hX5A:∀x∈[r],x∈A:=by simpa using hrA
   have HLC5:Hid (LayC W5 A5 M m b off c (.slice ub bl bc)):=ab ((HLC.out.below (ak W (q2+nq))).step HO5.out hX5A m5.ext);have M5:=ab (HMD.out.trans m5);have H5:=ab h5n;clear m5 HO5 HMD hX5A;have hm3:W5.drew.cell? ⟨M,3,none⟩=some (.slice (some ⟨b,off,none⟩) (4+bl) c):=by
    have h9:=af HLC5.out.cell 3;rw [show (4+bl)=m.N.length from hnl.symm];exact h9
   have hn1c:W5.drew.cell? ⟨b,off+1,none⟩=some (.int .i64 n1):=by rw [<-hn1];exact HLC5.out.nums 1 (by omega)
   have hn2c:W5.drew.cell? ⟨b,off+2,none⟩=some (.int .i64 n2):=by rw [<-hn2];exact HLC5.out.nums 2 (by omega)
   have h5d:Nd W5.drew A5 X5 r d l { s with ticks:=0 } k:=h5n.below (ak W5 1);have HFT:=ab (se h5d n1 n2 (by omega) (show s.log.length<=1000000 by omega));have hl2':(2:Int)<(4:Int)+(bl:Int):=by omega
   have hl1b:(1:Int)<(4:Int)+(bl:Int):=by omega
   have HUNF:=ab (HUNF.out HNB.out hold);have HFIT:=ab (λf hf h3=>HFIT.out f HNB.out hold h3 hf);generalize hs5:({ s with ticks:=0 }:Rp)=s5 at *;have HS5:Hid (s5.term=s.term/\s5.log=s.log/\s5.leads=s.leads):=ab (by rw [<-hs5];exact ⟨rfl,rfl,rfl⟩);have HOLDF:=ab hold;clear h5n hs5 hold h5d;go_cut [73] (λv wx=>v = .bool (!ey s5 n1 n2)/\wx=W5.drew)
   case first =>
    refine wp_region_held_drew (S:=λw'=>w'.cell? ⟨M,3,none⟩=some (.slice (some ⟨b,off,none⟩) (4+bl) c)/\w'.cell? ⟨b,off+1,none⟩=some (.int .i64 n1)/\w'.cell? ⟨b,off+2,none⟩=some (.int .i64 n2)) (by kernel_rfl) ⟨hm3,hn1c,hn2c⟩ (λam=>?_);refine aB 0 ?_;refine aB 1 ?_;refine aB 2 ?_;refine aB 3 ?_;refine aB 4 ?_;refine aB 5 ?_;refine aB 6 ?_;refine aB 7 ?_;refine aB 8 ?_;generalize W5.drew=V6 at *;refine cC 9 λK hK=>?_;go_simp
    refine HFT.out.mono ?_;rintro e wa ⟨rfl,rfl⟩;go_wp2_with fail
    refine hK.out _ _ am (λam=>?_);clear hK K;refine bH ?_;refine aB 10 ?_;refine fI ?_;clear am;go_wp2_with fail
    go_meet
    exact ⟨rfl,rfl⟩
   case rest =>
   obtain ⟨rfl,rfl⟩:=hcut;have H6:Hid (Nd W5.drew A5 X5 r d l s5 k):=ab (H5.out.below (ak W5 1));have HLC6:Hid (LayC W5.drew A5 M m b off c (.slice ub bl bc)):=ab (HLC5.out.below (ak W5 1));have M6:Hid (Mv A A5 X X5 w W5.drew):=ab (M5.out.trans (Mv.below (ak W5 1)));clear HFT H5 M5 HLC5;generalize W5.drew=W6 at *;cases hft:ey s5 n1 n2 with
   | false =>
    have HE:=ab (HUNF.out hft);go_upto_region 7 with (fail)
    obtain ⟨st8,hst8⟩:∃st8,st8=s5.term:=⟨_,rfl⟩
    obtain ⟨s8,hs8⟩:∃s8,s8=s5:=⟨_,rfl⟩
    obtain ⟨k8,hk8⟩:∃k8,k8=k:=⟨_,rfl⟩
    obtain ⟨A8,hA8⟩:∃A8,A8=A5:=⟨_,rfl⟩
    obtain ⟨X8,hX8⟩:∃X8,X8=X5:=⟨_,rfl⟩
    obtain ⟨sl8,hsl8⟩:∃sl8,sl8=s5.log.length:=⟨_,rfl⟩
    have h8:Nd W6.drew A8 X8 r d l s8 k8:=by rw [hs8,hk8,hA8,hX8];exact H6.out.below (ak _ 1)
    have M8:Hid (Mv A A8 X X8 w W6.drew):=ab (by rw [hA8,hX8];exact M6.out.trans (Mv.below (ak _ 1)));have HLC8:Hid (LayC W6.drew A5 M m b off c (.slice ub bl bc)):=ab (HLC6.out.below (ak W6 1));have hMV:W6.drew.cell? ⟨M,0,none⟩=some (.int .i64 m.frm):=by
     have h9:=(af HLC8.out.cell 0).trans (show _=some (Value.int .i64 m.frm) from rfl);exact h9
    have hm3:W6.drew.cell? ⟨M,3,none⟩=some (.slice (some ⟨b,off,none⟩) (4+bl) c):=hm3;have hn1c:W6.drew.cell? ⟨b,off+1,none⟩=some (.int .i64 n1):=hn1c;obtain ⟨al8,cl8,hr8,hl8,hl82⟩:=h8.loglen;rw [hs8,<-hsl8] at hr8 hl8;have hr6:W6.drew.cell? ⟨r,6,none⟩=some (.int .i64 st8):=by
     obtain ⟨vl,gv,gn,gm,gh,hcell⟩:=h8.cells;rw [af hcell,hst8,hs8];rfl
    have HE:Hid (dH s k m=([da s8 m.frm 4 [st8,0,min (sl8:Int) (max (n1 - 1) 0)]],s8,k8)):=ab (by rw [hs8,hk8,hst8,hsl8,HS5.out.1,HS5.out.2.1];exact HE.out);have q3:IntKind.i64.wrap (n1 - 1)=n1 - 1:=IntWalk.i64_in _ (by omega);clear hst8 hs8 hk8 hA8 hX8 hn2c hsl8;generalize hgW:W6=W8 at *;have HK8:Hid (∀W',Below W8.drew.heap.size W8.drew W'->W'.cell? ⟨M,0,none⟩=some (.int .i64 m.frm)/\W'.cell? ⟨r,6,none⟩=some (.int .i64 st8)/\W'.cell? ⟨r,8,none⟩=some (.slice al8 sl8 cl8)/\W'.cell? ⟨M,3,none⟩=some (.slice (some ⟨b,off,none⟩) (4+bl) c)/\W'.cell? ⟨b,off+1,none⟩=some (.int .i64 n1)):=ab (λW' hb=>⟨cell_later hb hMV,cell_later hb hr6,cell_later hb hr8,cell_later hb hm3,cell_later hb hn1c⟩);have HSAY:=ab (HSAYG.out _ _ _ _ _ h8);have HA8:=ab h8.alt;have HBV:Hid (∀o,Below W8.drew.heap.size W8.drew (W8.drew.alloc o)):=ab (λo=>(az _ _).alloc (ah _) o);have HF8:Hid (∀V10 vv N,Below W8.drew.heap.size W8.drew V10->ImmI V10 A8 vv N->MsP w (V10.alloc (.cells (bU (da s8 m.frm 4 N) vv (.slice none 0 0)) 83)) A X r d l (.returned (.slice (some ⟨V10.heap.size,0,none⟩) 1 1)) ([da s8 m.frm 4 N],s8,k8)):=ab (λV10 vv N hb hi=>MsP.trans M8.out (ku h8 hb (da s8 m.frm 4 N) vv (.slice none 0 0) ⟨hi,.inl ⟨rfl,rfl⟩⟩));unfold bU at HF8;refine wp_region_held_drew (S:=λw'=>w'.cell? ⟨M,0,none⟩=some (.int .i64 m.frm)/\w'.cell? ⟨r,6,none⟩=some (.int .i64 st8)/\w'.cell? ⟨r,8,none⟩=some (.slice al8 sl8 cl8)/\w'.cell? ⟨M,3,none⟩=some (.slice (some ⟨b,off,none⟩) (4+bl) c)/\w'.cell? ⟨b,off+1,none⟩=some (.int .i64 n1)) (by kernel_rfl) (HK8.out _ (az _ _)) (λam=>?_);refine aB 0 ?_;refine aB 1 ?_;refine aB 2 ?_;refine aB 3 ?_;refine aB 4 ?_;refine aB 5 ?_;refine aB 6 ?_;refine aB 7 ?_;refine aB 8 ?_;refine aB 9 ?_;refine aB 10 ?_;refine aB 11 ?_;refine aB 12 ?_;refine aB 13 ?_;refine aB 14 ?_;refine aB 15 ?_;refine aB 16 ?_;refine aB 17 ?_;refine aB 18 ?_;generalize W8.drew=V8 at *;refine cC 19 λK hK=>?_;go_simp
    refine hK.out _ _ (HK8.out _ (HBV.out (.cells #[.int .i64 st8,.int .i64 0,.int .i64 (min (sl8:Int) (max (n1 - 1) 0))] 2))) (λam=>?_);clear hK K;refine bH ?_;have HI8:Hid (ImmI (V8.alloc (.cells #[.int .i64 st8,.int .i64 0,.int .i64 (min (sl8:Int) (max (n1 - 1) 0))] 2)) A8 (.slice (some ⟨V8.heap.size,0,none⟩) 3 3) [st8,0,min (sl8:Int) (max (n1 - 1) 0)]):=ab (ImmI.fresh [st8,0,min (sl8:Int) (max (n1 - 1) 0)] _ rfl 2 3 rfl (by omega) HA8.out);have HB8:=ab (HBV.out (.cells #[.int .i64 st8,.int .i64 0,.int .i64 (min (sl8:Int) (max (n1 - 1) 0))] 2));generalize V8.alloc (.cells #[.int .i64 st8,.int .i64 0,.int .i64 (min (sl8:Int) (max (n1 - 1) 0))] 2)=V9 at *;refine cC 20 λK hK=>?_;go_simp
    refine (HSAY.out _ HB8.out _ _ [st8,0,min (sl8:Int) (max (n1 - 1) 0)] _ _ _).mono ?_;rintro e V10 ⟨rfl,hb10⟩;have HB10:=ab (HB8.out.trans (hb10.mono HB8.out.size));have HI10:=ab (HI8.out.below hb10);clear hb10;go_wp2_with fail
    refine hK.out _ _ (HK8.out _ HB10.out) (λam=>?_);clear hK K;refine bH ?_;refine cC 21 λK hK=>?_
    (try unfold df)
    go_simp
    refine hK.out _ _ (HK8.out _ (HB10.out.alloc HB10.out.size _)) (λam=>?_);clear hK K;refine bH ?_;refine aB 22 ?_;refine fI ?_;clear am;go_wp2_with fail
    go_ret
    rw [HE.out];exact HF8.out _ _ _ HB10.out HI10.out
   | true =>
    exact absurd ⟨HNB.out,HOLDF.out,hft⟩ HC.out
end
end Go.Proofs.YtnhefallmioefaaGreat
