/-
  What the proof of the law leans on: contracts of the program's functions, one behind another. No condition.
-/
import Derived.Test.YtnhefallmioefaaGreatV0
import Derived.Test.YtnhefallmioefaaGreatV25
import Derived.Test.YtnhefallmioefaaGreatV17
import Derived.Test.YtnhefallmioefaaGreatV3
set_option linter.unusedVariables false
set_option linter.unusedSimpArgs false
namespace Go.Proofs.YtnhefallmioefaaGreat
open Go.RowKit Go.ChangeMaps Go.WideMaps Go.Maps
set_option maxRecDepth 20000
theorem tS (l:List (Int×Int×Int)) (i:Nat) (x:Int×Int×Int) (h:i<l.length):(((eS l).set! (i*3) (.int .i64 x.1)).set! (i*3+1) (.int .i64 x.2.1)).set! (i*3+2) (.int .i64 x.2.2)=eS (l.set i x):=by
 have key:∀(l:List (Int×Int×Int)) (i:Nat),i<l.length->(((l.flatMap lG).set (i*3) (.int .i64 x.1)).set (i*3+1) (.int .i64 x.2.1)).set (i*3+2) (.int .i64 x.2.2)=(l.set i x).flatMap lG:=by
  intro l;induction l with
  | nil=>intro i h;cases h
  | cons a l ih =>
   intro i h;cases i with
   | zero=>simp [lG]
   | succ i =>
    have:=ih i (by simpa using h);rw [show (i+1)*3=i*3+3 by omega,show i*3+3+1=i*3+1+3 by omega,show i*3+3+2=i*3+2+3 by omega];simp only [kG,qB,lG,List.cons_append,cL];rw [<-this]
 unfold eS;simp only [Array.set!,d9];rw [key l i h]
section
variable {w w':World} {A A' X X':List Nat} {r d l:Nat} {s s':Rp} {k k':Dk}
theorem BJ (term who:Int):(be s k term who).2.1.n=s.n/\(be s k term who).2.1.own=s.own/\((be s k term who).1=true->(be s k term who).2.1.term=term):=by
 have e1:=ei (s:=s) (k:=k) (dw term who);unfold be;generalize bB s k (dw term who)=p at *;have f1:p.1.n=s.n:=by rw [e1]
 have f2:p.1.own=s.own:=by rw [e1]
 simp only;split
 ·exact ⟨f1,f2,λh=>by cases h⟩
 ·have e2:=eO (s:=p.1) (k:=p.2);generalize bT p.1 p.2=q at *;have f3:q.1.n=p.1.n:=by rw [e2]
  have f4:q.1.own=p.1.own:=by rw [e2]
  split
  ·exact ⟨f3.trans f1,f4.trans f2,λh=>by cases h⟩
  ·exact ⟨f3.trans f1,f4.trans f2,λ_=>rfl⟩
structure MsgZ (w:World) (A:List Nat) (m:Msg) (v u:Value):Prop where
 zv:∃ao c,v = .slice ao m.N.length c
 zn:1<=m.N.length->ImmI w A v m.N
 zu:∃ub bc,u = .slice ub m.B.length bc
theorem IsMsg.z {m:Msg} {v u:Value} (h:IsMsg w A m v u):MsgZ w A m v u:=by
 obtain ⟨ao,c,ev,_⟩:=id h.n;exact ⟨⟨ao,c,ev⟩,λ_=>h.n,ll h.b⟩
set_option maxHeartbeats 40000000 in
theorem BF (h:Nd w A X r d l s k) (m:Msg) (v u:Value) (hm:MsgZ w A m v u) (hbd:(dQ s k||l3 (aV s k) m)=true) (hn5:s.n<=5) (hlm:m.N.length<=1000000000) :
  Calls Tryz.prog 40 #[.pointer (some ⟨r,0,none⟩),df m v u] w λe w'=>MsP w w' A X r d l e ([],aV s k,k):=by
 have hbw:Below w.heap.size w (w.alloc (.cells (bU m v u) 83)):=(az _ _).alloc (ah _) _;have h1:=h.below hbw;obtain ⟨⟨ao,c,ev⟩,hmn,⟨ub,bc,eu⟩⟩:=hm;subst ev;subst eu;have HRX:=ab h.rX;have hMA:w.heap.size∉A:=λhb=>by have:=h.alt _ hb;omega
 have hrA:r∈A:=h.xA r h.rX;have hMr:w.heap.size∉[r]:=by
  simp;intro e;exact hMA (e ▸ hrA)
 have hbx:=aK w (.cells (bU m (.slice ao m.N.length c) (.slice ub m.B.length bc)) 83);have HM0:Hid (Mv A A X X w (w.alloc (.cells (bU m (.slice ao m.N.length c) (.slice ub m.B.length bc)) 83)).drew):=ab ((Mv.below hbw).trans (Mv.below (ak _ 1)));have h1d:Nd (w.alloc (.cells (bU m (.slice ao m.N.length c) (.slice ub m.B.length bc)) 83)).drew A X r d l s k:=h1.below (ak _ 1);have HDN:=ab (iL h1d);have HCE:Hid (∀W s9,Nd W A X r d l s9 k->s9.own=s.own->s9.n=s.n->W.cell? ⟨r,0,none⟩=some (.int .i64 (s.own:Int))/\W.cell? ⟨r,1,none⟩=some (.int .i64 (s.n:Int))):=ab (λW s9 h9 e1 e2=>by
  obtain ⟨vl,gv,gn,gm,gh,hcell⟩:=h9.cells;exact ⟨by rw [af hcell,<-e1];rfl,by rw [af hcell,<-e2];rfl⟩)
 have HK0:Hid ((w.alloc (.cells (bU m (.slice ao m.N.length c) (.slice ub m.B.length bc)) 83)).drew.cell? ⟨w.heap.size,0,none⟩=some (.int .i64 m.frm)/\(w.alloc (.cells (bU m (.slice ao m.N.length c) (.slice ub m.B.length bc)) 83)).drew.cell? ⟨w.heap.size,1,none⟩=some (.int .i64 m.dst)/\(w.alloc (.cells (bU m (.slice ao m.N.length c) (.slice ub m.B.length bc)) 83)).drew.cell? ⟨w.heap.size,3,none⟩=some (.slice ao m.N.length c)/\(w.alloc (.cells (bU m (.slice ao m.N.length c) (.slice ub m.B.length bc)) 83)).drew.cell? ⟨r,0,none⟩=some (.int .i64 (s.own:Int))/\(w.alloc (.cells (bU m (.slice ao m.N.length c) (.slice ub m.B.length bc)) 83)).drew.cell? ⟨r,1,none⟩=some (.int .i64 (s.n:Int))):=ab
  ⟨(af hbx 0).trans rfl,(af hbx 1).trans rfl,(af hbx 3).trans rfl,(HCE.out _ _ h1d rfl rfl).1,(HCE.out _ _ h1d rfl rfl).2⟩
 have HKK:Hid (∀w',Only [r] (w.alloc (.cells (bU m (.slice ao m.N.length c) (.slice ub m.B.length bc)) 83)).drew w'->Nd w' A X r d l (aV s k) k->w'.cell? ⟨w.heap.size,0,none⟩=some (.int .i64 m.frm)/\w'.cell? ⟨w.heap.size,1,none⟩=some (.int .i64 m.dst)/\w'.cell? ⟨w.heap.size,3,none⟩=some (.slice ao m.N.length c)/\w'.cell? ⟨r,0,none⟩=some (.int .i64 (s.own:Int))/\w'.cell? ⟨r,1,none⟩=some (.int .i64 (s.n:Int))):=ab (λw' ho hn =>
  ⟨ho.cell HK0.out.1 hMr,ho.cell HK0.out.2.1 hMr,ho.cell HK0.out.2.2.1 hMr,(HCE.out _ _ hn rfl rfl).1,(HCE.out _ _ hn rfl rfl).2⟩)
 have HNUM:Hid (1<=m.N.length->∃b off,ao=some ⟨b,off,none⟩/\Hid ((w.alloc (.cells (bU m (.slice ao m.N.length c) (.slice ub m.B.length bc)) 83)).drew.cell? ⟨b,off,none⟩=some (.int .i64 (m.N.getD 0 0)))/\Hid (∀w',Only [r] (w.alloc (.cells (bU m (.slice ao m.N.length c) (.slice ub m.B.length bc)) 83)).drew w'->w'.cell? ⟨b,off,none⟩=some (.int .i64 (m.N.getD 0 0)))):=ab (λhl=>by
  have hmi:=hmn hl;obtain ⟨b,off,c9,hc9⟩:=vW (hmi.below hbw) (by omega);have e9:=hc9.v;simp only [Value.slice.injEq] at e9;obtain ⟨rfl,_,rfl⟩:=e9;have h0:=hc9.at_ 0 (by omega);rw [fL] at h0;have hbr:b∉[r]:=by
   obtain ⟨ao',c',e,_,_,_,h3⟩:=hmi;cases e;simp;intro e;exact (h3 _ rfl).1 (e ▸ hrA)
  exact ⟨b,off,rfl,ab h0,ab (λw' ho=>ho.cell h0 hbr)⟩)
 clear h h1 hmn hbw hbx h1d HCE hMA hrA hMr;have HBD:Hid ((dQ s k||(!(m.dst==(s.own:Int))||m.frm==(s.own:Int)||decide (m.frm<0)||decide ((s.n:Int)<=m.frm)||decide (m.N.length<2)||decide (m.N.getD 0 0<1)||decide (1099511627776<m.N.getD 0 0)))=true):=ab hbd;clear hbd;unfold df bU at *;go_enter Tryz.func40,Tryz.ntmps40
 go_upto_region 1 with (fail)
 generalize w.alloc (.cells #[.int .i64 m.frm,.int .i64 m.dst,.int .i64 m.kind,.slice ao m.N.length c,.slice ub m.B.length bc] 83)=W1 at *;generalize w.heap.size=M at *;generalize hs1:aV s k=s1 at *;have HS1:=ab hs1;clear hs1;go_cut [58] (λv wx=>v = .bool true/\Nd wx A X r d l s1 k/\Only [r] W1.drew wx)
 case first =>
  cases hdn:dQ s k with
  | true =>
   rw [hdn] at HDN;as_aux_lemma =>
   refine wp_region_held_drew (S:=λw'=>w'.cell? ⟨M,0,none⟩=some (.int .i64 m.frm)/\w'.cell? ⟨M,1,none⟩=some (.int .i64 m.dst)/\w'.cell? ⟨M,3,none⟩=some (.slice ao m.N.length c)/\w'.cell? ⟨r,0,none⟩=some (.int .i64 (s.own:Int))/\w'.cell? ⟨r,1,none⟩=some (.int .i64 (s.n:Int))) (by kernel_rfl) HK0.out (λam=>?_);refine aB 0 ?_;generalize W1.drew=V1 at *;refine cC 1 λK hK=>?_;go_simp
   refine HDN.out.mono ?_;rintro e w2 ⟨rfl,hn2,ho2⟩;have HN2:=ab hn2;have HO2:=ab ho2;clear hn2 ho2;go_wp2_with fail
   refine hK.out _ _ (HKK.out _ HO2.out HN2.out) (λam=>?_);clear hK K;refine bH ?_;refine aB 2 ?_;refine bP 3 ?_;refine bP 4 ?_;refine bP 5 ?_;refine bP 6 ?_;refine bP 7 ?_;refine bP 8 ?_;refine bP 9 ?_;refine aB 10 ?_;refine aB 11 ?_;refine bP 12 ?_;refine bP 13 ?_;refine bP 14 ?_;refine bP 15 ?_;refine bP 16 ?_;refine bP 17 ?_;refine bP 18 ?_;refine aB 19 ?_;refine aB 20 ?_;refine bP 21 ?_;refine bP 22 ?_;refine bP 23 ?_;refine aB 24 ?_;refine aB 25 ?_;refine bP 26 ?_;refine bP 27 ?_;refine bP 28 ?_;refine bP 29 ?_;refine bP 30 ?_;refine bP 31 ?_;refine bP 32 ?_;refine aB 33 ?_;refine aB 34 ?_;refine bP 35 ?_;refine bP 36 ?_;refine bP 37 ?_;refine bP 38 ?_;refine aB 39 ?_;refine aB 40 ?_;refine bP 41 ?_;refine bP 42 ?_;refine bP 43 ?_;refine bP 44 ?_;refine bP 45 ?_;refine aB 46 ?_;refine aB 47 ?_;refine bP 48 ?_;refine bP 49 ?_;refine bP 50 ?_;refine bP 51 ?_;refine bP 52 ?_;refine aB 53 ?_;refine fI ?_;clear am;go_wp2_with fail
   go_meet
   exact ⟨rfl,HN2.out,HO2.out⟩
  | false =>
   rw [hdn] at HDN HBD;by_cases c0:m.dst=(s.own:Int)
   ·have g0:(m.dst != (s.own:Int))=false:=by simpa using c0
    have e0:(m.dst==(s.own:Int))=true:=by simpa using c0
    clear c0;by_cases c1:m.frm=(s.own:Int)
    ·have g1:(m.frm==(s.own:Int))=true:=by simpa using c1
     clear c1;as_aux_lemma =>
     refine wp_region_held_drew (S:=λw'=>w'.cell? ⟨M,0,none⟩=some (.int .i64 m.frm)/\w'.cell? ⟨M,1,none⟩=some (.int .i64 m.dst)/\w'.cell? ⟨M,3,none⟩=some (.slice ao m.N.length c)/\w'.cell? ⟨r,0,none⟩=some (.int .i64 (s.own:Int))/\w'.cell? ⟨r,1,none⟩=some (.int .i64 (s.n:Int))) (by kernel_rfl) HK0.out (λam=>?_);refine aB 0 ?_;generalize W1.drew=V1 at *;refine cC 1 λK hK=>?_;go_simp
     refine HDN.out.mono ?_;rintro e w2 ⟨rfl,hn2,ho2⟩;have HN2:=ab hn2;have HO2:=ab ho2;clear hn2 ho2;go_wp2_with fail
     refine hK.out _ _ (HKK.out _ HO2.out HN2.out) (λam=>?_);clear hK K;refine bH ?_;refine aB 2 ?_;refine aB 3 ?_;refine aB 4 ?_;refine aB 5 ?_;refine aB 6 ?_;refine aB 7 ?_;refine aB 8 ?_;refine aB 9 ?_;refine aB 10 ?_;refine aB 11 ?_;refine aB 12 ?_;refine aB 13 ?_;refine aB 14 ?_;refine aB 15 ?_;refine aB 16 ?_;refine aB 17 ?_;refine aB 18 ?_;refine aB 19 ?_;refine aB 20 ?_;refine bP 21 ?_;refine bP 22 ?_;refine bP 23 ?_;refine aB 24 ?_;refine aB 25 ?_;refine bP 26 ?_;refine bP 27 ?_;refine bP 28 ?_;refine bP 29 ?_;refine bP 30 ?_;refine bP 31 ?_;refine bP 32 ?_;refine aB 33 ?_;refine aB 34 ?_;refine bP 35 ?_;refine bP 36 ?_;refine bP 37 ?_;refine bP 38 ?_;refine aB 39 ?_;refine aB 40 ?_;refine bP 41 ?_;refine bP 42 ?_;refine bP 43 ?_;refine bP 44 ?_;refine bP 45 ?_;refine aB 46 ?_;refine aB 47 ?_;refine bP 48 ?_;refine bP 49 ?_;refine bP 50 ?_;refine bP 51 ?_;refine bP 52 ?_;refine aB 53 ?_;refine fI ?_;clear am;go_wp2_with fail
     go_meet
     exact ⟨rfl,HN2.out,HO2.out⟩
    ·have g1:(m.frm==(s.own:Int))=false:=by simpa using c1
     clear c1;by_cases c2:m.frm<0
     ·have g2:decide (m.frm<0)=true:=aJ c2;as_aux_lemma =>
      refine wp_region_held_drew (S:=λw'=>w'.cell? ⟨M,0,none⟩=some (.int .i64 m.frm)/\w'.cell? ⟨M,1,none⟩=some (.int .i64 m.dst)/\w'.cell? ⟨M,3,none⟩=some (.slice ao m.N.length c)/\w'.cell? ⟨r,0,none⟩=some (.int .i64 (s.own:Int))/\w'.cell? ⟨r,1,none⟩=some (.int .i64 (s.n:Int))) (by kernel_rfl) HK0.out (λam=>?_);refine aB 0 ?_;generalize W1.drew=V1 at *;refine cC 1 λK hK=>?_;go_simp
      refine HDN.out.mono ?_;rintro e w2 ⟨rfl,hn2,ho2⟩;have HN2:=ab hn2;have HO2:=ab ho2;clear hn2 ho2;go_wp2_with fail
      refine hK.out _ _ (HKK.out _ HO2.out HN2.out) (λam=>?_);clear hK K;refine bH ?_;refine aB 2 ?_;refine aB 3 ?_;refine aB 4 ?_;refine aB 5 ?_;refine aB 6 ?_;refine aB 7 ?_;refine aB 8 ?_;refine aB 9 ?_;refine aB 10 ?_;refine aB 11 ?_;refine aB 12 ?_;refine aB 13 ?_;refine aB 14 ?_;refine aB 15 ?_;refine aB 16 ?_;refine aB 17 ?_;refine aB 18 ?_;refine aB 19 ?_;refine aB 20 ?_;refine aB 21 ?_;refine aB 22 ?_;refine aB 23 ?_;refine aB 24 ?_;refine aB 25 ?_;refine bP 26 ?_;refine bP 27 ?_;refine bP 28 ?_;refine bP 29 ?_;refine bP 30 ?_;refine bP 31 ?_;refine bP 32 ?_;refine aB 33 ?_;refine aB 34 ?_;refine bP 35 ?_;refine bP 36 ?_;refine bP 37 ?_;refine bP 38 ?_;refine aB 39 ?_;refine aB 40 ?_;refine bP 41 ?_;refine bP 42 ?_;refine bP 43 ?_;refine bP 44 ?_;refine bP 45 ?_;refine aB 46 ?_;refine aB 47 ?_;refine bP 48 ?_;refine bP 49 ?_;refine bP 50 ?_;refine bP 51 ?_;refine bP 52 ?_;refine aB 53 ?_;refine fI ?_;clear am;go_wp2_with fail
      go_meet
      exact ⟨rfl,HN2.out,HO2.out⟩
     ·have g2:decide (m.frm<0)=false:=aW c2;by_cases c3:(s.n:Int)<=m.frm
      ·have g3:decide ((s.n:Int)<=m.frm)=true:=aJ c3;as_aux_lemma =>
       refine wp_region_held_drew (S:=λw'=>w'.cell? ⟨M,0,none⟩=some (.int .i64 m.frm)/\w'.cell? ⟨M,1,none⟩=some (.int .i64 m.dst)/\w'.cell? ⟨M,3,none⟩=some (.slice ao m.N.length c)/\w'.cell? ⟨r,0,none⟩=some (.int .i64 (s.own:Int))/\w'.cell? ⟨r,1,none⟩=some (.int .i64 (s.n:Int))) (by kernel_rfl) HK0.out (λam=>?_);refine aB 0 ?_;generalize W1.drew=V1 at *;refine cC 1 λK hK=>?_;go_simp
       refine HDN.out.mono ?_;rintro e w2 ⟨rfl,hn2,ho2⟩;have HN2:=ab hn2;have HO2:=ab ho2;clear hn2 ho2;go_wp2_with fail
       refine hK.out _ _ (HKK.out _ HO2.out HN2.out) (λam=>?_);clear hK K;refine bH ?_;refine aB 2 ?_;refine aB 3 ?_;refine aB 4 ?_;refine aB 5 ?_;refine aB 6 ?_;refine aB 7 ?_;refine aB 8 ?_;refine aB 9 ?_;refine aB 10 ?_;refine aB 11 ?_;refine aB 12 ?_;refine aB 13 ?_;refine aB 14 ?_;refine aB 15 ?_;refine aB 16 ?_;refine aB 17 ?_;refine aB 18 ?_;refine aB 19 ?_;refine aB 20 ?_;refine aB 21 ?_;refine aB 22 ?_;refine aB 23 ?_;refine aB 24 ?_;refine aB 25 ?_;refine aB 26 ?_;refine aB 27 ?_;refine aB 28 ?_;refine aB 29 ?_;refine aB 30 ?_;refine aB 31 ?_;refine aB 32 ?_;refine aB 33 ?_;refine aB 34 ?_;refine bP 35 ?_;refine bP 36 ?_;refine bP 37 ?_;refine bP 38 ?_;refine aB 39 ?_;refine aB 40 ?_;refine bP 41 ?_;refine bP 42 ?_;refine bP 43 ?_;refine bP 44 ?_;refine bP 45 ?_;refine aB 46 ?_;refine aB 47 ?_;refine bP 48 ?_;refine bP 49 ?_;refine bP 50 ?_;refine bP 51 ?_;refine bP 52 ?_;refine aB 53 ?_;refine fI ?_;clear am;go_wp2_with fail
       go_meet
       exact ⟨rfl,HN2.out,HO2.out⟩
      ·have g3:decide ((s.n:Int)<=m.frm)=false:=aW c3;by_cases c4:m.N.length<2
       ·have g4:decide ((m.N.length:Int)<2)=true:=aJ (by omega);have e4:(m.N.length:Int)<2:=by omega
        as_aux_lemma =>
        refine wp_region_held_drew (S:=λw'=>w'.cell? ⟨M,0,none⟩=some (.int .i64 m.frm)/\w'.cell? ⟨M,1,none⟩=some (.int .i64 m.dst)/\w'.cell? ⟨M,3,none⟩=some (.slice ao m.N.length c)/\w'.cell? ⟨r,0,none⟩=some (.int .i64 (s.own:Int))/\w'.cell? ⟨r,1,none⟩=some (.int .i64 (s.n:Int))) (by kernel_rfl) HK0.out (λam=>?_);refine aB 0 ?_;generalize W1.drew=V1 at *;refine cC 1 λK hK=>?_;go_simp
        refine HDN.out.mono ?_;rintro e w2 ⟨rfl,hn2,ho2⟩;have HN2:=ab hn2;have HO2:=ab ho2;clear hn2 ho2;go_wp2_with fail
        refine hK.out _ _ (HKK.out _ HO2.out HN2.out) (λam=>?_);clear hK K;refine bH ?_;refine aB 2 ?_;refine aB 3 ?_;refine aB 4 ?_;refine aB 5 ?_;refine aB 6 ?_;refine aB 7 ?_;refine aB 8 ?_;refine aB 9 ?_;refine aB 10 ?_;refine aB 11 ?_;refine aB 12 ?_;refine aB 13 ?_;refine aB 14 ?_;refine aB 15 ?_;refine aB 16 ?_;refine aB 17 ?_;refine aB 18 ?_;refine aB 19 ?_;refine aB 20 ?_;refine aB 21 ?_;refine aB 22 ?_;refine aB 23 ?_;refine aB 24 ?_;refine aB 25 ?_;refine aB 26 ?_;refine aB 27 ?_;refine aB 28 ?_;refine aB 29 ?_;refine aB 30 ?_;refine aB 31 ?_;refine aB 32 ?_;refine aB 33 ?_;refine aB 34 ?_;refine aB 35 ?_;refine aB 36 ?_;refine aB 37 ?_;refine aB 38 ?_;refine aB 39 ?_;refine aB 40 ?_;refine bP 41 ?_;refine bP 42 ?_;refine bP 43 ?_;refine bP 44 ?_;refine bP 45 ?_;refine aB 46 ?_;refine aB 47 ?_;refine bP 48 ?_;refine bP 49 ?_;refine bP 50 ?_;refine bP 51 ?_;refine bP 52 ?_;refine aB 53 ?_;refine fI ?_;clear am;go_wp2_with fail
        go_meet
        exact ⟨rfl,HN2.out,HO2.out⟩
       ·have g4:decide ((m.N.length:Int)<2)=false:=aW (by omega);have e4:¬(m.N.length:Int)<2:=by omega
        have el0:(0:Int)<(m.N.length:Int):=by omega
        have el1:0<m.N.length:=by omega
        obtain ⟨b,off,hao,HN0,HKN⟩:=HNUM.out (by omega);subst hao;have HK0:Hid (_/\_/\_/\_/\_/\_):=ab ⟨HK0.out.1,HK0.out.2.1,HK0.out.2.2.1,HK0.out.2.2.2.1,HK0.out.2.2.2.2,HN0.out⟩;have HKK:=ab (λw' (ho:Only [r] W1.drew w') (hn:Nd w' A X r d l s1 k)=>(⟨(HKK.out w' ho hn).1,(HKK.out w' ho hn).2.1,(HKK.out w' ho hn).2.2.1,(HKK.out w' ho hn).2.2.2.1,(HKK.out w' ho hn).2.2.2.2,HKN.out w' ho⟩:_/\_/\_/\_/\_/\_));generalize m.N.getD 0 0=n0 at *;by_cases c5:n0<1
        ·have g5:decide (n0<1)=true:=aJ c5;as_aux_lemma =>
         refine wp_region_held_drew (S:=λw'=>w'.cell? ⟨M,0,none⟩=some (.int .i64 m.frm)/\w'.cell? ⟨M,1,none⟩=some (.int .i64 m.dst)/\w'.cell? ⟨M,3,none⟩=some (.slice (some ⟨b,off,none⟩) m.N.length c)/\w'.cell? ⟨r,0,none⟩=some (.int .i64 (s.own:Int))/\w'.cell? ⟨r,1,none⟩=some (.int .i64 (s.n:Int))/\w'.cell? ⟨b,off,none⟩=some (.int .i64 n0)) (by kernel_rfl) HK0.out (λam=>?_);refine aB 0 ?_;generalize W1.drew=V1 at *;refine cC 1 λK hK=>?_;go_simp
         refine HDN.out.mono ?_;rintro e w2 ⟨rfl,hn2,ho2⟩;have HN2:=ab hn2;have HO2:=ab ho2;clear hn2 ho2;go_wp2_with fail
         refine hK.out _ _ (HKK.out _ HO2.out HN2.out) (λam=>?_);clear hK K;refine bH ?_;refine aB 2 ?_;refine aB 3 ?_;refine aB 4 ?_;refine aB 5 ?_;refine aB 6 ?_;refine aB 7 ?_;refine aB 8 ?_;refine aB 9 ?_;refine aB 10 ?_;refine aB 11 ?_;refine aB 12 ?_;refine aB 13 ?_;refine aB 14 ?_;refine aB 15 ?_;refine aB 16 ?_;refine aB 17 ?_;refine aB 18 ?_;refine aB 19 ?_;refine aB 20 ?_;refine aB 21 ?_;refine aB 22 ?_;refine aB 23 ?_;refine aB 24 ?_;refine aB 25 ?_;refine aB 26 ?_;refine aB 27 ?_;refine aB 28 ?_;refine aB 29 ?_;refine aB 30 ?_;refine aB 31 ?_;refine aB 32 ?_;refine aB 33 ?_;refine aB 34 ?_;refine aB 35 ?_;refine aB 36 ?_;refine aB 37 ?_;refine aB 38 ?_;refine aB 39 ?_;refine aB 40 ?_;refine aB 41 ?_;refine aB 42 ?_;refine aB 43 ?_;refine aB 44 ?_;refine aB 45 ?_;refine aB 46 ?_;refine aB 47 ?_;refine bP 48 ?_;refine bP 49 ?_;refine bP 50 ?_;refine bP 51 ?_;refine bP 52 ?_;refine aB 53 ?_;refine fI ?_;clear am;go_wp2_with fail
         go_meet
         exact ⟨rfl,HN2.out,HO2.out⟩
        ·have g5:decide (n0<1)=false:=aW c5;by_cases c6:1099511627776<n0
         ·have g6:decide (1099511627776<n0)=true:=aJ c6;as_aux_lemma =>
          refine wp_region_held_drew (S:=λw'=>w'.cell? ⟨M,0,none⟩=some (.int .i64 m.frm)/\w'.cell? ⟨M,1,none⟩=some (.int .i64 m.dst)/\w'.cell? ⟨M,3,none⟩=some (.slice (some ⟨b,off,none⟩) m.N.length c)/\w'.cell? ⟨r,0,none⟩=some (.int .i64 (s.own:Int))/\w'.cell? ⟨r,1,none⟩=some (.int .i64 (s.n:Int))/\w'.cell? ⟨b,off,none⟩=some (.int .i64 n0)) (by kernel_rfl) HK0.out (λam=>?_);refine aB 0 ?_;generalize W1.drew=V1 at *;refine cC 1 λK hK=>?_;go_simp
          refine HDN.out.mono ?_;rintro e w2 ⟨rfl,hn2,ho2⟩;have HN2:=ab hn2;have HO2:=ab ho2;clear hn2 ho2;go_wp2_with fail
          refine hK.out _ _ (HKK.out _ HO2.out HN2.out) (λam=>?_);clear hK K;refine bH ?_;refine aB 2 ?_;refine aB 3 ?_;refine aB 4 ?_;refine aB 5 ?_;refine aB 6 ?_;refine aB 7 ?_;refine aB 8 ?_;refine aB 9 ?_;refine aB 10 ?_;refine aB 11 ?_;refine aB 12 ?_;refine aB 13 ?_;refine aB 14 ?_;refine aB 15 ?_;refine aB 16 ?_;refine aB 17 ?_;refine aB 18 ?_;refine aB 19 ?_;refine aB 20 ?_;refine aB 21 ?_;refine aB 22 ?_;refine aB 23 ?_;refine aB 24 ?_;refine aB 25 ?_;refine aB 26 ?_;refine aB 27 ?_;refine aB 28 ?_;refine aB 29 ?_;refine aB 30 ?_;refine aB 31 ?_;refine aB 32 ?_;refine aB 33 ?_;refine aB 34 ?_;refine aB 35 ?_;refine aB 36 ?_;refine aB 37 ?_;refine aB 38 ?_;refine aB 39 ?_;refine aB 40 ?_;refine aB 41 ?_;refine aB 42 ?_;refine aB 43 ?_;refine aB 44 ?_;refine aB 45 ?_;refine aB 46 ?_;refine aB 47 ?_;refine aB 48 ?_;refine aB 49 ?_;refine aB 50 ?_;refine aB 51 ?_;refine aB 52 ?_;refine aB 53 ?_;refine fI ?_;clear am;go_wp2_with fail
          go_meet
          exact ⟨rfl,HN2.out,HO2.out⟩
         ·exfalso;have g6:decide (1099511627776<n0)=false:=aW c6;have e44:decide (m.N.length<2)=false:=aW c4;have:=HBD.out;rw [e0,g1,g2,g3,e44,g5,g6] at this;cases this
   ·have g0:(m.dst != (s.own:Int))=true:=by simpa using c0
    clear c0;as_aux_lemma =>
    refine wp_region_held_drew (S:=λw'=>w'.cell? ⟨M,0,none⟩=some (.int .i64 m.frm)/\w'.cell? ⟨M,1,none⟩=some (.int .i64 m.dst)/\w'.cell? ⟨M,3,none⟩=some (.slice ao m.N.length c)/\w'.cell? ⟨r,0,none⟩=some (.int .i64 (s.own:Int))/\w'.cell? ⟨r,1,none⟩=some (.int .i64 (s.n:Int))) (by kernel_rfl) HK0.out (λam=>?_);refine aB 0 ?_;generalize W1.drew=V1 at *;refine cC 1 λK hK=>?_;go_simp
    refine HDN.out.mono ?_;rintro e w2 ⟨rfl,hn2,ho2⟩;have HN2:=ab hn2;have HO2:=ab ho2;clear hn2 ho2;go_wp2_with fail
    refine hK.out _ _ (HKK.out _ HO2.out HN2.out) (λam=>?_);clear hK K;refine bH ?_;refine aB 2 ?_;refine aB 3 ?_;refine aB 4 ?_;refine aB 5 ?_;refine aB 6 ?_;refine aB 7 ?_;refine aB 8 ?_;refine aB 9 ?_;refine aB 10 ?_;refine aB 11 ?_;refine bP 12 ?_;refine bP 13 ?_;refine bP 14 ?_;refine bP 15 ?_;refine bP 16 ?_;refine bP 17 ?_;refine bP 18 ?_;refine aB 19 ?_;refine aB 20 ?_;refine bP 21 ?_;refine bP 22 ?_;refine bP 23 ?_;refine aB 24 ?_;refine aB 25 ?_;refine bP 26 ?_;refine bP 27 ?_;refine bP 28 ?_;refine bP 29 ?_;refine bP 30 ?_;refine bP 31 ?_;refine bP 32 ?_;refine aB 33 ?_;refine aB 34 ?_;refine bP 35 ?_;refine bP 36 ?_;refine bP 37 ?_;refine bP 38 ?_;refine aB 39 ?_;refine aB 40 ?_;refine bP 41 ?_;refine bP 42 ?_;refine bP 43 ?_;refine bP 44 ?_;refine bP 45 ?_;refine aB 46 ?_;refine aB 47 ?_;refine bP 48 ?_;refine bP 49 ?_;refine bP 50 ?_;refine bP 51 ?_;refine bP 52 ?_;refine aB 53 ?_;refine fI ?_;clear am;go_wp2_with fail
    go_meet
    exact ⟨rfl,HN2.out,HO2.out⟩
 case rest =>
 obtain ⟨rfl,hn2,ho2⟩:=hcut;rename World=>W2;have HF:Hid (MsP w W2 A X r d l (.returned (.slice none 0 0)) ([],s1,k)):=ab (MsP.none (NdP.trans HM0.out (hn2.ndp (Mv.only ho2 (by simpa using HRX.out)))));clear hn2 ho2;go_wp2_with fail
 go_ret
 have hf:=HF.out;rw [<-HS1.out] at hf;exact hf
end
end Go.Proofs.YtnhefallmioefaaGreat
