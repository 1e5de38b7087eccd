/- What the law leans on. No condition. -/
import Derived.Test.YtnhefallmioefaaGreatW0
import Derived.Test.YtnhefallmioefaaGreatW1
import Derived.Test.YtnhefallmioefaaGreatW7
import Derived.Test.YtnhefallmioefaaGreatW5
set_option maxHeartbeats 8000000
set_option linter.unusedVariables false
set_option linter.unusedSimpArgs false
namespace Go.Proofs.YtnhefallmioefaaGreat
open Go.RowKit Go.ChangeMaps Go.WideMaps Go.Maps
set_option maxRecDepth 20000
theorem yy (l:List (Int×Int×Int)) (i:Nat) (x:Int×Int×Int) (h:i<l.length):(((fZ l).set! (i*3) (.int .i64 x.1)).set! (i*3+1) (.int .i64 x.2.1)).set! (i*3+2) (.int .i64 x.2.2)=fZ (l.set i x):=by
 have key:∀(l:List (Int×Int×Int)) (i:Nat),i<l.length->(((l.flatMap pa).set (i*3) (.int .i64 x.1)).set (i*3+1) (.int .i64 x.2.1)).set (i*3+2) (.int .i64 x.2.2)=(l.set i x).flatMap pa:=by
  intro l;induction l with
  | nil=>intro i h;cases h
  | cons a l ih =>
   intro i h;cases i with
   | zero=>simp [pa]
   | succ i =>
    have:=ih i (by simpa using h);rw [show (i+1)*3=i*3+3 by omega,show i*3+3+1=i*3+1+3 by omega,show i*3+3+2=i*3+2+3 by omega];simp only [nG,uP,pa,List.cons_append,cC];rw [<-this]
 unfold fZ;simp only [Array.set!,eY];rw [key l i h]
section
variable {w w':World} {A A' X X':List Nat} {r d l:Nat} {s s':Rp} {k k':Dk}
theorem Ij (Ow who:Int):(bB s k Ow who).2.1.n=s.n/\(bB s k Ow who).2.1.own=s.own/\((bB s k Ow who).1=true->(bB s k Ow who).2.1.Ow=Ow):=by
 have e1:=fj (s:=s) (k:=k) (ez Ow who);unfold bB;generalize bQ s k (ez Ow who)=p at *;have f1:p.1.n=s.n:=by rw [e1]
 have f2:p.1.own=s.own:=by rw [e1]
 simp only;split
 ·exact ⟨f1,f2,λh=>by cases h⟩
 ·have e2:=fQ (s:=p.1) (k:=p.2);generalize cO p.1 p.2=q at *;have f3:q.1.n=p.1.n:=by rw [e2]
  have f4:q.1.own=p.1.own:=by rw [e2]
  split
  ·exact ⟨f3.trans f1,f4.trans f2,λh=>by cases h⟩
  ·exact ⟨f3.trans f1,f4.trans f2,λ_=>rfl⟩
structure MsgZ (w:World) (A:List Nat) (m:OM) (v u:Value):Prop where
 zv:∃ao c,v = .slice ao m.N.length c
 zn:1<=m.N.length->PB w A v m.N
 zu:∃ub bc,u = .slice ub m.B.length bc
theorem OU.z {m:OM} {v u:Value} (h:OU w A m v u):MsgZ w A m v u:=by
 obtain ⟨ao,c,ev,_⟩:=id h.n;exact ⟨⟨ao,c,ev⟩,λ_=>h.n,oC h.b⟩
theorem Ic (h:Nd w A X r d l s k) (m:OM) (v u:Value) (hm:MsgZ w A m v u) (Ut:(eG s k||pD (bw s k) m)=true) (O8:s.n<=5) (hlm:m.N.length<=1000000000) :
  Calls Tryz.prog 40 #[.pointer (some ⟨r,0,none⟩),en m v u] w λe w'=>PE w w' A X r d l e ([],bw s k,k):=by
 have Pe:Below w.heap.size w (w.alloc (.cells (cJ m v u) 83)):=(aG _ _).alloc (ah _) _;have h1:=h.below Pe;obtain ⟨⟨ao,c,ev⟩,ZM,⟨ub,bc,eu⟩⟩:=hm;subst ev;subst eu;have HRX:=af h.rX;have hMA:w.heap.size∉A:=λhb=>by have:=h.alt _ hb;omega
 have T4:r∈A:=h.xA r h.rX;have ZR:w.heap.size∉[r]:=by
  simp;intro e;exact hMA (e ▸ T4)
 have P0:=aV w (.cells (cJ m (.slice ao m.N.length c) (.slice ub m.B.length bc)) 83);have QU:Hid (Mv A A X X w (w.alloc (.cells (cJ m (.slice ao m.N.length c) (.slice ub m.B.length bc)) 83)).drew):=af ((Mv.below Pe).trans (Mv.below (aB _ 1)));have h1d:Nd (w.alloc (.cells (cJ m (.slice ao m.N.length c) (.slice ub m.B.length bc)) 83)).drew A X r d l s k:=h1.below (aB _ 1);have UR:=af (ke h1d);have Zv:Hid (∀W s9,Nd W A X r d l s9 k->s9.own=s.own->s9.n=s.n->W.cell? ⟨r,0,none⟩=some (.int .i64 (s.own:Int))/\W.cell? ⟨r,1,none⟩=some (.int .i64 (s.n:Int))):=af (λW s9 h9 e1 e2=>by
  obtain ⟨vl,gv,gn,gm,gh,hcell⟩:=h9.cells;exact ⟨by rw [ap hcell,<-e1];rfl,by rw [ap hcell,<-e2];rfl⟩)
 have SG:Hid ((w.alloc (.cells (cJ m (.slice ao m.N.length c) (.slice ub m.B.length bc)) 83)).drew.cell? ⟨w.heap.size,0,none⟩=some (.int .i64 m.OD)/\(w.alloc (.cells (cJ m (.slice ao m.N.length c) (.slice ub m.B.length bc)) 83)).drew.cell? ⟨w.heap.size,1,none⟩=some (.int .i64 m.dst)/\(w.alloc (.cells (cJ m (.slice ao m.N.length c) (.slice ub m.B.length bc)) 83)).drew.cell? ⟨w.heap.size,3,none⟩=some (.slice ao m.N.length c)/\(w.alloc (.cells (cJ m (.slice ao m.N.length c) (.slice ub m.B.length bc)) 83)).drew.cell? ⟨r,0,none⟩=some (.int .i64 (s.own:Int))/\(w.alloc (.cells (cJ m (.slice ao m.N.length c) (.slice ub m.B.length bc)) 83)).drew.cell? ⟨r,1,none⟩=some (.int .i64 (s.n:Int))):=af
  ⟨(ap P0 0).trans rfl,(ap P0 1).trans rfl,(ap P0 3).trans rfl,(Zv.out _ _ h1d rfl rfl).1,(Zv.out _ _ h1d rfl rfl).2⟩
 have Tm:Hid (∀w',Only [r] (w.alloc (.cells (cJ m (.slice ao m.N.length c) (.slice ub m.B.length bc)) 83)).drew w'->Nd w' A X r d l (bw s k) k->w'.cell? ⟨w.heap.size,0,none⟩=some (.int .i64 m.OD)/\w'.cell? ⟨w.heap.size,1,none⟩=some (.int .i64 m.dst)/\w'.cell? ⟨w.heap.size,3,none⟩=some (.slice ao m.N.length c)/\w'.cell? ⟨r,0,none⟩=some (.int .i64 (s.own:Int))/\w'.cell? ⟨r,1,none⟩=some (.int .i64 (s.n:Int))):=af (λw' ho hn =>
  ⟨ho.cell SG.out.1 ZR,ho.cell SG.out.2.1 ZR,ho.cell SG.out.2.2.1 ZR,(Zv.out _ _ hn rfl rfl).1,(Zv.out _ _ hn rfl rfl).2⟩)
 have HNUM:Hid (1<=m.N.length->∃b off,ao=some ⟨b,off,none⟩/\Hid ((w.alloc (.cells (cJ m (.slice ao m.N.length c) (.slice ub m.B.length bc)) 83)).drew.cell? ⟨b,off,none⟩=some (.int .i64 (m.N.getD 0 0)))/\Hid (∀w',Only [r] (w.alloc (.cells (cJ m (.slice ao m.N.length c) (.slice ub m.B.length bc)) 83)).drew w'->w'.cell? ⟨b,off,none⟩=some (.int .i64 (m.N.getD 0 0)))):=af (λhl=>by
  have hmi:=ZM hl;obtain ⟨b,off,c9,Q5⟩:=AX (hmi.below Pe) az;have e9:=Q5.v;simp only [Value.slice.injEq] at e9;obtain ⟨rfl,_,rfl⟩:=e9;have h0:=Q5.at_ 0 az;rw [eK] at h0;have hbr:b∉[r]:=by
   obtain ⟨Wj,c',e,_,_,_,h3⟩:=hmi;cases e;simp;intro e;exact (h3 _ rfl).1 (e ▸ T4)
  exact ⟨b,off,rfl,af h0,af (λw' ho=>ho.cell h0 hbr)⟩)
 clear h h1 ZM Pe P0 h1d Zv hMA T4 ZR;have HBD:Hid ((eG s k||(!(m.dst==(s.own:Int))||m.OD==(s.own:Int)||decide (m.OD<0)||decide ((s.n:Int)<=m.OD)||decide (m.N.length<2)||decide (m.N.getD 0 0<1)||decide (1099511627776<m.N.getD 0 0)))=true):=af Ut;clear Ut;unfold en cJ at *;go_enter Tryz.func40,Tryz.ntmps40
 go_upto_region 1 with (fail)
 generalize w.alloc (.cells #[.int .i64 m.OD,.int .i64 m.dst,.int .i64 m.kind,.slice ao m.N.length c,.slice ub m.B.length bc] 83)=W1 at *;generalize w.heap.size=M at *;generalize hs1:bw s k=s1 at *;have Xh:=af hs1;clear hs1;go_cut [58] (λv wx=>v = .bool true/\Nd wx A X r d l s1 k/\Only [r] W1.drew wx)
 case first =>
  cases P5:eG s k with
  | true =>
   rw [P5] at UR;as_aux_lemma =>
   refine wp_region_held_drew (S:=λw'=>w'.cell? ⟨M,0,none⟩=some (.int .i64 m.OD)/\w'.cell? ⟨M,1,none⟩=some (.int .i64 m.dst)/\w'.cell? ⟨M,3,none⟩=some (.slice ao m.N.length c)/\w'.cell? ⟨r,0,none⟩=some (.int .i64 (s.own:Int))/\w'.cell? ⟨r,1,none⟩=some (.int .i64 (s.n:Int))) dW SG.out (λaD=>?_);refine aJ 0 ?_;generalize W1.drew=V1 at *;refine dh 1 λK hK=>?_;go_simp
   refine UR.out.mono ?_;rintro e w2 ⟨rfl,Pf,OZ⟩;have QT:=af Pf;have QL:=af OZ;clear Pf OZ;go_wp2_with fail
   refine hK.out _ _ (Tm.out _ QL.out QT.out) (λaD=>?_);clear hK K;refine bX ?_;refine aJ 2 ?_;refine dR 3 ?_;refine dR 4 ?_;refine dR 5 ?_;refine dR 6 ?_;refine dR 7 ?_;refine dR 8 ?_;refine dR 9 ?_;refine aJ 10 ?_;refine aJ 11 ?_;refine dR 12 ?_;refine dR 13 ?_;refine dR 14 ?_;refine dR 15 ?_;refine dR 16 ?_;refine dR 17 ?_;refine dR 18 ?_;refine aJ 19 ?_;refine aJ 20 ?_;refine dR 21 ?_;refine dR 22 ?_;refine dR 23 ?_;exact NQ
  | false =>
   rw [P5] at UR HBD;by_cases c0:m.dst=(s.own:Int)
   ·have g0:(m.dst != (s.own:Int))=false:=by simpa using c0
    have e0:(m.dst==(s.own:Int))=true:=by simpa using c0
    clear c0;by_cases c1:m.OD=(s.own:Int)
    ·have g1:(m.OD==(s.own:Int))=true:=by simpa using c1
     clear c1;as_aux_lemma =>
     refine wp_region_held_drew (S:=λw'=>w'.cell? ⟨M,0,none⟩=some (.int .i64 m.OD)/\w'.cell? ⟨M,1,none⟩=some (.int .i64 m.dst)/\w'.cell? ⟨M,3,none⟩=some (.slice ao m.N.length c)/\w'.cell? ⟨r,0,none⟩=some (.int .i64 (s.own:Int))/\w'.cell? ⟨r,1,none⟩=some (.int .i64 (s.n:Int))) dW SG.out (λaD=>?_);refine aJ 0 ?_;generalize W1.drew=V1 at *;refine dh 1 λK hK=>?_;go_simp
     refine UR.out.mono ?_;rintro e w2 ⟨rfl,Pf,OZ⟩;have QT:=af Pf;have QL:=af OZ;clear Pf OZ;go_wp2_with fail
     refine hK.out _ _ (Tm.out _ QL.out QT.out) (λaD=>?_);clear hK K;refine bX ?_;refine aJ 2 ?_;refine aJ 3 ?_;refine aJ 4 ?_;refine aJ 5 ?_;refine aJ 6 ?_;refine aJ 7 ?_;refine aJ 8 ?_;refine aJ 9 ?_;refine aJ 10 ?_;refine aJ 11 ?_;refine aJ 12 ?_;refine aJ 13 ?_;refine aJ 14 ?_;refine aJ 15 ?_;refine aJ 16 ?_;refine aJ 17 ?_;refine aJ 18 ?_;refine aJ 19 ?_;refine aJ 20 ?_;refine dR 21 ?_;refine dR 22 ?_;refine dR 23 ?_;exact NQ
    ·have g1:(m.OD==(s.own:Int))=false:=by simpa using c1
     clear c1;by_cases c2:m.OD<0
     ·have g2:decide (m.OD<0)=true:=aO c2;as_aux_lemma =>
      refine wp_region_held_drew (S:=λw'=>w'.cell? ⟨M,0,none⟩=some (.int .i64 m.OD)/\w'.cell? ⟨M,1,none⟩=some (.int .i64 m.dst)/\w'.cell? ⟨M,3,none⟩=some (.slice ao m.N.length c)/\w'.cell? ⟨r,0,none⟩=some (.int .i64 (s.own:Int))/\w'.cell? ⟨r,1,none⟩=some (.int .i64 (s.n:Int))) dW SG.out (λaD=>?_);refine aJ 0 ?_;generalize W1.drew=V1 at *;refine dh 1 λK hK=>?_;go_simp
      refine UR.out.mono ?_;rintro e w2 ⟨rfl,Pf,OZ⟩;have QT:=af Pf;have QL:=af OZ;clear Pf OZ;go_wp2_with fail
      refine hK.out _ _ (Tm.out _ QL.out QT.out) (λaD=>?_);clear hK K;refine bX ?_;refine aJ 2 ?_;refine aJ 3 ?_;refine aJ 4 ?_;refine aJ 5 ?_;refine aJ 6 ?_;refine aJ 7 ?_;refine aJ 8 ?_;refine aJ 9 ?_;refine aJ 10 ?_;refine aJ 11 ?_;refine aJ 12 ?_;refine aJ 13 ?_;refine aJ 14 ?_;refine aJ 15 ?_;refine aJ 16 ?_;refine aJ 17 ?_;refine aJ 18 ?_;refine aJ 19 ?_;refine aJ 20 ?_;refine aJ 21 ?_;refine aJ 22 ?_;refine aJ 23 ?_;exact NQ
     ·have g2:decide (m.OD<0)=false:=bp c2;by_cases c3:(s.n:Int)<=m.OD
      ·have g3:decide ((s.n:Int)<=m.OD)=true:=aO c3;as_aux_lemma =>
       refine wp_region_held_drew (S:=λw'=>w'.cell? ⟨M,0,none⟩=some (.int .i64 m.OD)/\w'.cell? ⟨M,1,none⟩=some (.int .i64 m.dst)/\w'.cell? ⟨M,3,none⟩=some (.slice ao m.N.length c)/\w'.cell? ⟨r,0,none⟩=some (.int .i64 (s.own:Int))/\w'.cell? ⟨r,1,none⟩=some (.int .i64 (s.n:Int))) dW SG.out (λaD=>?_);refine aJ 0 ?_;generalize W1.drew=V1 at *;refine dh 1 λK hK=>?_;go_simp
       refine UR.out.mono ?_;rintro e w2 ⟨rfl,Pf,OZ⟩;have QT:=af Pf;have QL:=af OZ;clear Pf OZ;go_wp2_with fail
       refine hK.out _ _ (Tm.out _ QL.out QT.out) (λaD=>?_);clear hK K;refine bX ?_;refine aJ 2 ?_;refine aJ 3 ?_;refine aJ 4 ?_;refine aJ 5 ?_;refine aJ 6 ?_;refine aJ 7 ?_;refine aJ 8 ?_;refine aJ 9 ?_;refine aJ 10 ?_;refine aJ 11 ?_;refine aJ 12 ?_;refine aJ 13 ?_;refine aJ 14 ?_;refine aJ 15 ?_;refine aJ 16 ?_;refine aJ 17 ?_;refine aJ 18 ?_;refine aJ 19 ?_;refine aJ 20 ?_;refine aJ 21 ?_;refine aJ 22 ?_;refine aJ 23 ?_;refine aJ 24 ?_;refine aJ 25 ?_;refine aJ 26 ?_;refine aJ 27 ?_;refine aJ 28 ?_;refine aJ 29 ?_;refine aJ 30 ?_;refine aJ 31 ?_;refine aJ 32 ?_;refine aJ 33 ?_;refine aJ 34 ?_;refine dR 35 ?_;refine dR 36 ?_;refine dR 37 ?_;refine dR 38 ?_;exact Oa
      ·have g3:decide ((s.n:Int)<=m.OD)=false:=bp c3;by_cases c4:m.N.length<2
       ·have g4:decide ((m.N.length:Int)<2)=true:=aO az;have e4:(m.N.length:Int)<2:=az;as_aux_lemma =>
        refine wp_region_held_drew (S:=λw'=>w'.cell? ⟨M,0,none⟩=some (.int .i64 m.OD)/\w'.cell? ⟨M,1,none⟩=some (.int .i64 m.dst)/\w'.cell? ⟨M,3,none⟩=some (.slice ao m.N.length c)/\w'.cell? ⟨r,0,none⟩=some (.int .i64 (s.own:Int))/\w'.cell? ⟨r,1,none⟩=some (.int .i64 (s.n:Int))) dW SG.out (λaD=>?_);refine aJ 0 ?_;generalize W1.drew=V1 at *;refine dh 1 λK hK=>?_;go_simp
        refine UR.out.mono ?_;rintro e w2 ⟨rfl,Pf,OZ⟩;have QT:=af Pf;have QL:=af OZ;clear Pf OZ;go_wp2_with fail
        refine hK.out _ _ (Tm.out _ QL.out QT.out) (λaD=>?_);clear hK K;refine bX ?_;refine aJ 2 ?_;refine aJ 3 ?_;refine aJ 4 ?_;refine aJ 5 ?_;refine aJ 6 ?_;refine aJ 7 ?_;refine aJ 8 ?_;refine aJ 9 ?_;refine aJ 10 ?_;refine aJ 11 ?_;refine aJ 12 ?_;refine aJ 13 ?_;refine aJ 14 ?_;refine aJ 15 ?_;refine aJ 16 ?_;refine aJ 17 ?_;refine aJ 18 ?_;refine aJ 19 ?_;refine aJ 20 ?_;refine aJ 21 ?_;refine aJ 22 ?_;refine aJ 23 ?_;refine aJ 24 ?_;refine aJ 25 ?_;refine aJ 26 ?_;refine aJ 27 ?_;refine aJ 28 ?_;refine aJ 29 ?_;refine aJ 30 ?_;refine aJ 31 ?_;refine aJ 32 ?_;refine aJ 33 ?_;refine aJ 34 ?_;refine aJ 35 ?_;refine aJ 36 ?_;refine aJ 37 ?_;refine aJ 38 ?_;exact Oa
       ·have g4:decide ((m.N.length:Int)<2)=false:=bp az;have e4:¬(m.N.length:Int)<2:=az;have el0:(0:Int)<(m.N.length:Int):=az;have el1:0<m.N.length:=az;obtain ⟨b,off,hao,HN0,HKN⟩:=HNUM.out az;subst hao;have SG:Hid (_/\_/\_/\_/\_/\_):=af ⟨SG.out.1,SG.out.2.1,SG.out.2.2.1,SG.out.2.2.2.1,SG.out.2.2.2.2,HN0.out⟩;have Tm:=af (λw' (ho:Only [r] W1.drew w') (hn:Nd w' A X r d l s1 k)=>(⟨(Tm.out w' ho hn).1,(Tm.out w' ho hn).2.1,(Tm.out w' ho hn).2.2.1,(Tm.out w' ho hn).2.2.2.1,(Tm.out w' ho hn).2.2.2.2,HKN.out w' ho⟩:_/\_/\_/\_/\_/\_));generalize m.N.getD 0 0=n0 at *;by_cases c5:n0<1
        ·have g5:decide (n0<1)=true:=aO c5;as_aux_lemma =>
         refine wp_region_held_drew (S:=λw'=>w'.cell? ⟨M,0,none⟩=some (.int .i64 m.OD)/\w'.cell? ⟨M,1,none⟩=some (.int .i64 m.dst)/\w'.cell? ⟨M,3,none⟩=some (.slice (some ⟨b,off,none⟩) m.N.length c)/\w'.cell? ⟨r,0,none⟩=some (.int .i64 (s.own:Int))/\w'.cell? ⟨r,1,none⟩=some (.int .i64 (s.n:Int))/\w'.cell? ⟨b,off,none⟩=some (.int .i64 n0)) dW SG.out (λaD=>?_);refine aJ 0 ?_;generalize W1.drew=V1 at *;refine dh 1 λK hK=>?_;go_simp
         refine UR.out.mono ?_;rintro e w2 ⟨rfl,Pf,OZ⟩;have QT:=af Pf;have QL:=af OZ;clear Pf OZ;go_wp2_with fail
         refine hK.out _ _ (Tm.out _ QL.out QT.out) (λaD=>?_);clear hK K;refine bX ?_;refine aJ 2 ?_;refine aJ 3 ?_;refine aJ 4 ?_;refine aJ 5 ?_;refine aJ 6 ?_;refine aJ 7 ?_;refine aJ 8 ?_;refine aJ 9 ?_;refine aJ 10 ?_;refine aJ 11 ?_;refine aJ 12 ?_;refine aJ 13 ?_;refine aJ 14 ?_;refine aJ 15 ?_;refine aJ 16 ?_;refine aJ 17 ?_;refine aJ 18 ?_;refine aJ 19 ?_;refine aJ 20 ?_;refine aJ 21 ?_;refine aJ 22 ?_;refine aJ 23 ?_;refine aJ 24 ?_;refine aJ 25 ?_;refine aJ 26 ?_;refine aJ 27 ?_;refine aJ 28 ?_;refine aJ 29 ?_;refine aJ 30 ?_;refine aJ 31 ?_;refine aJ 32 ?_;refine aJ 33 ?_;refine aJ 34 ?_;refine aJ 35 ?_;refine aJ 36 ?_;refine aJ 37 ?_;refine aJ 38 ?_;refine aJ 39 ?_;refine aJ 40 ?_;refine aJ 41 ?_;refine aJ 42 ?_;refine aJ 43 ?_;refine aJ 44 ?_;refine aJ 45 ?_;refine aJ 46 ?_;refine aJ 47 ?_;refine dR 48 ?_;refine dR 49 ?_;refine dR 50 ?_;refine dR 51 ?_;refine dR 52 ?_;refine aJ 53 ?_;refine iX ?_;clear aD;go_wp2_with fail
         go_meet
         exact ⟨rfl,QT.out,QL.out⟩
        ·have g5:decide (n0<1)=false:=bp c5;by_cases c6:1099511627776<n0
         ·have g6:decide (1099511627776<n0)=true:=aO c6;exact Ob
         ·exfalso;have g6:decide (1099511627776<n0)=false:=bp c6;have e44:decide (m.N.length<2)=false:=bp c4;have:=HBD.out;rw [e0,g1,g2,g3,e44,g5,g6] at this;cases this
   ·have g0:(m.dst != (s.own:Int))=true:=by simpa using c0
    clear c0;as_aux_lemma =>
    refine wp_region_held_drew (S:=λw'=>w'.cell? ⟨M,0,none⟩=some (.int .i64 m.OD)/\w'.cell? ⟨M,1,none⟩=some (.int .i64 m.dst)/\w'.cell? ⟨M,3,none⟩=some (.slice ao m.N.length c)/\w'.cell? ⟨r,0,none⟩=some (.int .i64 (s.own:Int))/\w'.cell? ⟨r,1,none⟩=some (.int .i64 (s.n:Int))) dW SG.out (λaD=>?_);refine aJ 0 ?_;generalize W1.drew=V1 at *;refine dh 1 λK hK=>?_;go_simp
    refine UR.out.mono ?_;rintro e w2 ⟨rfl,Pf,OZ⟩;have QT:=af Pf;have QL:=af OZ;clear Pf OZ;go_wp2_with fail
    refine hK.out _ _ (Tm.out _ QL.out QT.out) (λaD=>?_);clear hK K;refine bX ?_;refine aJ 2 ?_;refine aJ 3 ?_;refine aJ 4 ?_;refine aJ 5 ?_;refine aJ 6 ?_;refine aJ 7 ?_;refine aJ 8 ?_;refine aJ 9 ?_;refine aJ 10 ?_;refine aJ 11 ?_;refine dR 12 ?_;refine dR 13 ?_;refine dR 14 ?_;refine dR 15 ?_;refine dR 16 ?_;refine dR 17 ?_;refine dR 18 ?_;refine aJ 19 ?_;refine aJ 20 ?_;refine dR 21 ?_;refine dR 22 ?_;refine dR 23 ?_;exact NQ
 case rest =>
 obtain ⟨rfl,Pf,OZ⟩:=hcut;rename World=>W2;have HF:Hid (PE w W2 A X r d l (.returned (.slice none 0 0)) ([],s1,k)):=af (PE.none (Py.trans QU.out (Pf.VJ (Mv.only OZ (by simpa using HRX.out)))));clear Pf OZ;go_wp2_with fail
 go_ret
 have hf:=HF.out;rw [<-Xh.out] at hf;exact hf
end
end Go.Proofs.YtnhefallmioefaaGreat
