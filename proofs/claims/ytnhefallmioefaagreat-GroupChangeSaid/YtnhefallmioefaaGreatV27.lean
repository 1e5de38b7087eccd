/-
  What the proof of the law leans on: contracts of the program's functions, one behind another. No condition.
-/
import Derived.Test.YtnhefallmioefaaGreatV0
import Derived.Test.YtnhefallmioefaaGreatV26
import Derived.Test.YtnhefallmioefaaGreatV5
set_option linter.unusedVariables false
set_option linter.unusedSimpArgs false
namespace Go.Proofs.YtnhefallmioefaaGreat
open Go.RowKit Go.ChangeMaps Go.WideMaps Go.Maps
set_option maxRecDepth 20000
structure ReadsL (w:World) (ao:Option Addr) (c:Nat) (l:List (List UInt8)):Prop where
 cap:l.length<=c
 at_:∀j,j<l.length->∃b off,ao=some ⟨b,off,none⟩/\∃a m k,w.cell? ⟨b,off+j,none⟩=some (.slice a m k)/\IsB w a m k (l.getD j [])
section
variable {w w':World} {A:List Nat}
theorem ReadsL.below {ao:Option Addr} {c:Nat} {l:List (List UInt8)} (h:ReadsL w ao c l) (hb:Below w.heap.size w w'):ReadsL w' ao c l :=
 ⟨h.cap,λj hj=>by
  obtain ⟨b,off,e,a,m,k,h1,h2⟩:=h.at_ j hj;exact ⟨b,off,e,a,m,k,cell_later hb h1,h2.below hb⟩⟩
theorem ImmL.reads {v:Value} {l:List (List UInt8)} (h:ImmL w A v l):∃ao c,v = .slice ao l.length c/\ReadsL w ao c l:=by
 rcases h with ⟨rfl,rfl⟩ | ⟨g,c,cur,rfl,h1,h2,h3,h4,h5⟩
 ·exact ⟨none,0,rfl,ah _,λj hj=>by cases hj⟩
 ·refine ⟨_,c,rfl,h1,λj hj=>?_⟩;obtain ⟨u,k1,ao,cc,rfl,k3,_⟩:=h5 j hj;exact ⟨g,0,rfl,ao,_,cc,by rw [af h4,cy];exact k1,k3⟩
set_option maxHeartbeats 4000000 in
theorem kE {ao bo:Option Addr} {ca cb n m:Nat} {a b:List (List UInt8)} (ha:ReadsL w ao ca a) (hb:ReadsL w bo cb b) (hn:a.length=n) (hm:b.length=m) (h:a <+: b) (hl:n<=1000000) :
  Calls Tryz.prog 11 #[.slice ao n ca,.slice bo m cb] w λe w'=>e = .returned (.bool true)/\Below w.heap.size w w':=by
 have hnm:n<=m:=by rw [<-hn,<-hm];exact h.length_le
 have HA:=ab ha;have HB:=ab hb;have HE:Hid (∀j,j<n->a.getD j []=b.getD j []):=ab λj hj=>by
  obtain ⟨t,rfl⟩:=h;rw [aF,aF,cI (by omega)]
 have HN:=ab hn;have HM:=ab hm;clear ha hb h hn hm;have q1:¬(m:Int)<(n:Int):=by omega
 go_enter Tryz.func11,Tryz.ntmps11
 go_wp2_with fail
 go_loopw [5] (λk w2=>∃j:Nat,j<=n/\k = .int .i64 (j:Int)/\Below w.heap.size w w2) (λk _=>n - (intOf k).toNat)
 case atStart=>exact ⟨0,aH _,rfl,az _ _⟩
 case round =>
  obtain ⟨j,hj,rfl,hbw⟩:=hrel;rename World=>wx;have HBW:=ab hbw;have q8:IntKind.i64.wrap ((j:Int)+1)=(j:Int)+1:=IntWalk.i64_in _ (by omega);by_cases hlt:j<n
  ·have hj3:(j:Int)<(n:Int):=by omega
   have hj4:(j:Int)<(m:Int):=by omega
   obtain ⟨b1,o1,rfl,a1,m1,k1,g1,i1⟩:=HA.out.at_ j (by rw [HN.out];exact hlt);obtain ⟨b2,o2,rfl,a2,m2,k2,g2,i2⟩:=HB.out.at_ j (by rw [HM.out];omega);rw [HE.out j hlt] at i1;have u1:wx.cell? ⟨b1,o1+j,none⟩=some (.slice a1 m1 k1):=cell_later hbw g1;have u2:wx.cell? ⟨b2,o2+j,none⟩=some (.slice a2 m2 k2):=cell_later hbw g2;have kcv1:∀q,(convert 31 9 (.slice a1 m1 k1)).run Tryz.prog (wx.drewN q) = .ok (.string (fp (b.getD j []))) (wx.drewN q):=λq=>iM _ _ _ _ _ ((i1.below hbw).below (ak _ q));have kcv2:∀q,(convert 31 9 (.slice a2 m2 k2)).run Tryz.prog (wx.drewN q) = .ok (.string (fp (b.getD j []))) (wx.drewN q):=λq=>iM _ _ _ _ _ ((i2.below hbw).below (ak _ q));clear g1 g2 i1 i2 hbw;generalize fp (b.getD j [])=sx at *;have heq:(sx.toList==sx.toList)=true:=by simp
   go_upto_region 6 with (fail)
   go_quiet (fail)
   go_wp2_with fail
   go_roundw
   case rel=>exact ⟨j+1,by omega,by simp,HBW.out.trans ((ak _ _).mono HBW.out.size)⟩
   case measure=>simp [intOf];omega
  ·obtain rfl:j=n:=by omega
   go_wp2_with fail
   go_ret
   exact ⟨rfl,HBW.out⟩
end
end Go.Proofs.YtnhefallmioefaaGreat
