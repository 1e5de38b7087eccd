/-
  What the proof of the law leans on: contracts of the program's functions, one behind another. No condition.
-/
import Derived.Test.YtnhefallmioefaaGreatV0
import Derived.Test.YtnhefallmioefaaGreatV17
import Derived.Test.YtnhefallmioefaaGreatV6
import Derived.Test.YtnhefallmioefaaGreatV10
import Derived.Test.YtnhefallmioefaaGreatV7
set_option linter.unusedVariables false
set_option linter.unusedSimpArgs false
namespace Go.Proofs.YtnhefallmioefaaGreat
open Go.RowKit Go.ChangeMaps Go.WideMaps Go.Maps
set_option maxRecDepth 20000
inductive Note where
 | t (term who:Int)
 | e (place:Nat) (x:Ent)
def Note.bytes:Note->List UInt8
 | .t a b=>dw a b
 | .e p x=>db p x
def dy (s:Rp):Note->Rp
 | .t a b=>{ s with term:=a,choice:=b }
 | .e p x=>{ s with log:=s.log.take p++[x]}
def jv (s:Rp):Note->Prop
 | .t a b=>s.term<=a/\a<=1099511627776 /\ -1<=b/\b<s.n
 | .e p x=>p<=s.log.length/\1<=x.term/\x.term<=s.term/\x.bs.length<=8000
def cA (s:Rp) (l:List Note):Rp:=l.foldl dy s
def cQ:Rp->List Note->Prop
 | _,[]=>True
 | s,a::l=>jv s a/\cQ (dy s a) l
theorem jZ (s:Rp) (l m:List Note):cA s (l++m)=cA (cA s l) m:=fN
theorem gE (s:Rp) (l m:List Note):cQ s (l++m)↔cQ s l/\cQ (cA s l) m:=by
 induction l generalizing s with
 | nil=>simp [cQ,cA]
 | cons a l ih =>
  have e:=ih (dy s a);simp only [List.cons_append,cQ,cA,jJ] at e ⊢;rw [e,and_assoc]
theorem tz (s:Rp) (a:Note):∃t c g,dy s a={ s with term:=t,choice:=c,log:=g }:=by
 cases a with
 | t a b=>exact ⟨a,b,s.log,rfl⟩
 | e p x=>exact ⟨s.term,s.choice,s.log.take p++[x],rfl⟩
theorem fC (s:Rp) (l:List Note):∃t c g,cA s l={ s with term:=t,choice:=c,log:=g }:=by
 induction l generalizing s with
 | nil=>exact ⟨s.term,s.choice,s.log,rfl⟩
 | cons a l ih =>
  obtain ⟨t,c,g,h⟩:=tz s a;obtain ⟨t2,c2,g2,h2⟩:=ih (dy s a);refine ⟨t2,c2,g2,?_⟩;show cA (dy s a) l=_;rw [h2,h]
theorem nc (s:Rp) (l:List Note):(cA s l).log.length<=s.log.length+l.length:=by
 induction l generalizing s with
 | nil=>simp [cA]
 | cons a l ih =>
  have h:=ih (dy s a);have h2:(dy s a).log.length<=s.log.length+1:=by
   cases a with
   | t a b=>simp [dy]
   | e p x=>simp [dy];omega
  show (cA (dy s a) l).log.length<=_;simp only [aY];omega
theorem qR (s:Rp) (l:List Note) (j:Nat) (h:j<l.length):cA s (l.take (j+1))=dy (cA s (l.take j)) l[j]:=by
 rw [<-bf h,jZ];rfl
theorem qS (s:Rp) (l:List Note) (hk:cQ s l) (j:Nat) (h:j<l.length):jv (cA s (l.take j)) l[j]:=by
 have e:l=l.take j++(l[j]::l.drop (j+1)):=by
  rw [<-dK h,dh]
 rw [e,gE] at hk;have h2:=hk.2.1;simpa using h2
theorem kM (s:Rp) (l:List Note) (hk:cQ s l):s.term<=(cA s l).term/\(s.term<=1099511627776->(cA s l).term<=1099511627776):=by
 induction l generalizing s with
 | nil=>exact ⟨aX _,id⟩
 | cons a l ih =>
  obtain ⟨h1,h2⟩:=hk;obtain ⟨h3,h4⟩:=ih _ h2;show s.term<=(cA (dy s a) l).term/\(_->(cA (dy s a) l).term<=_);cases a with
  | t a b=>exact ⟨fO h1.1 h3,λ_=>h4 h1.2.1⟩
  | e p x=>exact ⟨h3,h4⟩
theorem j0 (s:Rp) (l:List Note) (hk:cQ s l) (j:Nat):cQ s (l.take j):=by
 rw [<-dh j l,gE] at hk;exact hk.1
section
variable {w w':World} {A A' X X':List Nat} {r d l:Nat} {s s':Rp} {k k':Dk}
theorem yL {w0:World} {T:Nat->Prop} (h:Nd w0 A X r d l s k) (hb:Below w0.heap.size w0 w) (a:Nat) (ha:w0.heap.size<=a) (n:Note) (hr:IsR w a T n.bytes false) (hok:jv s n) (h0:0<=s.term) (hn5:s.n<=5) (hl:s.log.length<=1000000) (hM:s.term<=1099511627776) :
  Calls Tryz.prog 58 #[.pointer (some ⟨r,0,none⟩),.pointer (some ⟨a,0,none⟩)] w λe w'=>e = .returned (.bool true)/\NdP w0 w' A X r d l (dy s n) k:=by
 cases n with
 | t x y=>exact vY h hb a ha x y hr hok.1 (fO h0 hok.1) hok.2.1 hok.2.2.1 hok.2.2.2 hn5
 | e p x=>exact vZ h hb a ha p x hr hok.1 hok.2.1 hok.2.2.1 hok.2.2.2 hl hM
set_option maxHeartbeats 4000000 in
theorem th (h:Nd w A X r d l s k) (ns:List Note) (hrec:s.wl.recs=ns.map Note.bytes) (hok:cQ s ns) (h0:0<=s.term) (hM:s.term<=1099511627776) (hn5:s.n<=5) (hlg:s.log=[]) (hb:ns.length<=100000) (hrl:∀x∈s.wl.recs,x.length<=20000) (hoff:kS s.wl k=false) :
  Calls Tryz.prog 36 #[.pointer (some ⟨r,0,none⟩)] w λe w'=>e = .returned (.bool true)/\NdP w w' A X r d l (cA s ns) k:=by
 have H:=ab h;have hrn:s.wl.recs.length=ns.length:=by rw [hrec,aP]
 have HCELL:Hid (∀W A2 X2 s2,Nd W A2 X2 r d l s2 k->s2.wl=s.wl->W.cell? ⟨r,3,none⟩=some (.pointer (some ⟨l,0,none⟩))/\∃A3 D3 L3,WD W A3 D3 L3 l d s.wl k):=ab (λW A2 X2 s2 h2 e=>by
  obtain ⟨D,L,R,vl,gv,gn,gm,gh,h2,_⟩:=h2;have hwd:=h2.wd;rw [e] at hwd;exact ⟨by rw [af h2.cell];rfl,_,_,_,hwd⟩)
 have HRW:Hid (∀j,(cA s (ns.take j)).wl=s.wl/\(cA s (ns.take j)).n=s.n):=ab (λj=>by
  obtain ⟨t,c,g,e⟩:=fC s (ns.take j);rw [e];exact ⟨rfl,rfl⟩)
 have HST:=ab (λj (hj:j<ns.length)=>qR s ns j hj);have HOK:=ab (λj (hj:j<ns.length)=>qS s ns hok j hj);have HTM:=ab (λj=>kM s (ns.take j) (j0 s ns hok j));have HLN:Hid (∀j,(cA s (ns.take j)).log.length<=1000000):=ab (λj=>by
  have:=nc s (ns.take j);rw [hlg,aI,gM] at this;omega)
 have HRC:Hid (∀j (hj:j<ns.length),s.wl.recs.getD j []=ns[j].bytes):=ab (λj hj=>by
  rw [hrec];simp [List.getD,hj])
 have HAL:Hid (cA s ns=cA s (ns.take ns.length)):=ab (by rw [cK]);have HRL:Hid (∀j,(s.wl.recs.getD j []).length<=20000):=ab (λj=>by
  by_cases hj:j<s.wl.recs.length
  ·have e:s.wl.recs.getD j []=s.wl.recs[j]:=by simp [List.getD,hj]
   rw [e];exact hrl _ (bO _)
  ·rw [aF,dR (by omega)];simp)
 have HOFF:=ab hoff;obtain ⟨hc3,A3,D3,L3,hwd⟩:=HCELL.out w A X s h rfl;have HFI:=ab (wS hwd.wl);clear hwd hrec hok hrl hoff hlg h;go_enter Tryz.func36,Tryz.ntmps36
 go_wp2_with fail
 refine HFI.out.mono ?_;rintro e w1 ⟨rfl,rfl⟩;go_wp2_with fail
 go_loopw [3] (λi wr=>∃j:Nat,j<=ns.length/\i = .int .i64 ((j:Int)+1)/\NdP w wr A X r d l (cA s (ns.take j)) k) (λi _=>ns.length+1 - (intOf i).toNat)
 case atStart=>exact ⟨0,aH _,by simp,H.out.ndp (Mv.refl _ _ _)⟩
 case round =>
  obtain ⟨j,hj,rfl,A1,X1,h1,m1⟩:=hrel;obtain ⟨hk3,A4,D4,L4,hwd⟩:=HCELL.out wr A1 X1 _ h1 (HRW.out j).1;have H1:=ab h1;have M1:=ab m1;have HWD:=ab hwd;clear h1 m1 hwd hc3;have hrb:s.wl.recs.length<=1000000000:=by omega
  have HNX:=ab (kV HWD.out.wl hrb);rw [hrn] at HNX;by_cases hlt:j<ns.length
  ·have q1:(j:Int)+1<1+(ns.length:Int):=by omega
   have q6:IntKind.i64.wrap ((j:Int)+1+1)=(j:Int)+1+1:=IntWalk.i64_in _ (by omega);go_wp2_with fail
   refine HNX.out.mono ?_;rintro e w2 ⟨rfl,q,rfl⟩;have H2:=ab (H1.out.below (ak wr q));have M2:=ab (M1.out.trans (Mv.below (A:=A1) (X:=X1) (ak wr q)));have HWD2:=ab (HWD.out.below (ak wr q));have hk3:(wr.drewN q).cell? ⟨r,3,none⟩=some (.pointer (some ⟨l,0,none⟩)):=hk3;generalize wr.drewN q=W2 at *;go_wp2_with fail
   refine (Di HWD2.out HOFF.out j (by omega) hrb (by have:=HRL.out j;omega)).mono ?_;rintro e W3 ⟨v,rfl,ho3,hb3⟩;have HB3:=ab hb3;obtain ⟨ao,c,ev,hi,_⟩:=gz ho3;rw [HRC.out j hlt] at hi ev;subst ev;have HI3:=ab hi;have hlen:(ns[j].bytes).length<=20000:=by rw [<-HRC.out j hlt];exact HRL.out j
   clear ho3 hb3 hi;go_wp2_with fail
   refine (yB ao _ c _ W3 HI3.out (by omega)).mono ?_;rintro e W4 ⟨a,rfl,hr4,ha4,ha5,hb4⟩;have HR4:=ab hr4;have HB4:=ab hb4;have hge:W3.heap.size<=a:=ha4;clear hr4 hb4 ha4 ha5;go_wp2_with fail
   refine (yL (H2.out.below HB3.out) HB4.out a hge ns[j] HR4.out (HOK.out j hlt) (fO h0 (HTM.out j).1) (by rw [(HRW.out j).2];exact hn5) (HLN.out j) ((HTM.out j).2 hM)).mono ?_;rintro e W5 ⟨rfl,hn5'⟩;have HN5:=ab (NdP.trans (M2.out.trans (Mv.below HB3.out)) hn5');rw [<-HST.out j hlt] at HN5;clear hn5';go_wp2_with fail
   go_roundw
   case rel=>exact ⟨j+1,by omega,by simp,HN5.out⟩
   case measure=>simp [intOf];omega
  ·obtain rfl:j=ns.length:=by omega
   have q1:¬(ns.length:Int)+1<1+(ns.length:Int):=by omega
   go_wp2_with fail
   refine HNX.out.mono ?_;rintro e w2 ⟨rfl,q,rfl⟩;have HN2:=ab (NdP.trans M1.out ((H1.out.below (ak wr q)).ndp (Mv.below (ak wr q))));generalize wr.drewN q=W2 at *;go_wp2_with fail
   go_ret
   rw [HAL.out];exact ⟨rfl,HN2.out⟩
end
section
variable {w:World} {D:List Nat} {d:Nat} {k:Dk}
theorem qj (h:IsDk w D d k) (ho:k.off=false):Calls Tryz.prog 50 #[.pointer (some ⟨d,0,none⟩)] w λe w'=>e = .returned (.tuple #[.int .i64 1,.int .i64 0])/\Below w.heap.size w w':=by
 have HR:=ab (uw h ho B6 wG (.inr (by decide)));clear h;go_enter Tryz.func50,Tryz.ntmps50
 go_wp2_with fail
 refine HR.out.mono ?_;rintro e w1 ⟨rfl,hb⟩;have HB:=ab hb;clear hb;go_wp2_with fail
 go_ret2
 exact ⟨rfl,HB.out⟩
theorem sR (h:IsDk w D d k) (ho:k.off=false) (hf:k.file=none):Calls Tryz.prog 51 #[.pointer (some ⟨d,0,none⟩),.string eX] w λe w'=>e = .returned (.tuple #[.slice none 0 0,.int .i64 0])/\Below w.heap.size w w':=by
 have HR:=ab (uw h ho eX jA (.inl hf));clear h hf;go_enter Tryz.func51,Tryz.ntmps51
 go_wp2_with fail
 refine HR.out.mono ?_;rintro e w1 ⟨rfl,hb⟩;have HB:=ab hb;clear hb;go_wp2_with fail
 go_ret2
 exact ⟨rfl,HB.out⟩
theorem mL (h:IsDk w D d k) (ho:k.off=false) {l:List UInt8} {sf:Nat} (hf:k.file=some (l,sf)) (hl:l.length<=1048576):Calls Tryz.prog 51 #[.pointer (some ⟨d,0,none⟩),.string eX] w λe w'=>∃v,e = .returned (.tuple #[v,.int .i64 0])/\OwnB w' w.heap.size 5 v l/\Below w.heap.size w w':=by
 have HR:=ab (yz h ho hf hl);clear h hf;go_enter Tryz.func51,Tryz.ntmps51
 go_wp2_with fail
 refine HR.out.mono ?_;rintro e w1 ⟨v,rfl,hv,hb⟩;have HB:=ab hb;have HV:=ab hv;clear hb hv;go_wp2_with fail
 go_ret2
 exact ⟨v,rfl,HV.out,HB.out⟩
theorem mW (ao:Option Addr) (n c:Nat) (rec:List UInt8) (h:IsB w ao n c rec) (hn:n<=20000):Calls Tryz.prog 54 #[.slice ao n c] w λe w'=>e = .returned (.int .i64 ((12+n:Nat):Int))/\Below w.heap.size w w':=by
 have HI:=ab h;have HFR:Hid ((F.bV rec).length=12+n):=ab (by rw [F.cX,h.len]);clear h;go_enter Tryz.func54,Tryz.ntmps54
 go_wp2_with fail
 refine (F.tr none 0 0 [] ao n c rec w (fV w) HI.out (by omega) hn).mono ?_;rintro e w2 ⟨v2,rfl,ho2,hb2⟩;rw [cL] at ho2;obtain ⟨a2,c2,e2,hi2⟩:=ho2.isB;rw [HFR.out] at e2;subst e2;have HB:=ab hb2;clear ho2 hi2 hb2;go_wp2_with fail
 go_ret
 exact ⟨rfl,HB.out⟩
end
theorem ju {w:World} {base:Nat} {e:TypeId} {v:Value} {l:List UInt8} (h:OwnB w base e v l):∃ao c,v = .slice ao l.length c/\IsB w ao l.length c l/\l.length<=c/\c<=9223372036854775807:=by
 obtain ⟨ao,c,rfl,h1,h2,_⟩:=gz h;refine ⟨ao,c,rfl,h1,h2,?_⟩;rcases h.2 with ⟨h2,h3⟩ | ⟨g,cap,cur,hv,hg,hh,hn,hm,hs,ht⟩
 ·simp only [Value.slice.injEq] at h2;omega
 ·cases hv;unfold maxLen at hm;omega
section
variable {w:World} {D:List Nat} {d:Nat} {k:Dk}
end
structure OpenP (w w':World) (D:List Nat) (d:Nat) (e:Ending) (recs:List (List UInt8)) (k:Dk):Prop where
 ex:∃l L,e = .returned (.tuple #[.pointer (some ⟨l,0,none⟩),.int .i64 0])/\(∀A:List Nat,(∀b∈A,b<w.heap.size)->WD w' (A++(D++L)) D L l d ⟨k.lives,false,recs⟩ k)/\(∀b∈L,w.heap.size<=b)/\Below w.heap.size w w'
section
variable {w:World} {D:List Nat} {d:Nat} {k:Dk}
theorem tv (h:IsDk w D d k) (ho:k.off=false) {bl:List UInt8} {sf:Nat} (hf:k.file=some (bl,sf)) (hl:bl.length<=1048576) (hk:¬(F.cH bl).2.2=2) (hu:(F.cH bl).2.1=bl.length) (hrs:∀r∈(F.cH bl).1,r.length<=20000) (hfl:(F.aL (F.cH bl).1).length<=1048576) (hmany:(F.cH bl).1.length<=1000000) :
  Calls Tryz.prog 34 #[.pointer (some ⟨d,0,none⟩)] w λe w'=>OpenP w w' D d e (F.cH bl).1 k:=by
 have HR:=ab (qj h ho);have HD:=ab h;have HO:=ab ho;have HF:=ab hf;generalize hq:F.cH bl=q at hk hu hrs hfl hmany ⊢;have HQ:=ab hq;obtain ⟨recs,used,how⟩:=q;simp only at hk hu hrs hfl hmany;subst hu;have hk2:¬(how:Int)=2:=by omega
 clear h ho hf hq;go_enter Tryz.func34,Tryz.ntmps34
 go_wp2_with fail
 refine HR.out.mono ?_;rintro e w1 ⟨rfl,hb⟩;have HB:=ab hb;clear hb;go_wp2_with fail
 refine (mL (HD.out.below HB.out) HO.out HF.out hl).mono ?_;rintro e w2 ⟨v,rfl,hv,hb⟩;have HB2:=ab (HB.out.trans (hb.mono HB.out.size));obtain ⟨ao,c,rfl,hi,hnc,hc9⟩:=ju hv;have HI:=ab hi;clear hb hv hi;go_wp2_with fail
 refine (F.lC ao bl.length c bl w2 HI.out (by omega) hnc hc9).mono ?_;rintro e w3 ⟨v3,hr,ho3,hb3⟩;rw [HQ.out] at hr ho3;obtain rfl:=hr;have HB3:=ab (HB2.out.trans (hb3.mono HB2.out.size));have HO3:=ab (ho3.mono HB2.out.size);clear hb3 ho3;obtain ⟨ao3,c3,rfl,hc3,hc39⟩:=HO3.out.shape;go_wp2_with fail
 refine (fE (HD.out.below HB3.out)).mono ?_;rintro e w4 ⟨rfl,rfl⟩;go_wp2_with fail
 go_loopw [12,58] (λa i wr=>∃(j:Nat) (ve:Value),j<=recs.length/\i = .int .i64 (j:Int)/\a = .int .i64 ((F.aL (recs.take j)).length:Int)/\wr.heap[w3.heap.size]? = some (.cells #[.pointer (some ⟨d,0,none⟩),.int .i64 k.lives,.bool false,.int .i64 1,.slice ao3 recs.length c3,ve] 103 (0,0))/\OwnI wr 0 3 ve (cD (recs.take j))/\(∀b,ve.ownBlock=some b->w3.heap.size<b)/\OwnL wr w.heap.size (.slice ao3 recs.length c3) recs/\Below w.heap.size w wr/\Below w3.heap.size w3 wr) (λ_ i _=>recs.length - (intOf i).toNat)
 case atStart =>
  refine ⟨0,.slice none 0 0,by omega,rfl,by simp [F.aL],?_,OwnI.nil _ _ _,(λb hb=>by cases hb),?_,?_,?_⟩
  ·exact aK _ _
  ·exact HO3.out.below ((az _ _).alloc (ah _) _)
  ·exact HB3.out.alloc HB3.out.size _
  ·exact (az _ _).alloc (ah _) _
 case round =>
  obtain ⟨j,ve,hj,rfl,rfl,hcell,hve,hvb,hrl,hbl,hb3⟩:=hrel;have HC:=ab hcell;have HV:=ab hve;have HVB:=ab hvb;have HL:=ab hrl;have HBL:=ab hbl;have HBL3:=ab hb3;clear hcell hve hvb hrl hbl hb3;by_cases hlt:j<recs.length
  ·have hrj:(recs.getD j []).length<=20000:=by
    have e:recs.getD j []=recs[j]:=by simp [List.getD,hlt]
    rw [e];exact hrs _ (bO _)
   have hfj:(F.aL (recs.take j)).length+(12+(recs.getD j []).length)=(F.aL (recs.take (j+1))).length:=by
    have e:recs.getD j []=recs[j]:=by simp [List.getD,hlt]
    rw [e,<-bf hlt,ig]
   have hfj2:(F.aL (recs.take (j+1))).length<=1048576:=by
    have e:F.aL recs=F.aL (recs.take (j+1))++F.aL (recs.drop (j+1)):=by
     unfold F.aL;rw [<-List.flatMap_append,dh]
    rw [e,ay] at hfl;omega
   obtain ⟨us,hu,hru,hone,him⟩:=HL.out;obtain ⟨ao,c,e1,hi,_,_⟩:=ju (him j hlt);have hgu:=hru;rcases hru.2 with ⟨_,h0⟩ | ⟨g,cap,cur,e0,_,hg,hgn,hgm,hgs,hgt⟩
   ·omega
   cases e0;have hcell:wr.cell? ⟨g,j,none⟩=some (.slice ao (recs.getD j []).length c):=by
    have:=World.ownsRow.cellAt hgu j (by omega);rw [this,<-e1];have hun:j<us.length:=by omega
    simp [List.getD,hun]
   have HI:=ab hi;clear hu hru hone him hgu hg hgs hgt hgn hgm e1 hi;have HRJ:=ab hrj;have HFJ:=ab hfj;clear hrj hfj;generalize hrl:recs.getD j []=rl at *;have HRL:=ab hrl;clear hrl;go_wp2_with fail
   refine (mW ao rl.length c rl HI.out HRJ.out).mono ?_;rintro e wr2 ⟨rfl,hb⟩;have HBS:=ab hb;clear hb hcell;have hsum:wrap64 ((F.aL (recs.take j)).length+(12+(rl.length:Int)))=((F.aL (recs.take (j+1))).length:Int):=by
    have:=HFJ.out;rw [<-this];unfold wrap64;omega
   have hfj3:Hid ((F.aL (recs.take (j+1))).length<=1048576):=ab hfj2;have HSUM:=ab (show wrap64 ((F.aL (recs.take j)).length+(12+(rl.length:Int)))=((F.aL (recs.take (j+1))).length:Int) from hsum);have hc2:wr2.heap[w3.heap.size]? = some (.cells #[.pointer (some ⟨d,0,none⟩),.int .i64 k.lives,.bool false,.int .i64 1,.slice (some ⟨g,0,none⟩) recs.length c3,ve] 103 (0,0)):=(Only.ofBelow HBS.out []).keeps HC.out (by simp);have HC2:=ab hc2;clear hc2 hfj2;generalize hz:(F.aL (recs.take (j+1))).length=z at *;have HZ:=ab hz;clear hz;have heln:(cD (recs.take j)).length=j:=by rw [eU,aI];omega
   have HELN:=ab heln;have hv2:OwnI wr2 0 3 ve (cD (recs.take j)):=gb HV.out HBS.out;obtain ⟨ae,ce,e5,_⟩:=hv2.isI;rw [heln] at e5;subst e5;have HV2:=ab hv2;have HLEN:Hid ((cD (recs.take j)).length+1<=17592186044416):=ab (by rw [heln];omega);clear heln hv2;have hc5:wr2.cell? ⟨w3.heap.size,5,none⟩=some (.slice ae j ce):=(af HC2.out 5).trans rfl;go_wp2_with (at_builtin;refine eV rfl (.tmp 70) (.tmp 72) 74 rfl 3 Tryz.underlying74 F.info3 (.slice ae j ce) (cD (recs.take j)) rfl (OwnI.alloc HV2.out _) (some ⟨wr2.heap.size,0,none⟩) 1 1 [(z:Int)] rfl (iG (aK wr2 _)) HLEN.out ?_)
   intro ve5 w5 ho5 hon5 hfr5;have h5:=hon5.keeps (bb HC2.out (.cells #[.int .i64 (z:Int)] 3)) (i9 (OwnI.alloc HV2.out (.cells #[.int .i64 (z:Int)] 3)) (bb HC2.out (.cells #[.int .i64 (z:Int)] 3)) (by simp));obtain ⟨a5,c5,e5,_⟩:=ho5.isI;rw [ay,HELN.out] at e5;simp only [aY,gM,cy] at e5;subst e5;have hc6:w5.cell? ⟨w3.heap.size,5,none⟩=some (.slice ae j ce):=(af h5 5).trans rfl;have hz:=aM h5 5;have HL5:=ab h5;have HO5:=ab ho5;have HON5:=ab hon5;have HFR5:=ab hfr5;clear h5 ho5 hon5 hfr5;go_wp2_with fail
   case roundEnd =>
    refine ⟨?_,?_⟩;rotate_left
    ·simp [intOf];omega
    have hlw:w3.heap.size<wr.heap.size:=aQ HC.out;have hgt5:∀b,(Value.slice a5 (j+1) c5).ownBlock=some b->w3.heap.size<b:=λb hb=>by
     rcases HFR5.out b hb with h1 | h1
     ·exact HVB.out b h1
     ·have:=HBS.out.size;have h2:(wr2.alloc (.cells #[.int .i64 (z:Int)] 3)).heap.size=wr2.heap.size+1:=by simp
      omega
    have hon:Only (w3.heap.size::(Value.slice ae j ce).ownBlock.toList) wr (w5.setCell ⟨w3.heap.size,5,none⟩ (.slice a5 (j+1) c5)):=(((Only.ofBelow HBS.out _).trans (Only.ofBelow ((az _ _).alloc (ah _) _) _)).trans (HON5.out.mono (λb hb=>aU _ hb))).setCell (by simp) _;have hge:∀b∈(w3.heap.size::(Value.slice ae j ce).ownBlock.toList),w3.heap.size<=b:=λb hb=>by
     rcases bg.1 hb with rfl | hb
     ·exact ah _
     ·exact eC (HVB.out b (by simpa using hb))
    have hew:cD (recs.take (j+1))=cD (recs.take j)++[(z:Int)]:=by
     have e:recs.take (j+1)=recs.take j++[recs[j]]:=(bf hlt).symm;have hz2:=HZ.out;rw [e] at hz2;rw [e,ij,hz2]
    refine ⟨j+1,.slice a5 (j+1) c5,by omega,by simp,by rw [HZ.out],aR HL5.out 5 _,?_,hgt5,?_,?_,?_⟩
    ·rw [hew];exact bu HO5.out (S:=[w3.heap.size]) ((Only.ofBelow (az _ _) _).setCell (by simp) _) (λb hb=>by have:=hgt5 b hb;simp;omega)
    ·refine HL.out.only hon (λb hb cur=>?_);rcases bg.1 hb with rfl | hb
     ·rw [HC.out];simp
     ·rw [cV HV.out (by simpa using hb)];simp
    ·exact HBL.out.trans (hon.below HBL.out.size (λb hb=>aD HB3.out.size (hge b hb)))
    ·exact HBL3.out.trans (hon.below (eC hlw) hge)
  ·have hj2:j=recs.length:=by omega
   subst hj2;go_wp2_with fail
   go_ret2
   rw [cK] at HV;have hlw:w3.heap.size<wr.heap.size:=aQ HC.out;obtain ⟨us,hu,hru,hone,him⟩:=HL.out;have hvr:=λb hb=>World.ownsRow.lt hru b hb;have hve:=λb hb=>HV.out.lt b hb;have hge:∀b∈(w3.heap.size::((Value.slice ao3 recs.length c3).ownBlock.toList++ve.ownBlock.toList)),w.heap.size<=b/\b<wr.heap.size/\∃cur t,t≠5/\wr.heap[b]? = some (.cells cur t (0,0)):=λb hb=>by
    rcases bg.1 hb with rfl | hb
    ·exact ⟨HB3.out.size,hlw,_,103,by simp,HC.out⟩
    ·rcases ap.1 hb with hb | hb
     ·have hb2:(Value.slice ao3 recs.length c3).ownBlock=some b:=by simpa using hb
      exact ⟨(hvr b hb2).1,(hvr b hb2).2,_,31,by simp,cV (dP hru (aH _)) hb2⟩
     ·have hb2:ve.ownBlock=some b:=by simpa using hb
      exact ⟨aD HB3.out.size (eC (HVB.out b hb2)),(hve b hb2).2,_,3,by simp,cV HV.out hb2⟩
   have hDlt:∀b∈D,b<w.heap.size:=HD.out.lt;refine ⟨⟨w3.heap.size,_,rfl,λA hA=>⟨⟨⟨_,_,HC.out,⟨⟨us,hu,dP hru (aH _),λi hi=>?_⟩,HV.out,λb hb=>?_,λb hb=>?_⟩⟩,cz,λb hb=>(hge b hb).2.1⟩,HD.out.below HBL.out,λb hb hb2=>?_,λb hb=>aO _ (aG _ hb),λb hb=>aO _ (aO _ hb),λb hb=>?_⟩,λb hb=>(hge b hb).1,HBL.out⟩⟩
   ·obtain ⟨ao4,c4,e4,h1,h2,h3⟩:=gz (him i hi);refine ⟨ao4,c4,e4,h1,h2,λp hp=>⟨λhm=>?_,(h3 p hp).2⟩⟩;rcases ap.1 hm with hm | hm
    ·have:=hA _ hm;have:=(h3 p hp).1;omega
    rcases ap.1 hm with hm | hm
    ·have:=hDlt _ hm;have:=(h3 p hp).1;omega
    ·obtain ⟨_,_,cur,t,ht,hc⟩:=hge _ hm;have hb4:(us.getD i undef).ownBlock=some p.block:=by rw [e4,hp];rfl
     have h6:=cV (dP (him i hi) (aH _)) hb4;rw [hc] at h6;simp at h6;exact ht h6
   ·exact aU _ (aG _ (by simp [hb]))
   ·exact aU _ (aO _ (by simp [hb]))
   ·have:=hDlt _ hb;have:=(hge _ hb2).1;omega
   ·rcases ap.1 hb with hb | hb
    ·exact aE (hA _ hb) HBL.out.size
    rcases ap.1 hb with hb | hb
    ·exact aE (hDlt _ hb) HBL.out.size
    ·exact (hge _ hb).2.1
end
section
variable {w:World} {D:List Nat} {d:Nat} {k:Dk}
theorem vS (h:IsDk w D d k) (ho:k.off=false) (hf:k.file=none) :
  Calls Tryz.prog 34 #[.pointer (some ⟨d,0,none⟩)] w λe w'=>OpenP w w' D d e [] k:=by
 have hs:F.cH []=([],0,0):=by rfl
 have hrs:∀r∈([]:List (List UInt8)),r.length<=20000:=λr hr=>by cases hr
 have hfl:(F.aL []).length<=1048576:=by simp [F.aL]
 have hmany:([]:List (List UInt8)).length<=1000000:=by simp
 have HR:=ab (qj h ho);have HD:=ab h;have HO:=ab ho;have HF:=ab hf;have HQ:=ab hs;clear h ho hf hs;have hcl:([]:List UInt8).length=0:=rfl;generalize hrecs:([]:List (List UInt8))=recs at *;go_enter Tryz.func34,Tryz.ntmps34
 go_wp2_with fail
 refine HR.out.mono ?_;rintro e w1 ⟨rfl,hb⟩;have HB:=ab hb;clear hb;go_wp2_with fail
 refine (sR (HD.out.below HB.out) HO.out HF.out).mono ?_;rintro e w2 ⟨rfl,hb⟩;have HB2:=ab (HB.out.trans (hb.mono HB.out.size));clear hb;go_wp2_with fail
 refine (F.lC none 0 0 [] w2 (fV w2) (by omega) (by omega) (by omega)).mono ?_;rintro e w3 ⟨v3,hr,ho3,hb3⟩;rw [HQ.out] at hr ho3;obtain rfl:=hr;have HB3:=ab (HB2.out.trans (hb3.mono HB2.out.size));have HO3:=ab (ho3.mono HB2.out.size);clear hb3 ho3;obtain ⟨ao3,c3,rfl,hc3,hc39⟩:=HO3.out.shape;go_wp2_with fail
 refine (fE (HD.out.below HB3.out)).mono ?_;rintro e w4 ⟨rfl,rfl⟩;go_wp2_with fail
 go_loopw [12,58] (λa i wr=>∃(j:Nat) (ve:Value),j<=recs.length/\i = .int .i64 (j:Int)/\a = .int .i64 ((F.aL (recs.take j)).length:Int)/\wr.heap[w3.heap.size]? = some (.cells #[.pointer (some ⟨d,0,none⟩),.int .i64 k.lives,.bool false,.int .i64 1,.slice ao3 recs.length c3,ve] 103 (0,0))/\OwnI wr 0 3 ve (cD (recs.take j))/\(∀b,ve.ownBlock=some b->w3.heap.size<b)/\OwnL wr w.heap.size (.slice ao3 recs.length c3) recs/\Below w.heap.size w wr/\Below w3.heap.size w3 wr) (λ_ i _=>recs.length - (intOf i).toNat)
 case atStart =>
  refine ⟨0,.slice none 0 0,by omega,rfl,by simp [F.aL],?_,OwnI.nil _ _ _,(λb hb=>by cases hb),?_,?_,?_⟩
  ·exact aK _ _
  ·exact HO3.out.below ((az _ _).alloc (ah _) _)
  ·exact HB3.out.alloc HB3.out.size _
  ·exact (az _ _).alloc (ah _) _
 case round =>
  obtain ⟨j,ve,hj,rfl,rfl,hcell,hve,hvb,hrl,hbl,hb3⟩:=hrel;have HC:=ab hcell;have HV:=ab hve;have HVB:=ab hvb;have HL:=ab hrl;have HBL:=ab hbl;have HBL3:=ab hb3;clear hcell hve hvb hrl hbl hb3;by_cases hlt:j<recs.length
  ·have hrj:(recs.getD j []).length<=20000:=by
    have e:recs.getD j []=recs[j]:=by simp [List.getD,hlt]
    rw [e];exact hrs _ (bO _)
   have hfj:(F.aL (recs.take j)).length+(12+(recs.getD j []).length)=(F.aL (recs.take (j+1))).length:=by
    have e:recs.getD j []=recs[j]:=by simp [List.getD,hlt]
    rw [e,<-bf hlt,ig]
   have hfj2:(F.aL (recs.take (j+1))).length<=1048576:=by
    have e:F.aL recs=F.aL (recs.take (j+1))++F.aL (recs.drop (j+1)):=by
     unfold F.aL;rw [<-List.flatMap_append,dh]
    rw [e,ay] at hfl;omega
   obtain ⟨us,hu,hru,hone,him⟩:=HL.out;obtain ⟨ao,c,e1,hi,_,_⟩:=ju (him j hlt);have hgu:=hru;rcases hru.2 with ⟨_,h0⟩ | ⟨g,cap,cur,e0,_,hg,hgn,hgm,hgs,hgt⟩
   ·omega
   cases e0;have hcell:wr.cell? ⟨g,j,none⟩=some (.slice ao (recs.getD j []).length c):=by
    have:=World.ownsRow.cellAt hgu j (by omega);rw [this,<-e1];have hun:j<us.length:=by omega
    simp [List.getD,hun]
   have HI:=ab hi;clear hu hru hone him hgu hg hgs hgt hgn hgm e1 hi;have HRJ:=ab hrj;have HFJ:=ab hfj;clear hrj hfj;generalize hrl:recs.getD j []=rl at *;have HRL:=ab hrl;clear hrl;go_wp2_with fail
   refine (mW ao rl.length c rl HI.out HRJ.out).mono ?_;rintro e wr2 ⟨rfl,hb⟩;have HBS:=ab hb;clear hb hcell;have hsum:wrap64 ((F.aL (recs.take j)).length+(12+(rl.length:Int)))=((F.aL (recs.take (j+1))).length:Int):=by
    have:=HFJ.out;rw [<-this];unfold wrap64;omega
   have hfj3:Hid ((F.aL (recs.take (j+1))).length<=1048576):=ab hfj2;have HSUM:=ab (show wrap64 ((F.aL (recs.take j)).length+(12+(rl.length:Int)))=((F.aL (recs.take (j+1))).length:Int) from hsum);have hc2:wr2.heap[w3.heap.size]? = some (.cells #[.pointer (some ⟨d,0,none⟩),.int .i64 k.lives,.bool false,.int .i64 1,.slice (some ⟨g,0,none⟩) recs.length c3,ve] 103 (0,0)):=(Only.ofBelow HBS.out []).keeps HC.out (by simp);have HC2:=ab hc2;clear hc2 hfj2;generalize hz:(F.aL (recs.take (j+1))).length=z at *;have HZ:=ab hz;clear hz;have heln:(cD (recs.take j)).length=j:=by rw [eU,aI];omega
   have HELN:=ab heln;have hv2:OwnI wr2 0 3 ve (cD (recs.take j)):=gb HV.out HBS.out;obtain ⟨ae,ce,e5,_⟩:=hv2.isI;rw [heln] at e5;subst e5;have HV2:=ab hv2;have HLEN:Hid ((cD (recs.take j)).length+1<=17592186044416):=ab (by rw [heln];omega);clear heln hv2;have hc5:wr2.cell? ⟨w3.heap.size,5,none⟩=some (.slice ae j ce):=(af HC2.out 5).trans rfl;go_wp2_with (at_builtin;refine eV rfl (.tmp 70) (.tmp 72) 74 rfl 3 Tryz.underlying74 F.info3 (.slice ae j ce) (cD (recs.take j)) rfl (OwnI.alloc HV2.out _) (some ⟨wr2.heap.size,0,none⟩) 1 1 [(z:Int)] rfl (iG (aK wr2 _)) HLEN.out ?_)
   intro ve5 w5 ho5 hon5 hfr5;have h5:=hon5.keeps (bb HC2.out (.cells #[.int .i64 (z:Int)] 3)) (i9 (OwnI.alloc HV2.out (.cells #[.int .i64 (z:Int)] 3)) (bb HC2.out (.cells #[.int .i64 (z:Int)] 3)) (by simp));obtain ⟨a5,c5,e5,_⟩:=ho5.isI;rw [ay,HELN.out] at e5;simp only [aY,gM,cy] at e5;subst e5;have hc6:w5.cell? ⟨w3.heap.size,5,none⟩=some (.slice ae j ce):=(af h5 5).trans rfl;have hz:=aM h5 5;have HL5:=ab h5;have HO5:=ab ho5;have HON5:=ab hon5;have HFR5:=ab hfr5;clear h5 ho5 hon5 hfr5;go_wp2_with fail
   case roundEnd =>
    refine ⟨?_,?_⟩;rotate_left
    ·simp [intOf];omega
    have hlw:w3.heap.size<wr.heap.size:=aQ HC.out;have hgt5:∀b,(Value.slice a5 (j+1) c5).ownBlock=some b->w3.heap.size<b:=λb hb=>by
     rcases HFR5.out b hb with h1 | h1
     ·exact HVB.out b h1
     ·have:=HBS.out.size;have h2:(wr2.alloc (.cells #[.int .i64 (z:Int)] 3)).heap.size=wr2.heap.size+1:=by simp
      omega
    have hon:Only (w3.heap.size::(Value.slice ae j ce).ownBlock.toList) wr (w5.setCell ⟨w3.heap.size,5,none⟩ (.slice a5 (j+1) c5)):=(((Only.ofBelow HBS.out _).trans (Only.ofBelow ((az _ _).alloc (ah _) _) _)).trans (HON5.out.mono (λb hb=>aU _ hb))).setCell (by simp) _;have hge:∀b∈(w3.heap.size::(Value.slice ae j ce).ownBlock.toList),w3.heap.size<=b:=λb hb=>by
     rcases bg.1 hb with rfl | hb
     ·exact ah _
     ·exact eC (HVB.out b (by simpa using hb))
    have hew:cD (recs.take (j+1))=cD (recs.take j)++[(z:Int)]:=by
     have e:recs.take (j+1)=recs.take j++[recs[j]]:=(bf hlt).symm;have hz2:=HZ.out;rw [e] at hz2;rw [e,ij,hz2]
    refine ⟨j+1,.slice a5 (j+1) c5,by omega,by simp,by rw [HZ.out],aR HL5.out 5 _,?_,hgt5,?_,?_,?_⟩
    ·rw [hew];exact bu HO5.out (S:=[w3.heap.size]) ((Only.ofBelow (az _ _) _).setCell (by simp) _) (λb hb=>by have:=hgt5 b hb;simp;omega)
    ·refine HL.out.only hon (λb hb cur=>?_);rcases bg.1 hb with rfl | hb
     ·rw [HC.out];simp
     ·rw [cV HV.out (by simpa using hb)];simp
    ·exact HBL.out.trans (hon.below HBL.out.size (λb hb=>aD HB3.out.size (hge b hb)))
    ·exact HBL3.out.trans (hon.below (eC hlw) hge)
  ·have hj2:j=recs.length:=by omega
   subst hj2;go_wp2_with fail
   go_ret2
   rw [cK] at HV;have hlw:w3.heap.size<wr.heap.size:=aQ HC.out;obtain ⟨us,hu,hru,hone,him⟩:=HL.out;have hvr:=λb hb=>World.ownsRow.lt hru b hb;have hve:=λb hb=>HV.out.lt b hb;have hge:∀b∈(w3.heap.size::((Value.slice ao3 recs.length c3).ownBlock.toList++ve.ownBlock.toList)),w.heap.size<=b/\b<wr.heap.size/\∃cur t,t≠5/\wr.heap[b]? = some (.cells cur t (0,0)):=λb hb=>by
    rcases bg.1 hb with rfl | hb
    ·exact ⟨HB3.out.size,hlw,_,103,by simp,HC.out⟩
    ·rcases ap.1 hb with hb | hb
     ·have hb2:(Value.slice ao3 recs.length c3).ownBlock=some b:=by simpa using hb
      exact ⟨(hvr b hb2).1,(hvr b hb2).2,_,31,by simp,cV (dP hru (aH _)) hb2⟩
     ·have hb2:ve.ownBlock=some b:=by simpa using hb
      exact ⟨aD HB3.out.size (eC (HVB.out b hb2)),(hve b hb2).2,_,3,by simp,cV HV.out hb2⟩
   have hDlt:∀b∈D,b<w.heap.size:=HD.out.lt;refine ⟨⟨w3.heap.size,_,rfl,λA hA=>⟨⟨⟨_,_,HC.out,⟨⟨us,hu,dP hru (aH _),λi hi=>?_⟩,HV.out,λb hb=>?_,λb hb=>?_⟩⟩,cz,λb hb=>(hge b hb).2.1⟩,HD.out.below HBL.out,λb hb hb2=>?_,λb hb=>aO _ (aG _ hb),λb hb=>aO _ (aO _ hb),λb hb=>?_⟩,λb hb=>(hge b hb).1,HBL.out⟩⟩
   ·obtain ⟨ao4,c4,e4,h1,h2,h3⟩:=gz (him i hi);refine ⟨ao4,c4,e4,h1,h2,λp hp=>⟨λhm=>?_,(h3 p hp).2⟩⟩;rcases ap.1 hm with hm | hm
    ·have:=hA _ hm;have:=(h3 p hp).1;omega
    rcases ap.1 hm with hm | hm
    ·have:=hDlt _ hm;have:=(h3 p hp).1;omega
    ·obtain ⟨_,_,cur,t,ht,hc⟩:=hge _ hm;have hb4:(us.getD i undef).ownBlock=some p.block:=by rw [e4,hp];rfl
     have h6:=cV (dP (him i hi) (aH _)) hb4;rw [hc] at h6;simp at h6;exact ht h6
   ·exact aU _ (aG _ (by simp [hb]))
   ·exact aU _ (aO _ (by simp [hb]))
   ·have:=hDlt _ hb;have:=(hge _ hb2).1;omega
   ·rcases ap.1 hb with hb | hb
    ·exact aE (hA _ hb) HBL.out.size
    rcases ap.1 hb with hb | hb
    ·exact aE (hDlt _ hb) HBL.out.size
    ·exact (hge _ hb).2.1
end
end Go.Proofs.YtnhefallmioefaaGreat
