/-
  What the proof of the law leans on: contracts of the program's functions, one behind another. No condition.
-/
import Derived.Test.YtnhefallmioefaaGreatV0
import Derived.Test.YtnhefallmioefaaGreatV30
set_option linter.unusedVariables false
set_option linter.unusedSimpArgs false
namespace Go.Proofs.YtnhefallmioefaaGreat.X
section
variable {ρ:Type} {z:ρ->Bool} {e:ρ}
variable {n i:Nat} {G G' G'':Gh ρ} {t t':Int} {l l':Lg ρ} {a a' k:Nat} {s s':Nd ρ} {m:Ms ρ}
def Stp (z:ρ->Bool) (n i:Nat) (G:Gh ρ) (r:List (Ms ρ)×Nd ρ):Prop:=∃G',By i G G'/\GI n G'/\NI z n G' i r.2/\∀m∈r.1,MI n G' m
theorem Stp.of (hg:GI n G) (h:NI z n G i s) {ms:List (Ms ρ)} (hm:∀m∈ms,MI n G m):Stp z n i G (ms,s):=⟨G,By.refl i G,hg,h,hm⟩
theorem Stp.step {r:List (Ms ρ)×Nd ρ} (hb:By i G G') (h:Stp z n i G' r):Stp z n i G r:=by
 obtain ⟨G2,h1,h2⟩:=h;exact ⟨G2,hb.trans h1,h2⟩
theorem NI.tc (h:NI z n G i s) (a b c:Nat) (hh:List (Int×Int×Int)):NI z n G i { s with ticks:=a,clock:=b,heard:=hh,cnt:=c } :=
 ⟨h.ib,h.own,h.nn,h.vl,h.ml,h.t0,h.ok,h.top,h.Vf,h.ch,h.ledt,h.lds,h.own2,h.vts,h.mat,h.next,h.ag,h.ackF,h.many,h.bad⟩
theorem dp (s:Nd ρ) (f:Nat->Ms ρ) (m:Ms ρ) (h:m∈dz s f):∃d,d<s.n/\d≠s.own/\m=f d:=by
 grind [dz,cF.1,ol.1,cW.1]
theorem Ca (l:Lg ρ):(l.map Prod.fst).zip (l.map Prod.snd)=l:=by
 induction l with
 | nil=>rfl
 | cons x l ih=>simp [ih]
theorem lO (h:NI z n G i s) (hl:s.leads=true) (d:Nat):MI n G (cO s d):=by
 obtain ⟨h1,h2⟩:=h.lds hl;have hn:=h.next hl d;refine ⟨i,h.ib,by show ((s.own:Nat):Int)=_;rw [h.own],λk=>(by cases k),λk=>(by cases k),λ_=>⟨h1,s.next.getD d 0,s.agreed,rfl,?_,rfl,?_,?_,?_,?_⟩,λk=>(by cases k)⟩
 ·show bF s.log (s.next.getD d 0)=bF (G.L s.term) _;rw [<-h2]
 ·show s.next.getD d 0+(((s.log.drop (s.next.getD d 0)).take 20).map Prod.snd).length<=(G.L s.term).length;rw [<-h2,aP,aI,bz];omega
 ·show ([s.term,((s.next.getD d 0:Nat):Int),bF s.log (s.next.getD d 0),(s.agreed:Int)]++((s.log.drop (s.next.getD d 0)).take 20).map Prod.fst).length=4+(((s.log.drop (s.next.getD d 0)).take 20).map Prod.snd).length;simp;omega
 ·show (((s.log.drop (s.next.getD d 0)).take 20).map Prod.fst).zip (((s.log.drop (s.next.getD d 0)).take 20).map Prod.snd)=((G.L s.term).drop (s.next.getD d 0)).take (((s.log.drop (s.next.getD d 0)).take 20).map Prod.snd).length;rw [Ca,<-h2,aP,aI,List.take_eq_take_iff];omega
 ·show Agd n G s.term (G.L s.term) s.agreed;rw [<-h2];exact h.ag
theorem jc (h:NI z n G i s) (hl:s.leads=true):∀m∈dz s (cO s),MI n G m:=λm hm=>by
 obtain ⟨d,_,_,rfl⟩:=dp _ _ _ hm;exact lO h hl d
theorem pP (h:NI z n G i s) (d kd:Int) (N:List Int) (h1:kd≠1) (h2:kd≠2\/N.getD 1 0≠1) (h3:kd≠3) (h4:kd≠4\/N.getD 1 0=0):MI n G (say s d kd N):=by
 refine ⟨i,h.ib,by show ((s.own:Nat):Int)=_;rw [h.own],λk=>absurd k h1,λk k2=>?_,λk=>absurd k h3,λk _ k2=>?_⟩
 ·rcases h2 with h2 | h2
  ·exact absurd k h2
  ·exact absurd k2 h2
 ·rcases h4 with h4 | h4
  ·exact absurd k h4
  ·exact absurd h4 k2
theorem NI.relead (h:NI z n G i s) (hl:G.led s.term=some i) (hlog:s.log=G.L s.term):NI z n G i { s with leads:=true,next:=List.replicate s.n s.log.length,mat:=List.replicate s.n 0 }:=by
 refine ⟨h.ib,h.own,h.nn,h.vl,by show (List.replicate s.n 0).length=n;rw [gX];exact h.nn,h.t0,h.ok,h.top,h.Vf,h.ch,h.ledt,λ_=>⟨hl,hlog⟩,h.own2,h.vts,λ_ j hj _ h3=>?_,λ_ j=>?_,h.ag,h.ackF,h.many,h.bad⟩
 ·grind
 ·grind
theorem uI (hg:GI n G) (h:NI z n G i s) (hch:s.choice=(i:Int)) (hc:jf s=true):Stp z n i G (lead z e s):=by
 have hq:Maj n λj=>s.votes.getD j false:=by
  unfold jf cZ at hc;rw [h.nn] at hc;have e:=lV s.votes id false;rw [h.vl] at e;have hc:=d8 hc;rw [e] at hc;exact hc
 obtain ⟨l0,b0,hv0⟩:∃(l0:Lg ρ) (b0:Bool),G.V i s.term=some (i,l0,b0):=by
  grind [h.ch]
 have key:∃G1,By i G G1/\GI n G1/\NI z n G1 i s/\G1.led s.term=some i/\G1.L s.term=s.log:=by
  cases hl:G.led s.term with
  | none=>exact ⟨_,h.elect hg hl hch ⟨_,hq,λj _ hj=>hj⟩⟩
  | some c =>
   by_cases hci:c=i
   ·grind [By.refl,h.own2]
   ·obtain ⟨q,q1,q2⟩:=hg.quo _ _ hl;obtain ⟨j,hj,j1,j2⟩:=q1.meet hq;obtain ⟨l,e1,_⟩:=q2 j hj j1;obtain ⟨l2,b2,_,_,e2,_⟩:=h.vts hch j hj j2;rw [e1] at e2;simp only [bW,dC] at e2;exact absurd e2.1 hci
 obtain ⟨G1,hb,hg1,h1,hl1,hL1⟩:=key;obtain ⟨hb2,hg2,h2⟩:=(h1.relead hl1 hL1.symm).grow (x:=e) hg1 hl1 hL1.symm;have h3:=h2.settle hg2 rfl;obtain ⟨s1,s2,s3,_⟩:=jq (z:=z) (s:=place { s with leads:=true,next:=List.replicate s.n s.log.length,mat:=List.replicate s.n 0 } s.log.length (s.term,e));exact ⟨_,hb.trans hb2,hg2,h3,jc h3 s3⟩
theorem ym (hg:GI n G) (h:NI z n G i s):Stp z n i G (stand z e s):=by
 unfold stand;split
 ·exact Stp.of hg h (λm hm=>by cases hm)
 ·obtain ⟨G1,hb,hg1,h1,b,hv⟩:=h.stand hg;have e1:({ enter s (s.term+1) (s.own:Int) with ticks:=0,votes:=(List.replicate s.n false).set s.own true }:Nd ρ)={ enter s (s.term+1) (i:Int) with ticks:=0,votes:=(List.replicate n false).set i true }:=by rw [h.own,h.nn]
  simp only;rw [e1];split
  ·rename_i hc;exact (uI hg1 h1 rfl hc).step hb
  ·refine ⟨G1,hb,hg1,h1,λm hm=>?_⟩;obtain ⟨d,_,_,rfl⟩:=dp _ _ _ hm;exact ⟨i,h.ib,by show ((s.own:Nat):Int)=_;rw [h.own],λ_ _=>⟨s.log,b,hv,rfl,rfl⟩,λk=>(by cases k),λk=>(by cases k),λk=>(by cases k)⟩
theorem AJ (hg:GI n G) (h:NI z n G i s):Stp z n i G (tick z e s):=by
 unfold tick;have h1:NI z n G i { s with clock:=s.clock+1 }:=h.tc s.ticks (s.clock+1) s.cnt s.heard;have h2:NI z n G i { s with clock:=s.clock+1,ticks:=s.ticks+1 }:=h.tc (s.ticks+1) (s.clock+1) s.cnt s.heard;simp only;split
 ·grind [Stp.of,jc]
 ·split
  ·exact ym hg h2
  ·split
   ·refine Stp.of hg h2 (λm hm=>?_);obtain ⟨d,_,_,rfl⟩:=dp _ _ _ hm;exact pP h2 _ _ _ (by decide) (.inl (by decide)) (by decide) (.inl (by decide))
   ·grind [Stp.of]
theorem vu (hg:GI n G) (h:NI z n G i s) (x:ρ):Stp z n i G ((submit z s x).1,(submit z s x).2.2):=by
 unfold submit;split
 ·exact Stp.of hg h (λm hm=>by cases hm)
 ·rename_i hl;split
  ·exact Stp.of hg h (λm hm=>by cases hm)
  ·have hl:s.leads=true:=by simpa using hl
   obtain ⟨d1,d2⟩:=h.lds hl;obtain ⟨hb2,hg2,h2⟩:=h.grow (x:=x) hg d1 d2;have h3:=h2.settle hg2 hl;obtain ⟨s1,s2,s3,_⟩:=jq (z:=z) (s:=place s s.log.length (s.term,x));exact ⟨_,hb2,hg2,h3,jc h3 (s3.trans hl)⟩
theorem Ai (hg:GI n G) (h:NI z n G i s) (hm:MI n G m) (hk:m.kind=1) (hf:m.frm≠(i:Int)):Stp z n i G (asked s m):=by
 unfold asked;split
 ·rename_i hN;obtain ⟨f,hfn,hfe,h1,_⟩:=hm.f;obtain ⟨l0,b0,e1,e2,e3⟩:=h1 hk hN;have hfi:f≠i:=λe=>hf (by rw [hfe,e]);simp only;split
  ·rename_i hy;simp only [bA,ez,bG,bC] at hy;obtain ⟨⟨hy1,hy2⟩,hy3⟩:=hy;rw [hy1] at e1;have hu:B9 l0 s.log:=by
    rw [e2,e3] at hy2;rcases hy2 with hy2 | ⟨hy2,hy4⟩
    ·exact .inl hy2
    ·exact .inr ⟨hy2.symm,by omega⟩
   split
   ·rename_i hc;rw [ez] at hc;obtain ⟨g1,g2,g3,g4⟩:=h.vote hg hc hfn hfi ⟨l0,b0,e1,hu⟩;refine ⟨_,g1,g2,?_,λx hx=>?_⟩
    ·rw [hfe];exact g3.tc 0 s.clock (s.cnt+1) s.heard
    ·rw [aj.1 hx];refine ⟨i,h.ib,by show ((s.own:Nat):Int)=_;rw [h.own],λk=>(by cases k),λ_ _=>⟨f,s.log,_,l0,b0,hfe,g4,g1.le.V _ _ _ e1,hu⟩,λk=>(by cases k),λk=>(by cases k)⟩
   ·rename_i hc;have hc:¬s.choice = -1:=by simpa using hc
    have hcf:s.choice=m.frm:=by
     omega
    obtain ⟨l,b,hv⟩:∃(l:Lg ρ) (b:Bool),G.V i s.term=some (f,l,b):=by
     grind [h.ch]
    obtain ⟨l1,b1,e4,e5⟩:=hg.utd _ _ _ _ _ hv;refine Stp.of hg (h.tc 0 s.clock s.cnt s.heard) (λx hx=>?_);rw [aj.1 hx];exact ⟨i,h.ib,by show ((s.own:Nat):Int)=_;rw [h.own],λk=>(by cases k),λ_ _=>⟨f,l,b,l1,b1,hfe,hv,e4,e5⟩,λk=>(by cases k),λk=>(by cases k)⟩
  ·grind [Stp.of,aj.1,pP]
 ·exact Stp.of hg h (λm hm=>by cases hm)
theorem x9 (hg:GI n G) (h:NI z n G i s) (hm:MI n G m) (hk:m.kind=2) (hd:m.dst=(i:Int)):Stp z n i G (voted z e s m):=by
 unfold voted;split
 ·exact Stp.of hg h (λm hm=>by cases hm)
 ·rename_i hy;simp only [bG,bL,bX,not_or,ne_eq,dN,xu] at hy;obtain ⟨⟨⟨hy1,hy2⟩,hy3⟩,hy4⟩:=hy;obtain ⟨f,hfn,hfe,_,h1,_⟩:=hm.f;obtain ⟨d,l,b,l0,b0,e1,e2,e3,e4⟩:=h1 hk hy4;obtain rfl:d=i:=by omega
  rw [hy2] at e2 e3;rw [h.own] at hy3;have h2:NI z n G d { s with votes:=s.votes.set m.frm.toNat true }:=by
   refine ⟨h.ib,h.own,h.nn,by show (s.votes.set _ _).length=n;rw [dU];exact h.vl,h.ml,h.t0,h.ok,h.top,h.Vf,h.ch,h.ledt,h.lds,h.own2,λhc j hj hv=>?_,h.mat,h.next,h.ag,h.ackF,h.many,h.bad⟩;by_cases hjf:j=f
   ·grind
   ·grind [h.vts]
  simp only;split
  ·rename_i hc;exact uI hg h2 hy3 hc
  ·grind [Stp.of]
theorem sB (hg:GI n G) (h:NI z n G i s) (hm:MI n G m) (hk:m.kind=4) (hf:m.frm≠(i:Int)):Stp z n i G (answered z s m):=by
 unfold answered;split
 ·exact Stp.of hg h (λm hm=>by cases hm)
 ·rename_i hy;simp only [bG,bL,bX,not_or,ne_eq,dN,eR,bC,Int.not_lt] at hy;obtain ⟨⟨⟨⟨hl,hy2⟩,hy3⟩,hy4⟩,hy5⟩:=hy;obtain ⟨f,hfn,hfe,_,_,_,h1⟩:=hm.f;have hw:m.frm.toNat=f:=by omega
  have hfi:f≠i:=λe=>hf (by rw [hfe,e]);obtain ⟨d1,d2⟩:=h.lds hl;have hmat:∀j,j<n->j≠i->s.mat.getD j 0<=s.log.length:=λj hj hji=>by
   by_cases h0:s.mat.getD j 0=0
   ·omega
   ·have:=(hg.ack _ _ _ (h.mat hl j hj hji h0)).2.2;rw [d2];exact this
  simp only;rw [hw];split
  ·split
   ·exact Stp.of hg h (λm hm=>by cases hm)
   ·rename_i hN1 hnx;have h2:NI z n G i { s with next:=s.next.set f (max (m.N.getD 2 0).toNat (s.mat.getD f 0))}:=by
     refine ⟨h.ib,h.own,h.nn,h.vl,h.ml,h.t0,h.ok,h.top,h.Vf,h.ch,h.ledt,h.lds,h.own2,h.vts,h.mat,λ_ j=>?_,h.ag,h.ackF,h.many,h.bad⟩;show (s.next.set f _).getD j 0<=s.log.length;by_cases hjf:j=f
     ·grind
     ·rw [aF,List.getElem?_set_ne (by omega),<-aF];exact h.next hl j
    refine Stp.of hg h2 (λx hx=>?_);rw [aj.1 hx];exact lO h2 hl f
  ·rename_i hN1;split
   ·exact Stp.of hg h (λm hm=>by cases hm)
   ·rename_i hkm;have hak:=h1 hk hy3 hN1 hy4;rw [hy2] at hak;have h2:NI z n G i { s with mat:=s.mat.set f (m.N.getD 2 0).toNat,next:=s.next.set f (max (m.N.getD 2 0).toNat (s.next.getD f 0))}:=by
     refine ⟨h.ib,h.own,h.nn,h.vl,by show (s.mat.set _ _).length=n;rw [dU];exact h.ml,h.t0,h.ok,h.top,h.Vf,h.ch,h.ledt,h.lds,h.own2,h.vts,λ_ j hj hji h3=>?_,λ_ j=>?_,h.ag,h.ackF,h.many,h.bad⟩
     ·have h3:(s.mat.set f (m.N.getD 2 0).toNat).getD j 0≠0:=h3;show G.ack j s.term ((s.mat.set f (m.N.getD 2 0).toNat).getD j 0);by_cases hjf:j=f
      ·grind
      ·grind [h.mat]
     ·show (s.next.set f _).getD j 0<=s.log.length;by_cases hjf:j=f
      ·subst hjf;rw [aF];by_cases hlt:j<s.next.length
       ·rw [List.getElem?_set_self hlt];have:=h.next hl j;show max _ _<=_;omega
       ·grind
      ·rw [aF,List.getElem?_set_ne (by omega),<-aF];exact h.next hl j
    have h3:=h2.settle hg hl;obtain ⟨_,_,s3,_⟩:=jq (z:=z) (s:={ s with mat:=s.mat.set f (m.N.getD 2 0).toNat,next:=s.next.set f (max (m.N.getD 2 0).toNat (s.next.getD f 0))});have hl3:=s3.trans hl;split
    ·exact Stp.of hg h3 (jc h3 hl3)
    ·grind [Stp.of,aj.1,lO]
end
section
variable {ρ:Type} {z:ρ->Bool} {e:ρ}
variable {n i:Nat} {G G' G'':Gh ρ} {t t':Int} {l l' Lt:Lg ρ} {a a' k p q r:Nat} {s s':Nd ρ} {m:Ms ρ}
theorem pu (h:q<Lt.length) (r:Nat):(Lt.drop q).take (r+1)=Lt[q]::(Lt.drop (q+1)).take r:=by
 rw [dK h,List.take_succ_cons]
theorem oP (h:q<Lt.length):Lt.take q++[Lt[q]]=Lt.take (q+1):=by
 simp_all
theorem iC (h:q<Lt.length):bF Lt (q+1)=Lt[q].1:=tL Lt q h
theorem Bk (hp:∀k,k<Lt.length->1<=bF Lt (k+1)/\bF Lt (k+1)<=t) (p:Nat):∀(r j:Nat) (s:Nd ρ),s.term=t->s.log=Lt.take (p+j)->s.agreed<=p+j->p+j+r<=Lt.length ->
  ∃c,bE p ((Lt.drop (p+j)).take r) j s=(true,{ s with log:=Lt.take (p+j+r),cnt:=c }):=by
 intro r;induction r with
 | zero =>
  intro j s ht hl ha hr;exact ⟨s.cnt,by rw [List.take_zero,fL,<-hl];rfl⟩
 | succ r ih =>
  intro j s ht hl ha hr;have hq:p+j<Lt.length:=by omega
  have h1:=hp _ hq;rw [iC hq] at h1;have hlen:s.log.length=p+j:=by rw [hl,aI];omega
  rw [pu hq];have e0:Lt[p+j]=(Lt[p+j].1,Lt[p+j].2):=rfl;rw [e0];unfold bE;rw [aw (by omega),aw (by omega)];have hs:place s (p+j) (Lt[p+j].1,Lt[p+j].2)={ s with log:=Lt.take (p+(j+1)),cnt:=s.cnt+1 }:=by
   grind [place,cB,DM,oP]
  rw [hs];obtain ⟨c,hc⟩:=ih (j+1) { s with log:=Lt.take (p+(j+1)),cnt:=s.cnt+1 } ht rfl (by show s.agreed<=_;omega) (by omega);exact ⟨c,by rw [show p+j+1=p+(j+1) from rfl,hc,show p+j+(r+1)=p+(j+1)+r by omega]⟩
theorem Bl {L:Int->Lg ρ} (hok:OkL L Lt) (hp:∀k,k<Lt.length->bF Lt (k+1)<=t) (p:Nat):∀(r j:Nat) (s:Nd ρ),s.term=t->OkL L s.log->s.log.take (p+j)=Lt.take (p+j)->p+j<=s.log.length->s.agreed<=s.log.length->s.log.take s.agreed=Lt.take s.agreed->p+j+r<=Lt.length ->
  ∃c lg,bE p ((Lt.drop (p+j)).take r) j s=(true,{ s with log:=lg,cnt:=c }) /\
   ((lg=s.log/\s.log.take (p+j+r)=Lt.take (p+j+r)/\p+j+r<=s.log.length) \/
    (lg=Lt.take (p+j+r)/\∃c,c<p+j+r/\s.agreed<=c/\(s.log.length<=c\/bF s.log (c+1)≠bF Lt (c+1)))):=by
 intro r;induction r with
 | zero =>
  intro j s ht hs hl hj ha hal hr;exact ⟨s.cnt,s.log,rfl,.inl ⟨rfl,hl,hj⟩⟩
 | succ r ih =>
  intro j s ht hs hl hj ha hal hr;have hq:p+j<Lt.length:=by omega
  have h1:Lt[p+j].1<=t:=by have:=hp _ hq;rw [iC hq] at this;exact this
  have h0:1<=Lt[p+j].1:=by have:=hok.pos _ hq;rw [iC hq] at this;exact this
  rw [pu hq];have e0:Lt[p+j]=(Lt[p+j].1,Lt[p+j].2):=rfl;rw [e0];unfold bE;by_cases hc:p+j<s.log.length/\bF s.log (p+j+1)=Lt[p+j].1
  ·rw [aA hc];have hsame:=hs.same hok (k:=p+j+1) (by omega) (by omega) (by rw [hc.2,iC hq]);obtain ⟨c,lg,h2,h3⟩:=ih (j+1) s ht hs hsame (by omega) ha hal (by omega);refine ⟨c,lg,h2,?_⟩;rw [show p+j+(r+1)=p+(j+1)+r by omega];exact h3
  ·rw [aw hc];have hag:s.agreed<=p+j:=by
     grind [zl,iC]
   rw [aw (by omega)];have hpl:place s (p+j) (Lt[p+j].1,Lt[p+j].2)={ s with log:=Lt.take (p+(j+1)),cnt:=s.cnt+1 }:=by
     unfold place;rw [hl,oP hq];rfl
   rw [hpl];obtain ⟨c,h2⟩:=Bk (t:=t) (λk hk=>⟨hok.pos k hk,hp k hk⟩) p r (j+1) { s with log:=Lt.take (p+(j+1)),cnt:=s.cnt+1 } ht rfl (by show s.agreed<=_;omega) (by omega);refine ⟨c,Lt.take (p+(j+1)+r),h2,.inr ⟨by rw [show p+(j+1)+r=p+j+(r+1) by omega],p+j,by omega,hag,?_⟩⟩;by_cases h3:p+j<s.log.length
   · grind [iC]
   · exact .inl (by omega)
def Gh.got (G:Gh ρ) (i:Nat) (t:Int) (r:Nat):Gh ρ:={ G with ack:=λj u k=>G.ack j u k\/(j=i/\u=t/\k<=r)}
theorem CD:By i G (G.got i t r) :=
 ⟨⟨λ_ _ e=>⟨e,rfl⟩,λ_=>dZ _,λ_ _ _ e=>.inl e,λ_ _ _ e=>e⟩,λ_ _ _ e=>⟨e,rfl⟩,λ_ _ _=>rfl,λj u k hj e=>by
  rcases e with e | e
  ·exact e
  ·exact absurd e.1 hj⟩
theorem NI.got {f:Nat} {lg:Lg ρ} (hg:GI n G) (h:NI z n G i s) (hl:G.led s.term=some f) (hf:f≠i) (hr:r<=(G.L s.term).length) (c:Nat)
  (hlg:(lg=s.log/\s.log.take r=(G.L s.term).take r/\r<=s.log.length)\/(lg=(G.L s.term).take r/\∃c,c<r/\s.agreed<=c/\(s.log.length<=c\/bF s.log (c+1)≠bF (G.L s.term) (c+1))))
  (hal:s.log.take s.agreed=(G.L s.term).take s.agreed):By i G (G.got i s.term r)/\GI n (G.got i s.term r)/\NI z n (G.got i s.term r) i { s with log:=lg,cnt:=c }/\r<=lg.length/\lg.take r=(G.L s.term).take r:=by
 have hby:=CD (G:=G) (i:=i) (t:=s.term) (r:=r);have hle:=hby.le;have hln:G.led s.term≠none:=by rw [hl];simp
 have hrl:r<=lg.length/\lg.take r=(G.L s.term).take r:=by
  grind
 have hnl:s.leads=false:=by
  cases e:s.leads with
  | false=>rfl
  | true =>
   have:=(h.lds e).1;rw [hl] at this;simp only [bW] at this;exact absurd this hf
 have hall:s.agreed<=lg.length/\lg.take s.agreed=s.log.take s.agreed:=by
  rcases hlg with ⟨rfl,h1,h2⟩ | ⟨rfl,c,c1,c2,_⟩
  ·exact ⟨h.ag.1,rfl⟩
  ·grind
 have hkeep:∀(P:Lg ρ),P <+: s.log->P <+: G.L s.term->P <+: lg:=λP h1 h2=>by
  rcases hlg with ⟨rfl,_⟩ | ⟨rfl,c,c1,c2,c3⟩
  ·exact h1
  ·have hP:P.length<=r:=by
    apply Classical.byContradiction;intro hn;have hl1:=h1.length_le;rcases c3 with c3 | c3
    ·omega
    ·exact c3 (by rw [<-fF h1 (by omega),<-fF h2 (by omega)])
   rw [List.prefix_iff_eq_take] at h2 ⊢;rw [cB,bi hP];exact h2
 refine ⟨hby,⟨hg.led,hg.quo,λu j e=>⟨.inl (hg.self u j e).1,(hg.self u j e).2⟩,hg.pre,hg.top,hg.none_,hg.ok,hg.V,hg.utd,hg.late,λj u k e=>?_,λj u k k' e hk=>?_,λj u k u2 c2 l2 e1 e2 hu=>?_⟩,⟨h.ib,h.own,h.nn,h.vl,h.ml,h.t0,?_,?_,h.Vf,h.ch,h.ledt,λe=>?_,λl b e=>⟨λe1=>absurd e1 hln,λe1=>?_⟩,h.vts,λe=>?_,λe=>?_,?_,λu k e=>?_,?_,h.bad⟩,hrl⟩
 ·rcases e with e | ⟨rfl,rfl,e⟩
  ·exact hg.ack j u k e
  ·exact ⟨h.ib,hln,by show k<=(G.L s.term).length;omega⟩
 ·rcases e with e | ⟨rfl,rfl,e⟩
  ·exact .inl (hg.dn j u k k' e hk)
  ·exact .inr ⟨rfl,rfl,by omega⟩
 ·rcases e1 with e | ⟨rfl,rfl,e⟩
  ·exact hg.ackV j u k u2 c2 l2 e e2 hu
  ·have e2:G.V j u2=some (c2,l2,false):=e2;rw [h.Vf u2 hu] at e2;cases e2
 ·rcases hlg with ⟨rfl,_⟩ | ⟨rfl,_⟩
  ·exact h.ok
  ·exact (hg.ok _).take _
 ·show bF lg lg.length<=s.term;rcases hlg with ⟨rfl,_⟩ | ⟨rfl,c,c1,_⟩
  ·exact h.top
  ·rw [en (by rw [aI];omega) hr];rcases hg.top s.term with h1 | h1
   ·exact fO ((hg.ok s.term).up _ _ (by rw [aI];omega) (ah _)) h1
   ·rw [h1] at hr;simp at hr;omega
 ·grind
 ·have e1:G.led s.term=some i:=e1;rw [hl] at e1;simp only [bW] at e1;exact absurd e1 hf
 ·grind
 ·grind
 ·exact (h.ag.mono hle (aX _)).log hall.1 hall.2
 ·rcases e with e | ⟨_,rfl,e⟩
  ·obtain ⟨h1,h2⟩:=h.ackF u k e;refine ⟨h1,?_⟩;show (G.L u).take k <+: lg\/∃v,u<v/\v<=s.term/\G.led v≠none/\¬(G.L u).take k <+: G.C v;rcases h2 with h2 | h2
   ·by_cases hut:u=s.term
    ·grind
    ·by_cases hc:(G.L u).take k <+: G.C s.term
     ·exact .inl (hkeep _ h2 (hc.trans (hg.pre _ hln).1))
     ·grind
   ·exact .inr h2
  ·refine ⟨aX _,.inl ?_⟩;show (G.L s.term).take k <+: lg;rw [<-iQ hrl.2 e];exact mx _ _
 ·show s.many=(recs z (lg.take s.agreed)).length;rw [hall.2];exact h.many
theorem Bi (hg:GI n G) (h:NI z n G i s) (hm:MI n G m) (hk:m.kind=3) (hf:m.frm≠(i:Int)) (ht:m.N.getD 0 0<=s.term):Stp z n i G (lays z s m):=by
 unfold lays;split
 ·exact Stp.of hg h (λm hm=>by cases hm)
 ·split
  ·grind [Stp.of,aj.1,pP]
  ·rename_i hlt;obtain ⟨f,hfn,hfe,_,_,h1,_⟩:=hm.f;obtain ⟨e1,p,a,e2,e3,e4,e5,e6,e7,e8⟩:=h1 hk;have hfi:f≠i:=λe=>hf (by rw [hfe,e]);have hT:m.N.getD 0 0=s.term:=by omega
   rw [hT] at e1 e3 e5 e7 e8;have hs1:NI z n G i { s with ticks:=0 }:=h.tc 0 s.clock s.cnt s.heard;simp only;split
   ·rename_i hfit;unfold zX at hfit;simp only [bA,bC,ez] at hfit;rw [e2] at hfit ⊢;obtain ⟨f1,f2⟩:=hfit;have f1:p<=s.log.length:=by have f1:(p:Int)<=(s.log.length:Int):=f1;omega
    have f2:bF s.log p=bF (G.L s.term) p:=by rw [<-e3];exact f2
    have hpp:=h.ok.same (hg.ok s.term) f1 (by omega) f2;have hal:s.log.take s.agreed=(G.L s.term).take s.agreed:=by
     rcases h.ag.2 with h2 | ⟨u,k,k1,k2,k3,k4⟩
     ·rw [h2];simp
     ·rw [k4];exact (iQ (hg.later k1 k2 (by rw [e1];simp)) k3).symm
    have htop:∀k,k<(G.L s.term).length->bF (G.L s.term) (k+1)<=s.term:=λk hk=>by
     rcases hg.top s.term with h2 | h2
     ·exact fO ((hg.ok s.term).up _ _ (by omega) (ah _)) h2
     ·rw [h2] at hk;simp at hk
    have hpn:((p:Int)).toNat=p:=by omega
    rw [hpn,e7];obtain ⟨c,lg,c1,c2⟩:=Bl (hg.ok s.term) htop p m.B.length 0 { s with ticks:=0 } rfl h.ok hpp f1 h.ag.1 hal e5;rw [fL] at c1 c2;rw [c1];simp only [if_true];obtain ⟨g1,g2,g3,g4,g5⟩:=hs1.got (r:=p+m.B.length) hg e1 hfi e5 c c2 hal;have hmin:(min (m.N.getD 3 0) ((p+m.B.length:Nat):Int)).toNat=min a (p+m.B.length):=by rw [e4];omega
    rw [hmin];have hagd:Agd n (G.got i s.term (p+m.B.length)) s.term lg (min a (p+m.B.length)):=by
     refine ((e8.mono g1.le (aX _)).less (Nat.min_le_left _ _)).log (aD (Nat.min_le_right _ _) g4) ?_;exact iQ g5 (Nat.min_le_right _ _)
    have g6:=g3.agree hagd;obtain ⟨a1,a2,_⟩:=gT (z:=z) (s:={ s with ticks:=0,log:=lg,cnt:=c }) (min a (p+m.B.length));refine ⟨_,g1,g2,g6,λx hx=>?_⟩;rw [aj.1 hx];refine ⟨i,h.ib,?_,λk=>(by cases k),λk=>(by cases k),λk=>(by cases k),λ_ _ _ _=>?_⟩
    ·show (((X.agree z { s with ticks:=0,log:=lg,cnt:=c } (min a (p+m.B.length))).own:Nat):Int)=_;rw [g6.own]
    ·show (G.got i s.term (p+m.B.length)).ack i (X.agree z { s with ticks:=0,log:=lg,cnt:=c } (min a (p+m.B.length))).term _;rw [a2];refine .inr ⟨rfl,rfl,?_⟩;show (((p+m.B.length:Nat):Int)).toNat<=_;omega
   ·refine Stp.of hg hs1 (λx hx=>?_);rw [aj.1 hx];exact pP hs1 _ _ _ (by decide) (.inl (by decide)) (by decide) (.inr rfl)
theorem rV (hg:GI n G) (h:NI z n G i s) (hm:MI n G m) (hd:m.dst=(i:Int)) (hf:m.frm≠(i:Int)) (ht:m.N.getD 0 0<=s.term):Stp z n i G (getIn z e s m):=by
 unfold getIn;split
 ·rename_i hk;exact Ai hg h hm hk hf
 ·split
  ·rename_i hk;exact x9 hg h hm hk hd
  ·split
   ·rename_i hk;exact Bi hg h hm hk hf ht
   ·split
    ·rename_i hk;exact sB hg h hm hk hf
    ·split
     ·split
      ·exact Stp.of hg (h.tc s.ticks s.clock s.cnt _) (λm hm=>by cases hm)
      ·exact Stp.of hg h (λm hm=>by cases hm)
     ·exact Stp.of hg h (λm hm=>by cases hm)
theorem CJ (hg:GI n G) (h:NI z n G i s) (hm:MI n G m):Stp z n i G (get z e s m):=by
 unfold get;split
 ·exact Stp.of hg h (λm hm=>by cases hm)
 ·rename_i hb;unfold oE at hb;simp only [bG,bL,bX,ez,not_or,ne_eq,dN,bC] at hb;obtain ⟨⟨⟨⟨⟨⟨b1,b2⟩,b3⟩,b4⟩,b5⟩,b6⟩,b7⟩:=hb;rw [h.own] at b1 b2;split
  ·rename_i ht;exact rV hg (h.enter ht) hm b1 b2 (aX _)
  ·exact rV hg h hm b1 b2 (by omega)
end
section
variable {ρ:Type} {z:ρ->Bool} {e:ρ}
variable {n i:Nat} {s s':Nd ρ} {m:Ms ρ}
theorem gK (s:Nd ρ) (f:Nat->Ms ρ) (h:s.own<s.n):(dz s f).length+1<=s.n:=by
 unfold dz;rw [aP];have h1:∀k,s.own<k->((List.range k).filter λi=>i != s.own).length+1<=k:=by
  intro k;induction k with
  | zero=>intro h;omega
  | succ k ih =>
   intro hk;rw [dT,cT,ay];by_cases e:k=s.own
   ·grind
   ·grind
 exact h1 _ h
theorem mh (s:Nd ρ) (f:Nat->Ms ρ) (d:Nat) (h1:d<s.n) (h2:d≠s.own):f d∈dz s f:=by
 grind [dz,cF.2,ol.2,cW.2]
theorem eW:(X.settle z s).2.own=s.own/\(X.settle z s).2.n=s.n/\(X.settle z s).2.clock=s.clock/\(X.settle z s).2.ticks=s.ticks/\(X.settle z s).2.leads=s.leads/\(X.settle z s).2.term=s.term/\(X.settle z s).2.choice=s.choice/\(X.settle z s).2.log=s.log/\(X.settle z s).2.next=s.next/\(X.settle z s).2.heard=s.heard/\(X.settle z s).2.votes=s.votes/\(X.settle z s).2.cnt=s.cnt/\(X.settle z s).2.mat=s.mat.set s.own s.log.length:=by
 unfold X.settle X.agree;split
 ·grind
 ·grind
structure Leads (s:Nd ρ) (r:List (Ms ρ)×Nd ρ):Prop where
 own:r.2.own=s.own
 n:r.2.n=s.n
 clock:r.2.clock=s.clock
 term:r.2.term=s.term
 ticks:r.2.ticks=s.ticks
 leads:r.2.leads=true
 heard:r.2.heard=s.heard
 len:r.2.log.length=s.log.length+1
 cnt:r.2.cnt=s.cnt+1
 ms:r.1=dz r.2 (cO r.2)
theorem ie (s:Nd ρ):Leads s (lead z e s):=by
 obtain ⟨h1,h2,h3,h4,h5,h6,h7,h8,h9,h10,h11,h12,h13⟩:=eW (z:=z) (s:=place { s with leads:=true,next:=List.replicate s.n s.log.length,mat:=List.replicate s.n 0 } s.log.length (s.term,e));refine ⟨h1,h2,h3,h6,h4,h5,h10,?_,h12,rfl⟩;show (X.settle z _).2.log.length=_;rw [h8];show (s.log.take s.log.length++[(s.term,e)]).length=_;simp
structure Got (s:Nd ρ) (m:Ms ρ) (r:List (Ms ρ)×Nd ρ):Prop where
 own:r.2.own=s.own
 n:r.2.n=s.n
 clock:r.2.clock=s.clock
 up:s.term<=r.2.term
 top:r.2.term<=max s.term (m.N.getD 0 0)
 reach:m.N.getD 0 0<=r.2.term
 leads:r.2.leads=true->(s.leads=true/\r.2.term=s.term)\/(m.kind=2/\m.N.getD 0 0=s.term/\r.2.term=s.term/\m.N.getD 1 0=1/\s.leads=false)
 keeps:s.leads=true->r.2.term=s.term->r.2.leads=true
 out:∀x∈r.1,x.frm=(s.own:Int)/\x.N.getD 0 0=r.2.term/\2<=x.N.length /\
  ((m.kind=1/\x.kind=2/\x.dst=m.frm)\/(m.kind=2/\x.kind=3)\/(m.kind=3/\x.kind=4/\x.dst=m.frm)\/(m.kind=4/\x.kind=3))/\(x.kind=3->r.2.leads=true)
 num:r.1.length<=1\/((m.kind=2\/m.kind=4)/\r.1.length+1<=s.n)
 ticks:r.2.ticks=s.ticks\/r.2.ticks=0
theorem nX (t:Int) (h:s.term<t):(enter s t (-1)).leads=false:=by
 show (s.leads && !decide (s.term<t))=false;simp [h]
theorem Got.of {ms:List (Ms ρ)} {s1:Nd ρ} (hN:m.N.getD 0 0<=s.term) (h1:s1.own=s.own) (h2:s1.n=s.n) (h3:s1.clock=s.clock) (h4:s1.term=s.term) (h5:s1.leads=true->s.leads=true\/(m.kind=2/\m.N.getD 0 0=s.term/\m.N.getD 1 0=1/\s.leads=false)) (h6:s.leads=true->s1.leads=true)
  (h7:∀x∈ms,x.frm=(s.own:Int)/\x.N.getD 0 0=s1.term/\2<=x.N.length/\((m.kind=1/\x.kind=2/\x.dst=m.frm)\/(m.kind=2/\x.kind=3)\/(m.kind=3/\x.kind=4/\x.dst=m.frm)\/(m.kind=4/\x.kind=3))/\(x.kind=3->s1.leads=true))
  (h8:ms.length<=1\/((m.kind=2\/m.kind=4)/\ms.length+1<=s.n)) (h9:s1.ticks=s.ticks\/s1.ticks=0):Got s m (ms,s1) :=
 ⟨h1,h2,h3,by show s.term<=s1.term;omega,by show s1.term<=_;omega,by show _<=s1.term;omega,λh=>by
  rcases h5 h with g | ⟨g1,g2,g3,g4⟩
  ·exact .inl ⟨g,h4⟩
  ·exact .inr ⟨g1,g2,h4,g3,g4⟩,λh _=>h6 h,h7,h8,h9⟩
theorem xf (hN:m.N.getD 0 0<=s.term) (hk:m.kind=1):Got s m (asked s m):=by
 have hnil:Got s m ([],s):=Got.of hN rfl rfl rfl rfl .inl id (λx hx=>by cases hx) (.inl (by simp)) (.inl rfl);have hkeep:∀(s1:Nd ρ) (v:Int),s1.own=s.own->s1.n=s.n->s1.clock=s.clock->s1.term=s.term->(s1.leads=s.leads)->(s1.ticks=s.ticks\/s1.ticks=0)->Got s m ([say s1 m.frm 2 [s1.term,v]],s1):=λs1 v h1 h2 h3 h4 h5 h6=>by
  refine Got.of hN h1 h2 h3 h4 (λh=>.inl (h5 ▸ h)) (λh=>h5 ▸ h) (λx hx=>?_) (.inl (by simp)) h6;rw [aj.1 hx];exact ⟨by show ((s1.own:Nat):Int)=_;rw [h1],rfl,by show 2<=2;omega,.inl ⟨hk,rfl,rfl⟩,λe=>(by cases e)⟩
 unfold asked;split
 ·simp only;split
  ·split
   ·exact hkeep _ _ rfl rfl rfl rfl (by show (s.leads && !decide (s.term<s.term))=_;simp) (.inr rfl)
   ·simp_all
  ·grind
 ·exact hnil
theorem vg (ho:s.own<s.n) (hN:m.N.getD 0 0<=s.term) (hk:m.kind=2):Got s m (voted z e s m):=by
 unfold voted;split
 ·exact Got.of hN rfl rfl rfl rfl .inl id (λx hx=>by cases hx) (.inl (by simp)) (.inl rfl)
 ·rename_i hy;simp only [bG,bL,bX,not_or,ne_eq,dN,xu] at hy;obtain ⟨⟨⟨hy1,hy2⟩,hy3⟩,hy4⟩:=hy;simp only;split
  ·have h:=ie (z:=z) (e:=e) { s with votes:=s.votes.set m.frm.toNat true };refine Got.of (s1:=(lead z e { s with votes:=s.votes.set m.frm.toNat true }).2) (ms:=(lead z e { s with votes:=s.votes.set m.frm.toNat true }).1) hN h.own h.n h.clock h.term (λ_=>.inr ⟨hk,hy2,hy4,hy1⟩) (λ_=>h.leads) (λx hx=>?_) (.inr ⟨.inl hk,?_⟩) (.inl h.ticks)
   ·grind [dp,lead,cO,h.ms,h.own,h.leads]
   ·rw [h.ms];have:=gK (lead z e { s with votes:=s.votes.set m.frm.toNat true }).2 (cO (lead z e { s with votes:=s.votes.set m.frm.toNat true }).2) (by rw [h.own,h.n];exact ho);rw [h.n] at this;exact this
  ·grind [Got.of]
theorem nF (p:Nat) (l:List (Int×ρ)):∀(j:Nat) (s:Nd ρ),(bE p l j s).2.own=s.own/\(bE p l j s).2.n=s.n/\(bE p l j s).2.clock=s.clock/\(bE p l j s).2.term=s.term/\(bE p l j s).2.leads=s.leads/\(bE p l j s).2.ticks=s.ticks/\(bE p l j s).2.cnt<=s.cnt+l.length/\(bE p l j s).2.heard=s.heard:=by
 induction l with
 | nil=>intro j s;exact ⟨rfl,rfl,rfl,rfl,rfl,rfl,ah _,rfl⟩
 | cons x l ih =>
  intro j s;obtain ⟨t,rec⟩:=x;unfold bE;split
  ·grind
  ·split
   ·grind
   ·grind [place,aY]
theorem oh (s:Nd ρ) (k:Nat):(X.agree z s k).own=s.own/\(X.agree z s k).n=s.n/\(X.agree z s k).clock=s.clock/\(X.agree z s k).term=s.term/\(X.agree z s k).leads=s.leads/\(X.agree z s k).ticks=s.ticks/\(X.agree z s k).cnt=s.cnt/\(X.agree z s k).heard=s.heard:=by
 unfold X.agree;split<;>exact ⟨rfl,rfl,rfl,rfl,rfl,rfl,rfl,rfl⟩
theorem zg (hN:m.N.getD 0 0<=s.term) (hk:m.kind=3):Got s m (lays z s m):=by
 have hkeep:∀(s1:Nd ρ) (a b:Int),s1.own=s.own->s1.n=s.n->s1.clock=s.clock->s1.term=s.term->(s1.leads=s.leads)->(s1.ticks=s.ticks\/s1.ticks=0)->Got s m ([say s1 m.frm 4 [s1.term,a,b]],s1):=λs1 a b h1 h2 h3 h4 h5 h6=>by
  refine Got.of hN h1 h2 h3 h4 (λh=>.inl (h5 ▸ h)) (λh=>h5 ▸ h) (λx hx=>?_) (.inl (by simp)) h6;rw [aj.1 hx];exact ⟨by show ((s1.own:Nat):Int)=_;rw [h1],rfl,by show 2<=3;omega,.inr (.inr (.inl ⟨hk,rfl,rfl⟩)),λe=>(by cases e)⟩
 have hnil:∀(s1:Nd ρ),s1.own=s.own->s1.n=s.n->s1.clock=s.clock->s1.term=s.term->(s1.leads=s.leads)->(s1.ticks=s.ticks\/s1.ticks=0)->Got s m ([],s1):=λs1 h1 h2 h3 h4 h5 h6=>Got.of hN h1 h2 h3 h4 (λh=>.inl (h5 ▸ h)) (λh=>h5 ▸ h) (λx hx=>by cases hx) (.inl (by simp)) h6;unfold lays;split
 ·exact hnil s rfl rfl rfl rfl rfl (.inl rfl)
 ·split
  ·grind
  ·simp only;split
   ·grind [nF,bE,oh]
   ·simp_all
theorem qo (ho:s.own<s.n) (hN:m.N.getD 0 0<=s.term) (hk:m.kind=4):Got s m (answered z s m):=by
 have hnil:Got s m ([],s):=Got.of hN rfl rfl rfl rfl .inl id (λx hx=>by cases hx) (.inl (by simp)) (.inl rfl);unfold answered;split
 ·exact hnil
 ·rename_i hy;simp only [bG,bL,bX,not_or,ne_eq,dN,eR,bC,Int.not_lt] at hy;obtain ⟨⟨⟨⟨hl,hy2⟩,hy3⟩,hy4⟩,hy5⟩:=hy;have hone:∀(s1:Nd ρ) (ms:List (Ms ρ)),s1.own=s.own->s1.n=s.n->s1.clock=s.clock->s1.term=s.term->s1.leads=true->s1.ticks=s.ticks->(ms.length<=1\/ms.length+1<=s.n)->(∀x∈ms,∃d,x=cO s1 d)->Got s m (ms,s1):=λs1 ms h1 h2 h3 h4 h5 h6 h7 h8=>by
   grind [Got.of,cO]
  simp only;split
  ·grind
  ·grind [eW,gK,cO,dp,aj.1]
theorem pq (ho:s.own<s.n) (hN:m.N.getD 0 0<=s.term):Got s m (getIn z e s m):=by
 have hnil:∀(hh:List (Int×Int×Int)),Got s m ([],{ s with heard:=hh }):=λhh=>Got.of hN rfl rfl rfl rfl .inl id (λx hx=>by cases hx) (.inl (by simp)) (.inl rfl);unfold getIn;split
 ·rename_i hk;exact xf hN hk
 ·split
  ·rename_i hk;exact vg ho hN hk
  ·split
   ·rename_i hk;exact zg hN hk
   ·split
    ·rename_i hk;exact qo ho hN hk
    ·split
     ·split
      ·exact hnil _
      ·exact hnil s.heard
     ·exact hnil s.heard
structure Fit (i n:Nat) (m:Ms ρ):Prop where
 dst:m.dst=(i:Int)
 f:∃f:Nat,f<n/\m.frm=(f:Int)/\f≠i
 len:2<=m.N.length
 t1:1<=m.N.getD 0 0
 t2:m.N.getD 0 0<=1099511627776
theorem Fit.ok (h:Fit i n m) (ho:s.own=i) (hn:s.n=n):oE s m=false:=by
 grind [oE,eL,qC,h.f,h.len,h.t1,h.t2,h.dst]
theorem BD (hi:s.own=i) (hn:s.n=n) (hin:i<n) (hf:Fit i n m):Got s m (get z e s m):=by
 unfold get;rw [hf.ok hi hn];simp only [fo,if_false];split
 ·rename_i ht;have h:Got (enter s (m.N.getD 0 0) (-1)) m (getIn z e (enter s (m.N.getD 0 0) (-1)) m):=pq (by show s.own<s.n;omega) (aX _);have e1:(enter s (m.N.getD 0 0) (-1)).term=m.N.getD 0 0:=rfl;have h1:=h.up;have h2:=h.top;refine ⟨h.own,h.n,h.clock,by omega,by omega,h.reach,λhl=>?_,λ_ hl=>by omega,h.out,h.num,h.ticks⟩;rcases h.leads hl with ⟨h3,_⟩ | ⟨h3,h4,h5,h6,h7⟩
  ·rw [nX _ ht] at h3;cases h3
  ·exfalso;have hc:(enter s (m.N.getD 0 0) (-1)).choice = -1:=rfl;have hv:(getIn z e (enter s (m.N.getD 0 0) (-1)) m)=voted z e (enter s (m.N.getD 0 0) (-1)) m:=by
    grind [getIn]
   rw [hv] at hl;unfold voted at hl;rw [aA (by
    rw [hc];simp only [bG,bL,bX];exact .inl (.inr (by omega)))] at hl
   rw [nX _ ht] at hl;cases hl
 ·exact pq (by omega) (by omega)
end
end Go.Proofs.YtnhefallmioefaaGreat.X
