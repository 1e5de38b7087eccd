/-
  What the proof of the law leans on: contracts of the program's functions, one behind another. No condition.
-/
import Derived.Test.YtnicaicjgaoolaaU0
import Derived.Test.YtnicaicjgaoolaaPRepLeadsL9
set_option linter.unusedVariables false
set_option linter.unusedSimpArgs false
namespace Go.Proofs.Ytnicaicjgaoolaa.X
set_option maxRecDepth 20000
section
variable {ρ:Type} {z:ρ->Bool} {e:ρ}
variable {n i F l len:Nat} {b b' M T:Int} {S S' S0 S1 S2 S3:Cs ρ} {G:Gh ρ} {m:Ms ρ} {s s':Nd ρ} {r:List (Ms ρ)×Nd ρ} {ms q:List (Ms ρ)} {Λ:Nat}
def bN (i:Nat) (q:List (Ms ρ)):Nat:=((q.filter λx=>x.dst==(i:Int)&&x.kind==3).map λx=>x.B.length).sum
theorem kP:bN i ([]:List (Ms ρ))=0:=rfl
theorem iw (a c:List (Ms ρ)):bN i (a++c)=bN i a+bN i c:=by unfold bN;rw [cC,bW,List.sum_append]
theorem j9 (x:Ms ρ) (c:List (Ms ρ)):bN i (x::c)=(if x.dst=(i:Int)/\x.kind=3 then x.B.length else 0)+bN i c:=by
 grind [bN,fw]
theorem jT (q:List (Ms ρ)) (h:∀x∈q,x.kind≠3):bN i q=0:=by
 induction q with
 | nil=>rfl
 | cons x q ih =>
  rw [j9,aw (λg=>h x aP g.2),ih λy hy=>h y (aI _ hy)]
theorem lW (s:Nd ρ) (d:Nat):(bI s d).B.length<=20:=by rw [(fM s d).2.2.2.2.2.2];omega
theorem mj (s:Nd ρ) (i:Nat):bN i (cT s (bI s))<=20:=by
 unfold cT;have key:∀k,(bN i (((List.range k).filter λj=>j != s.own).map (bI s))<=if i<k then 20 else 0):=by
  intro k;induction k with
  | zero=>exact aA _
  | succ k ih =>
   rw [cE,cC,bW,iw];have h1:bN i (([k].filter λj=>j != s.own).map (bI s))<=if i=k then 20 else 0:=by
    by_cases hk:(k != s.own)=true
    ·rw [show [k].filter (λj=>j != s.own)=[k] by simp [hk]];show bN i [bI s k]<=_;rw [j9,kP];by_cases e1:i=k
     ·grind [lW]
     ·rw [aw e1,aw (λg=>e1 (by have:((k:Nat):Int)=(i:Int):=g.1;omega))];exact ah _
    ·rw [show [k].filter (λj=>j != s.own)=[] by simp [hk]];exact aA _
   by_cases e1:i<k
   ·grind
   ·grind
 have:=key s.n;split at this<;>omega
theorem Ar (s:Nd ρ) (d:Nat):bN i [bI s d]<=20:=by
 grind [j9,kP,lW]
theorem tQ (i:Nat):bN i (X.get z e s m).1<=20/\(m.kind=2->bN i (X.get z e s m).1≠0->¬Zz s/\Zz (X.get z e s m).2)/\∀x∈(X.get z e s m).1,x.B.length<=20:=by
 have hs:∀(s1:Nd ρ) (d k:Int) (N:List Int),k≠3->bN i [od s1 d k N]=0:=λs1 d k N hk=>jT _ λx hx=>by rw [aj.1 hx];exact hk
 have hsB:∀(s1:Nd ρ) (d k:Int) (N:List Int),∀x∈[od s1 d k N],x.B.length<=20:=λs1 d k N x hx=>by rw [aj.1 hx];exact aA _
 have hoB:∀s1:Nd ρ,∀x∈cT s1 (bI s1),x.B.length<=20:=λs1 x hx=>by obtain ⟨d,_,_,rfl⟩:=cJ _ _ _ hx;exact lW s1 d
 have hlB:∀(s1:Nd ρ) (d:Nat),∀x∈[bI s1 d],x.B.length<=20:=λs1 d x hx=>by rw [aj.1 hx];exact lW s1 d
 have hnB:∀x∈([]:List (Ms ρ)),x.B.length<=20:=λx hx=>by cases hx
 have hin:∀s1:Nd ρ,bN i (getIn z e s1 m).1<=20/\(m.kind=2->bN i (getIn z e s1 m).1≠0->¬Zz s1/\Zz (getIn z e s1 m).2)/\∀x∈(getIn z e s1 m).1,x.B.length<=20:=λs1=>by
  unfold getIn;split
  ·rename_i hk;unfold asked;split
   ·grind
   ·exact ⟨aA _,λh=>by omega,hnB⟩
  ·split
   ·unfold voted;split
    ·exact ⟨aA _,λ_ h=>absurd rfl h,hnB⟩
    ·rename_i hy;simp only [aW,aV,be,not_or,ne_eq,da,i7] at hy;obtain ⟨⟨⟨hy1,hy2⟩,hy3⟩,hy4⟩:=hy;have hz:¬Zz s1:=λh=>by
      rcases h with h | h
      ·rw [hy1] at h;cases h
      ·exact h hy3
     simp only;split
     ·have h:=eC (z:=z) (e:=e) { s1 with votes:=s1.votes.set m.frm.toNat true };rw [h.ms];exact ⟨mj _ _,λ_ _=>⟨hz,.inl h.leads⟩,hoB _⟩
     ·exact ⟨aA _,λ_ h=>absurd rfl h,hnB⟩
   ·rename_i h1 h2;split
    ·unfold lays;split
     ·exact ⟨aA _,λh=>absurd h h2,hnB⟩
     ·split
      ·grind
      ·simp only;split
       ·split
        ·grind
        ·exact ⟨aA _,λh=>absurd h h2,hnB⟩
       ·grind
    ·split
     ·unfold answered;split
      ·exact ⟨aA _,λh=>absurd h h2,hnB⟩
      ·simp only;split
       ·split
        ·exact ⟨aA _,λh=>absurd h h2,hnB⟩
        ·grind [Ar]
       ·split
        ·exact ⟨aA _,λh=>absurd h h2,hnB⟩
        ·split
         ·grind [mj]
         ·split
          ·grind [Ar]
          ·exact ⟨aA _,λh=>absurd h h2,hnB⟩
     ·split
      ·split<;>exact ⟨aA _,λh=>absurd h h2,hnB⟩
      ·exact ⟨aA _,λh=>absurd h h2,hnB⟩
 unfold X.get;split
 ·exact ⟨aA _,λ_ h=>absurd rfl h,hnB⟩
 ·split
  ·rename_i ht;obtain ⟨a1,a2,a3⟩:=hin (enter s (m.N.getD 0 0) (-1));refine ⟨a1,λhk hne=>?_,a3⟩;exfalso;exact (a2 hk hne).1 (.inr (by show (-1:Int)≠(s.own:Int);omega))
  ·exact hin s
theorem uo (i:Nat) (ho:s.own<s.n) (ht:s.term<1099511627776):bN i (X.tick z e s).1<=(if s.leads=true then 20 else 0)/\∀x∈(X.tick z e s).1,x.B.length<=20:=by
 have ht5:∀(s1:Nd ρ) (k:Int),k≠3->bN i (cT s1 (bf s1 k))=0/\∀x∈cT s1 (bf s1 k),x.B.length<=20:=λs1 k hk =>
  ⟨jT _ λx hx=>by obtain ⟨d,_,_,rfl⟩:=cJ _ _ _ hx;exact hk,λx hx=>by obtain ⟨d,_,_,rfl⟩:=cJ _ _ _ hx;exact aA _⟩
 rcases dS (z:=z) (e:=e) s with ⟨h1,h2⟩ | ⟨h1,h2,h3,h4⟩ | ⟨h1,h2,h3,h4⟩ | ⟨h1,h2,h3,h4⟩
 ·grind [mj,cJ,lW]
 ·rw [h4,fB ho ht];split
  ·have h:=eC (z:=z) (e:=e) (dq s);rename_i hn;have:(lead z e (dq s)).1=[]:=by
    rw [h.ms,cO];intro x hx;obtain ⟨d,d1,d2,_⟩:=cJ _ _ _ hx;rw [h.n] at d1;rw [h.own] at d2;have d1:d<s.n:=d1;have d2:d≠s.own:=d2;omega
   rw [this];exact ⟨aA _,λx hx=>by cases hx⟩
  ·grind
 ·grind
 ·rw [h4];exact ⟨aA _,λx hx=>by cases hx⟩
end
section
variable {ρ:Type} {z:ρ->Bool} {e:ρ}
variable {n i F l len:Nat} {b b' M T:Int} {S S' S0 S1 S2 S3:Cs ρ} {G:Gh ρ} {m:Ms ρ} {s s':Nd ρ} {r:List (Ms ρ)×Nd ρ} {ms q:List (Ms ρ)} {Λ:Nat}
theorem Fm.frm0 (h:Fm n b m):0<=m.frm/\0<=m.dst:=by
 grind [h.f]
theorem Wk.fm (h:Wk z n b S) (hm:m∈S.q):Fm n b m:=by obtain ⟨G,hG⟩:=h;exact (hG.mi m hm).2
theorem Aj (hf:0<=m.frm/\0<=m.dst) (i:Nat) (S:Cs ρ):pl ((S.bring z e m).nd i)<=pl (S.nd i)+bN i [m]+(if m.kind=2 then 1 else 0)/\bN i (S.bring z e m).q<=bN i S.q+20:=by
 have h2:(0:Int)<=(if m.kind=2 then 1 else 0):=by split<;>omega
 unfold Cs.bring;split
 ·refine ⟨?_,?_⟩
  ·rw [bi];split
   ·rename_i e1;have hg:=(l6 (z:=z) (e:=e) (s:=S.nd m.dst.toNat) hf.1).1;rw [j9,kP];subst e1;by_cases h3:m.kind=3
    ·grind
    ·omega
   ·omega
  ·grind [dR,iw,tQ]
 ·exact ⟨by omega,by omega⟩
theorem uU (i:Nat) (ms:List (Ms ρ)):∀S:Cs ρ,(∀m∈ms,0<=m.frm/\0<=m.dst)->pl ((S.dl z e ms).nd i)<=pl (S.nd i)+bN i ms+ms.length/\((∀m∈ms,m.kind≠2)->pl ((S.dl z e ms).nd i)<=pl (S.nd i)+bN i ms)/\bN i (S.dl z e ms).q<=bN i S.q+20*ms.length:=by
 induction ms with
 | nil=>intro S _;exact ⟨by show pl (S.nd i)<=_;simp [kP],λ_=>by show pl (S.nd i)<=_;simp [kP],ah _⟩
 | cons m ms ih =>
  intro S h;obtain ⟨a1,a2⟩:=Aj (z:=z) (e:=e) (h m aP) i S;obtain ⟨b1,b2,b3⟩:=ih (S.bring z e m) λx hx=>h x (aI _ hx);have e1:bN i (m::ms)=bN i [m]+bN i ms:=by rw [show m::ms=[m]++ms from rfl,iw]
  rw [e1,aX];refine ⟨?_,λhk=>?_,?_⟩
  ·show pl (((S.bring z e m).dl z e ms).nd i)<=_;have:(if m.kind=2 then (1:Int) else 0)<=1:=by split<;>omega
   omega
  ·show pl (((S.bring z e m).dl z e ms).nd i)<=_;have:=b2 λx hx=>hk x (aI _ hx);rw [aw (hk m aP)] at a1;omega
  ·show bN i ((S.bring z e m).dl z e ms).q<=_;omega
theorem pE (p2:P3 z n b M S2) (hn:n<=5) (hb:b<=1099511627776) (hnl:∀l,S2.up l=true->(S2.nd l).leads=false) (k:Nat) (hk:phi n S2<=k) (i:Nat):pl ((Cs.drain z e k S2).nd i)<=pl (S2.nd i)+bN i S2.q:=by
 obtain ⟨_,_,_,q4,_⟩:=P3.end_ (z:=z) (e:=e) (Inv:=λS'=>S'.up=S2.up/\(∀l,S2.up l=true->(S'.nd l).leads=false)/\pl (S'.nd i)+bN i S'.q<=pl (S2.nd i)+bN i S2.q) hn hb (λS' m q p hi hq st=>by
  obtain ⟨i1,i2,i3⟩:=hi;obtain ⟨j,c1,c2,c3,c4,c5⟩:=st.cut;have kp:=st.kp;have nl2:∀l,S2.up l=true->(((S'.wq q).bring z e m).nd l).leads=false:=λl l1=>by
   grind [kp.back]
  have hqq:bN i S'.q=bN i [m]+bN i q:=by rw [hq,show m::q=[m]++q from rfl,iw]
  refine ⟨kp.up.trans i1,nl2,?_⟩;cases hu:S'.up j with
  | false =>
   rw [c5 hu];show pl (S'.nd i)+bN i q<=_;omega
  | true =>
   have hb2:=nl2 j (by rw [<-i1];exact hu);rw [c4 hu] at hb2 ⊢;rw [bi,ax rfl] at hb2;have hmS:m∈S'.q:=by rw [hq];exact aP
   have hg:=(l6 (z:=z) (e:=e) (s:=S'.nd j) (p.wk.fm hmS).frm0.1).1;have hk2:m.kind≠2:=by rcases p.kd m hmS with g | g<;>omega
   rw [aw hk2] at hg;have h0:bN i (X.get z e (S'.nd j) m).1=0:=jT _ λx hx hx3=>by
    obtain ⟨_,_,_,_,o5⟩:=c3.out x hx;have:=o5 hx3;rw [hb2] at this;cases this
   rw [dR,iw,h0,bi];show pl (if i=j then _ else S'.nd i)+((bN i q+0:Nat):Int)<=_;rw [j9,kP] at hqq;split
   ·grind
   ·omega) k S2 p2 ⟨rfl,hnl,aM _⟩ hk
 have:=q4.2.2;omega
theorem yo (hw:Wk z n b S) (hb:b+1<=1099511627776) (hq:S.q=[]) (i:Nat):∀k,k<=n->bN i (S.ticks z e k).q<=20*k:=by
 intro k;induction k with
 | zero=>intro _;show bN i S.q<=_;rw [hq];exact ah _
 | succ k ih =>
  intro hk;have h1:=ih (by omega);have e0:S.ticks z e (k+1)=(S.ticks z e k).tick z e k:=by unfold Cs.ticks;rw [cE,cZ];rfl
  obtain ⟨t1,t2,_⟩:=dm (z:=z) (e:=e) k S;have e1:(S.ticks z e k).nd k=S.nd k:=by rw [t1,aw (by omega)]
  rw [e0];unfold Cs.tick;split
  ·rw [dR,iw,e1];obtain ⟨h2,h3,h4⟩:=hw.tk (e:=e) hb k (by omega);obtain ⟨G,hG⟩:=hw;have htb:=hG.tb k (by omega);have:=(uo (z:=z) (e:=e) (s:=S.nd k) i (by rw [h3,h4];omega) (by omega)).1;split at this<;>omega
  ·omega
theorem kW (hw:Wk z n b S) (hb:b+1<=1099511627776) (i:Nat):pl ((S.ticks z e n).nd i)<=pl (S.nd i)+(if n=1 then 1 else 0):=by
 have hif:(0:Int)<=(if n=1 then 1 else 0):=by split<;>omega
 obtain ⟨t1,_,_⟩:=dm (z:=z) (e:=e) n S;rw [t1];split
 ·rename_i h;obtain ⟨h2,h3,h4⟩:=hw.tk (e:=e) hb i h.1;obtain ⟨G,hG⟩:=hw;have htb:=hG.tb i h.1;have:=ul (z:=z) (e:=e) (s:=S.nd i) (by rw [h3,h4];exact h.1) (by omega);rw [h4] at this;exact this
 ·omega
theorem oM (hw:Wk z n b S) (hn:n<=5) (hb:b+1<=1099511627776) (hq:S.q=[]) (h:Rd z e n b M Λ S S1 S2 S3) (h1:S1=(S.ticks z e n).noq.dl z e (S.ticks z e n).q) (h2:S2=S1.noq.dl z e S1.q) (i:Nat):pl (S2.nd i)+bN i S2.q<=pl (S.nd i)+521:=by
 have hwA:=hw.ticks (e:=e) hb;have a0:=kW (e:=e) hw hb i;have a1:=yo (e:=e) hw hb hq i n (ah _);have a5:=jX (e:=e) hw hn hb n (ah _);rw [hq] at a5;have a5:(S.ticks z e n).q.length<=0+4*n:=a5;have hkA:∀x∈(S.ticks z e n).q,x.kind≠2:=λx hx=>by
  obtain ⟨t1,t2,t3⟩:=dm (z:=z) (e:=e) n S;rcases (t3 x).1 hx with g | ⟨c,d1,d2,d3⟩
  ·rw [hq] at g;cases g
  ·obtain ⟨_,_,_,_,o⟩:=(hw.tk (e:=e) hb c d1).1.out x d3;rcases o with o | o | o<;>omega
 obtain ⟨_,b2,_⟩:=uU (z:=z) (e:=e) i (S.ticks z e n).q (S.ticks z e n).noq λm hm=>(hwA.fm hm).frm0;have b2:=b2 hkA;rw [<-h1] at b2;obtain ⟨c1,_,c3⟩:=uU (z:=z) (e:=e) i S1.q S1.noq λm hm=>(h.ra.w1.fm hm).frm0;rw [<-h2] at c1 c3;have d1:bN i S1.q=0:=jT _ λx hx hx3=>by rcases h.ra.k1 x hx with g | g<;>omega
 have d2:=h.ra.q1;have e1:(S.ticks z e n).noq.nd i=(S.ticks z e n).nd i:=rfl;have e2:S1.noq.nd i=S1.nd i:=rfl;have e3:bN i S1.noq.q=0:=rfl;have hif:(if n=1 then (1:Int) else 0)<=1:=by split<;>omega
 rw [e1] at b2;rw [e2,d1] at c1;rw [e3] at c3;omega
theorem Rd.nol (h:Rd z e n b M Λ S S1 S2 S3) (hnl:∀i,S.up i=true->(S3.nd i).leads=false):∀l,S2.up l=true->(S2.nd l).leads=false:=λl l1=>by
 have u2:S2.up=S.up:=h.ra.u2.trans (dm (z:=z) (e:=e) n S).2.1;cases hc:(S2.nd l).leads with
 | false=>rfl
 | true =>
  have:=(h.kp.lead l l1 hc).1;rw [hnl l (by rw [<-u2];exact l1)] at this;cases this
theorem yJ (hw:Wk z n b S) (hn:n<=5) (hb:b+1<=1099511627776) (hq:S.q=[]) (h:Rd z e n b M Λ S S1 S2 S3) (h1:S1=(S.ticks z e n).noq.dl z e (S.ticks z e n).q) (h2:S2=S1.noq.dl z e S1.q) (hnl:∀i,S.up i=true->(S3.nd i).leads=false) (i:Nat):pl (S3.nd i)<=pl (S.nd i)+521:=by
 obtain ⟨k,k1,k2⟩:=h.dr;have a4:=pE (e:=e) h.p2 hn hb (h.nol hnl) k k2 i;rw [<-k1] at a4;have:=oM hw hn hb hq h h1 h2 i;omega
end
section
variable {ρ:Type} {z:ρ->Bool} {e:ρ}
variable {n i F l len:Nat} {b b' M T:Int} {S S' S0 S1 S2 S3:Cs ρ} {G:Gh ρ} {m:Ms ρ} {s s':Nd ρ} {r:List (Ms ρ)×Nd ρ} {ms q:List (Ms ρ)} {Λ:Nat}
instance:Decidable (Zz s):=by unfold Zz;infer_instance
def nz (n:Nat) (S:Cs ρ):Nat:=eI n λj=>if Zz (S.nd j) then 0 else 1
theorem CX:nz n S<=n:=by
 have:=kv n 1 (λj=>if Zz (S.nd j) then 0 else 1) λj _=>by show (if _ then 0 else 1)<=1;split<;>omega
 unfold nz;omega
theorem Da (i:Nat) (ms:List (Ms ρ)):∀S:Cs ρ,(∀m∈ms,m.kind=2/\m.dst.toNat<n)->bN i (S.dl z e ms).q+20*nz n (S.dl z e ms)<=bN i S.q+20*nz n S:=by
 induction ms with
 | nil=>intro S _;exact ah _
 | cons m ms ih =>
  intro S h;have h1:=ih (S.bring z e m) λx hx=>h x (aI _ hx);show bN i ((S.bring z e m).dl z e ms).q+20*nz n ((S.bring z e m).dl z e ms)<=_;refine aF h1 ?_;obtain ⟨k2,dn⟩:=h m aP;unfold Cs.bring;split
  ·obtain ⟨g1,g2,_⟩:=tQ (z:=z) (e:=e) (s:=S.nd m.dst.toNat) (m:=m) i;have gl:=(ma (z:=z) (e:=e) (s:=S.nd m.dst.toNat) (m:=m)).zz;rw [dR,iw];have hle:∀j,j<n->j≠m.dst.toNat->(if Zz ((S.call m.dst.toNat (X.get z e (S.nd m.dst.toNat) m)).nd j) then 0 else 1)<=(if Zz (S.nd j) then 0 else 1):=λj _ hne=>by rw [bi,aw hne];exact ah _
   by_cases h0:bN i (X.get z e (S.nd m.dst.toNat) m).1=0
   ·have:=jC n m.dst.toNat 0 (λj=>if Zz (S.nd j) then 0 else 1) (λj=>if Zz ((S.call m.dst.toNat (X.get z e (S.nd m.dst.toNat) m)).nd j) then 0 else 1) dn (by
     show (if Zz ((S.call m.dst.toNat (X.get z e (S.nd m.dst.toNat) m)).nd m.dst.toNat) then 0 else 1)+0<=(if Zz (S.nd m.dst.toNat) then 0 else 1);rw [bi,ax rfl];by_cases hz:Zz (S.nd m.dst.toNat)
     ·rw [ax hz,ax (gl hz)];exact ah _
     ·rw [aw hz];split<;>omega) hle
    unfold nz;omega
   ·obtain ⟨z1,z2⟩:=g2 k2 h0;have:=jC n m.dst.toNat 1 (λj=>if Zz (S.nd j) then 0 else 1) (λj=>if Zz ((S.call m.dst.toNat (X.get z e (S.nd m.dst.toNat) m)).nd j) then 0 else 1) dn (by
     show (if Zz ((S.call m.dst.toNat (X.get z e (S.nd m.dst.toNat) m)).nd m.dst.toNat) then 0 else 1)+1<=(if Zz (S.nd m.dst.toNat) then 0 else 1);rw [bi,ax rfl,ax z2,aw z1];exact ah _) hle
    unfold nz;omega
  ·exact ah _
theorem rg (hw:Wk z n b S) (hn1:n≠1) (hb:b+1<=1099511627776) (hv:Nl S):∀x∈(S.ticks z e n).q,(x.kind=1/\∃c,S.up c=true/\x.N.getD 0 0=((S.ticks z e n).nd c).term/\((S.ticks z e n).nd c).term=(S.nd c).term+1)\/x.kind=5:=λx hx=>by
 obtain ⟨t1,t2,t3⟩:=dm (z:=z) (e:=e) n S;rcases (t3 x).1 hx with g | ⟨c,d1,d2,d3⟩
 ·rw [hv.1] at g;cases g
 ·have hTk:=hw.tk (e:=e) hb c d1;have hnd:(S.ticks z e n).nd c=(X.tick z e (S.nd c)).2:=by rw [t1,ax ⟨d1,d2⟩]
  obtain ⟨_,o2,_,_,o⟩:=hTk.1.out x d3;rcases o with o | o | o
  ·exact .inl ⟨o.1,c,d2,by rw [o2,hnd],by rw [hnd];exact o.2.2.1⟩
  ·exfalso;have hlc:=o.2;rcases dS (z:=z) (e:=e) (S.nd c) with ⟨g1,g2⟩ | ⟨g1,g2,g3,g4⟩ | ⟨g1,g2,g3,g4⟩ | ⟨g1,g2,g3,g4⟩
   ·rw [hv.2 c d2] at g1;cases g1
   ·have hoc:=hTk.2;obtain ⟨G,hG⟩:=hw;have htb:=hG.tb c d1;rw [g4,fB (by rw [hoc.1,hoc.2];exact d1) (by omega),aw (by rw [hoc.2];exact hn1)] at hlc;have hlc:((S.nd c).leads&&_)=true:=hlc;rw [g1] at hlc;cases hlc
   ·rw [g4] at hlc;have hlc:(S.nd c).leads=true:=hlc;rw [g1] at hlc;cases hlc
   ·rw [g4] at hlc;have hlc:(S.nd c).leads=true:=hlc;rw [g1] at hlc;cases hlc
  ·exact .inr o.1
theorem Db (hb:b<=1099511627776) (h:WkM z ms n b S) (hk:∀m∈ms,m.kind=1\/m.kind=5) (hq:∀x∈S.q,x.kind=2):(∀x∈(S.dl z e ms).q,x.kind=2)/\((∀m∈ms,m.kind=5)->S.q=[]->(S.dl z e ms).q=[]):=by
 constructor
 ·exact (eP (z:=z) (e:=e) (ms:=ms) (Inv:=λS'=>WkM z ms n b S'/\∀x∈S'.q,x.kind=2) (λS' m hI hm=>by
   obtain ⟨a1,a2⟩:=hI;obtain ⟨g1,i,g2,g3,g4,g5,g6⟩:=a1.take (e:=e) hb hm;refine ⟨g1,?_⟩;cases hu:S'.up i with
   | false=>rw [g6 hu];exact a2
   | true =>
    rw [g5 hu];intro x hx;rw [dR] at hx;rcases av.1 hx with hx | hx
    ·exact a2 x hx
    ·obtain ⟨_,_,_,o,_⟩:=g4.out x hx;rcases hk m hm with g | g<;>rcases o with o | o | o | o<;>omega) ⟨h,hq⟩).2
 ·intro h5 h0;exact (eP (z:=z) (e:=e) (ms:=ms) (Inv:=λS'=>WkM z ms n b S'/\S'.q=[]) (λS' m hI hm=>by
   obtain ⟨a1,a2⟩:=hI;obtain ⟨g1,i,g2,g3,g4,g5,g6⟩:=a1.take (e:=e) hb hm;refine ⟨g1,?_⟩;cases hu:S'.up i with
   | false=>rw [g6 hu];exact a2
   | true =>
    rw [g5 hu,dR,a2,bR,cO];intro x hx;obtain ⟨_,_,_,o,_⟩:=g4.out x hx;have:=h5 m hm;rcases o with o | o | o | o<;>omega) ⟨h,h0⟩).2
theorem B0 (hw:Wk z n b S) (hn1:n≠1) (hb:b+1<=1099511627776) (hv:Nl S) (h1:S1=(S.ticks z e n).noq.dl z e (S.ticks z e n).q):(∀x∈S1.q,x.kind=2)/\(∀i,pl (S1.nd i)<=pl (S.nd i))/\((∀m∈(S.ticks z e n).q,m.kind=5)->S1.q=[]):=by
 have hwA:=hw.ticks (e:=e) hb;have hk:=rg (e:=e) hw hn1 hb hv;obtain ⟨a1,a2⟩:=Db (e:=e) hb hwA.wkm (λm hm=>by
  rcases hk m hm with g | g
  ·exact .inl g.1
  ·exact .inr g) (λx hx=>by cases hx)
 rw [<-h1] at a1 a2;refine ⟨a1,λi=>?_,λh=>a2 h rfl⟩;have a0:=kW (e:=e) hw hb i;rw [aw hn1] at a0;obtain ⟨_,b2,_⟩:=uU (z:=z) (e:=e) i (S.ticks z e n).q (S.ticks z e n).noq λm hm=>(hwA.fm hm).frm0;have b2:=b2 λm hm=>by rcases hk m hm with g | g<;>omega
 rw [<-h1,jT (S.ticks z e n).q λm hm=>by rcases hk m hm with g | g<;>omega] at b2;have e1:(S.ticks z e n).noq.nd i=(S.ticks z e n).nd i:=rfl;rw [e1] at b2;omega
theorem mY (hw:Wk z n b S) (hn:n<=5) (hn1:n≠1) (hb:b+1<=1099511627776) (hv:Nl S) (h:Rd z e n b M Λ S S1 S2 S3) (h1:S1=(S.ticks z e n).noq.dl z e (S.ticks z e n).q) (h2:S2=S1.noq.dl z e S1.q) (i:Nat):pl (S2.nd i)+bN i S2.q<=pl (S.nd i)+120:=by
 obtain ⟨g1,g2,_⟩:=B0 (e:=e) hw hn1 hb hv h1;have a5:=jX (e:=e) hw hn hb n (ah _);rw [hv.1] at a5;have a5:(S.ticks z e n).q.length<=0+4*n:=a5;have d2:=h.ra.q1;obtain ⟨c1,_,_⟩:=uU (z:=z) (e:=e) i S1.q S1.noq λm hm=>(h.ra.w1.fm hm).frm0;rw [<-h2,jT S1.q λx hx hx3=>by have:=g1 x hx;omega] at c1;have c3:=Da (z:=z) (e:=e) (n:=n) i S1.q S1.noq λm hm=>⟨g1 m hm,by
  obtain ⟨j,f,f1,_,_,f4,_⟩:=(h.ra.w1.fm hm).f;omega⟩
 rw [<-h2] at c3;have e2:S1.noq.nd i=S1.nd i:=rfl;have e3:bN i S1.noq.q=0:=rfl;rw [e2] at c1;rw [e3] at c3;have:=CX (n:=n) (S:=S1.noq);have:=g2 i;omega
theorem vh (hw:Wk z n b S) (hn:n<=5) (hn1:n≠1) (hb:b+1<=1099511627776) (hv:Nl S) (h:Rd z e n b M Λ S S1 S2 S3) (h1:S1=(S.ticks z e n).noq.dl z e (S.ticks z e n).q) (h2:S2=S1.noq.dl z e S1.q) (hnl:∀i,S.up i=true->(S3.nd i).leads=false) (i:Nat):pl (S3.nd i)<=pl (S.nd i)+120:=by
 obtain ⟨k,k1,k2⟩:=h.dr;have a4:=pE (e:=e) h.p2 hn hb (h.nol hnl) k k2 i;rw [<-k1] at a4;have:=mY hw hn hn1 hb hv h h1 h2 i;omega
theorem C7 (hw:Wk z n b S) (hn:n<=5) (hn1:n≠1) (hb:b+1<=1099511627776) (hv:Ev T S) (h:Rd z e n b M Λ S S1 S2 S3) (h1:S1=(S.ticks z e n).noq.dl z e (S.ticks z e n).q) (h2:S2=S1.noq.dl z e S1.q) (hnl:∀i,S.up i=true->(S3.nd i).leads=false) (i:Nat):pl (S3.nd i)<=pl (S.nd i):=by
 have hvn:Nl S:=⟨hv.q,λi hi=>(hv.nd i hi).2⟩
 obtain ⟨k,k1,k2⟩:=h.dr;have nol:=h.nol hnl;have a4:=pE (e:=e) h.p2 hn hb nol k k2 i;rw [<-k1] at a4;obtain ⟨g1,g2,g3⟩:=B0 (e:=e) hw hn1 hb hvn h1;have g2:=g2 i;have hk:=rg (e:=e) hw hn1 hb hvn;obtain ⟨t1,t2,t3⟩:=dm (z:=z) (e:=e) n S;have hupn:∀i,S.up i=true->i<n:=by obtain ⟨G,hG⟩:=hw;exact hG.up
 by_cases hex:∃x∈(S.ticks z e n).q,x.kind=1
 ·obtain ⟨x,x1,x2⟩:=hex;obtain ⟨w,w1,w2,w3⟩:∃c,S.up c=true/\x.N.getD 0 0=((S.ticks z e n).nd c).term/\((S.ticks z e n).nd c).term=(S.nd c).term+1:=by
   rcases hk x x1 with g | g
   ·exact g.2
   ·omega
  have hTk:=λj (hj:S.up j=true)=>hw.tk (e:=e) hb j (hupn j hj);have hnd:∀j,S.up j=true->(S.ticks z e n).nd j=(X.tick z e (S.nd j)).2:=λj hj=>by rw [t1,ax ⟨hupn j hj,hj⟩]
  have hwM:((S.ticks z e n).nd w).term=M:=by
   obtain ⟨y,y1,y2,y3⟩:=h.top;have c1:=h.term w;have c2:=h.ub w w1;have c3:=(hTk y y2).1.term;rw [<-hnd y y2] at c3;have c4:=(hv.nd y y2).1;have c5:=(hv.nd w w1).1;rcases c3 with g | g<;>omega
  have ht0:0<=(S.nd w).term:=by obtain ⟨G,hG⟩:=hw;exact (hG.ni w (hupn w w1)).t0
  have hall:=h.all1 w w1 hwM (by omega) λd d1 d2=>by
   obtain ⟨tk,ho,hnn⟩:=hTk w w1;obtain ⟨x,x1,x2,_⟩:=tk.cand (by rw [<-hnd w w1];exact w3) d (by rw [hnn];exact d1) (by rw [ho];exact d2);obtain ⟨_,o2,_⟩:=tk.out x x1;exact ⟨x,(t3 x).2 (.inr ⟨w,hupn w w1,w1,x1⟩),x2,by rw [o2,<-hnd w w1];exact hwM⟩
  have u1:S1.up=S.up:=h.ra.u1.trans t2;have u2:S2.up=S.up:=h.ra.u2.trans t2;have ub1:UB M S1.noq:=⟨h.ra.b1.nd,λm hm=>by cases hm⟩
  have p1:Ph z n (b+1) M S1.q S1.noq S1.noq:=Ph.start h.ra.w1.wkm ub1;have hM1:=h.ra.b1.q;have J:=eP (z:=z) (e:=e) (ms:=S1.q) (S:=S1.noq) (Inv:=λS'=>Ph z n (b+1) M S1.q S1.noq S'/\((∃l,S.up l=true/\(S'.nd l).leads=true/\(S'.nd l).term=M)\/(pl (S'.nd i)<=pl (S1.nd i)/\bN i S'.q=0))) (λS' m hI hm=>by
   obtain ⟨a1,a2⟩:=hI;obtain ⟨q1,j,q2,q3,q4,q5,q6⟩:=a1.take (e:=e) hb hm (hM1 m hm);refine ⟨q1,?_⟩;rcases a2 with ⟨l,l1,l2⟩ | ⟨a2,a3⟩
   ·exact .inl ⟨l,l1,a1.lead hb hm (hM1 m hm) (by show S1.up l=true;rw [u1];exact l1) l2⟩
   ·cases hu:S'.up j with
    | false=>rw [q6 hu];exact .inr ⟨a2,a3⟩
    | true =>
     have huj:S.up j=true:=by rw [<-u1];rw [a1.up] at hu;exact hu
     have hub:=q1.ub.nd j (by rw [ie];exact hu);rw [q5 hu,bi,ax rfl] at hub;rw [q5 hu];cases hc:(X.get z e (S'.nd j) m).2.leads with
     | true =>
      refine .inl ⟨j,huj,?_⟩;rw [bi,ax rfl];refine ⟨hc,?_⟩;have c1:=q4.up;have c2:=a1.term j;have c3:=hall j huj;have e1:(S1.noq.nd j).term=(S1.nd j).term:=rfl;omega
     | false =>
      have hk2:=g1 m hm;have hp:=(l6 (z:=z) (e:=e) (s:=S'.nd j) (h.ra.w1.fm hm).frm0.1).2.1 hk2 (.inl hc);have h0:bN i (X.get z e (S'.nd j) m).1=0:=jT _ λx hx hx3=>by
       obtain ⟨_,_,_,_,o5⟩:=q4.out x hx;have:=o5 hx3;rw [hc] at this;cases this
      refine .inr ⟨?_,by rw [dR,iw,h0,a3]⟩;rw [bi];split
      ·rename_i e1;subst e1;omega
      ·exact a2) ⟨p1,.inr ⟨aM _,rfl⟩⟩
  rw [<-h2] at J;rcases J.2 with ⟨l,l1,l2,_⟩ | ⟨c1,c2⟩
  ·rw [nol l (by rw [u2];exact l1)] at l2;cases l2
  ·rw [c2] at a4;omega
 ·have h0:=g3 λm hm=>by
   rcases hk m hm with g | g
   ·exact absurd ⟨m,hm,g.1⟩ hex
   ·exact g
  rw [h0] at h2;have e1:S2=S1.noq:=h2;rw [e1] at a4;have e2:pl (S1.noq.nd i)=pl (S1.nd i):=rfl;have e3:bN i S1.noq.q=0:=rfl;rw [e2,e3] at a4;omega
end
section
variable {ρ:Type} {z:ρ->Bool} {e:ρ}
variable {n i F l len:Nat} {b b' M T:Int} {S S' S0 S1 S2 S3:Cs ρ} {G:Gh ρ} {m:Ms ρ} {s s':Nd ρ} {r:List (Ms ρ)×Nd ρ} {ms q:List (Ms ρ)} {Λ:Nat}
theorem z7 (P:Nat->Prop):∀k,P k->∃k',k'<=k/\P k'/\∀j,j<k'->¬P j:=by
 intro k;induction k using Nat.strongRecOn with
 | _ k ih =>
  intro hk;by_cases h:∃j,j<k/\P j
  ·grind
  ·grind
theorem Co (hw:Wk z 1 b S) (hb:b+1<=1099511627776) (hq:S.q=[]) (i:Nat):pl ((S.rnd z e 1 F).nd i)<=pl (S.nd i)+1:=by
 have h0:(S.ticks z e 1).q=[]:=by
  rw [cO];intro x hx;obtain ⟨t1,t2,t3⟩:=dm (z:=z) (e:=e) 1 S;rcases (t3 x).1 hx with g | ⟨c,d1,d2,d3⟩
  ·rw [hq] at g;cases g
  ·obtain ⟨h1,_,h3⟩:=hw.tk (e:=e) hb c d1;have:=h1.num;rw [h3] at this;have:=List.length_pos_of_mem d3;omega
 unfold Cs.rnd;rw [eG _ h0];have:=kW (e:=e) hw hb i;rw [ax rfl] at this;exact this
theorem z8 (h:Ok z n b Λ S) (hn:n<=5) (hmaj:Maj n λj=>S.up j) (hb:b+30<=1099511627776) (hF:200+22*(Λ+30)<=F):∃k,k<=25/\(∃M l,Lead M (S.rnds z e n F (k+1)) l)/\(1<=k->∀i,S.up i=true->((S.rnds z e n F k).nd i).leads=false)/\∀i,pl ((S.rnds z e n F k).nd i)<=pl (S.nd i)+1001:=by
 obtain ⟨k0,c1,c2,c3⟩:=wM (e:=e) h hn hmaj hb hF;obtain ⟨k,e1,e2,e3⟩:=z7 (λk=>∃M l,Lead M (S.rnds z e n F (k+1)) l) (k0 - 1) (by rw [show k0 - 1+1=k0 by omega];exact c3);have hk:∀k:Nat,k<=29->Ok z n (b+k) (Λ+k) (S.rnds z e n F k)/\(S.rnds z e n F k).up=S.up:=λk hk=>h.rnds (by omega) k (by omega) (by omega);have hrd:∀k:Nat,k<=27->∃M,Rd z e n (b+k) M (Λ+k) (S.rnds z e n F k) (((S.rnds z e n F k).ticks z e n).noq.dl z e ((S.rnds z e n F k).ticks z e n).q) ((((S.rnds z e n F k).ticks z e n).noq.dl z e ((S.rnds z e n F k).ticks z e n).q).noq.dl z e (((S.rnds z e n F k).ticks z e n).noq.dl z e ((S.rnds z e n F k).ticks z e n).q).q) (S.rnds z e n F (k+1)):=λk hk2=>by
  obtain ⟨M,hM,_⟩:=(hk k (by omega)).1.rnd (e:=e) (F:=F) hn (by omega) (by omega);exact ⟨M,hM⟩
 have hno:∀j,1<=j->j<=k->∀i,S.up i=true->((S.rnds z e n F j).nd i).leads=false:=λj j1 j2 i hi=>by
  cases hl:((S.rnds z e n F j).nd i).leads with
  | false=>rfl
  | true =>
   exfalso;obtain ⟨j',rfl⟩:∃j',j=j'+1:=⟨j - 1,by omega⟩
   obtain ⟨M,hM⟩:=hrd j' (by omega);exact e3 j' (by omega) ⟨M,i,hM.lead i (by rw [(hk j' (by omega)).2];exact hi) hl⟩
 refine ⟨k,by omega,e2,λh1=>hno k h1 (ah _),λi=>?_⟩;by_cases hn1:n=1
 ·subst hn1;have key:∀j:Nat,j<=k->pl ((S.rnds z e 1 F j).nd i)<=pl (S.nd i)+j:=by
   intro j;induction j with
   | zero=>intro _;show pl (S.nd i)<=_;omega
   | succ j ih =>
    intro hj;have h1:=ih (by omega);have h2:=Co (e:=e) (F:=F) (hk j (by omega)).1.wk (by omega) (hk j (by omega)).1.q i;show pl (((S.rnds z e 1 F j).rnd z e 1 F).nd i)<=_;omega
  have:=key k (ah _);omega
 by_cases hk0:k=0
 ·subst hk0;show pl (S.nd i)<=_;omega
 have hnl:∀j,j+1<=k->∀i,(S.rnds z e n F j).up i=true->((S.rnds z e n F (j+1)).nd i).leads=false:=λj hj i hi=>hno (j+1) (by omega) hj i (by rw [<-(hk j (by omega)).2];exact hi);have hnq:∀j,1<=j->j<=k->Nl (S.rnds z e n F j):=λj j1 j2=>⟨(hk j (by omega)).1.q,λi hi=>hno j j1 j2 i (by rw [<-(hk j (by omega)).2];exact hi)⟩
 obtain ⟨M0,hM0⟩:=hrd 0 (by omega);have hp1:=yJ (hk 0 (by omega)).1.wk hn (by omega) (hk 0 (by omega)).1.q hM0 rfl rfl (hnl 0 (by omega)) i;have hp1:pl ((S.rnds z e n F 1).nd i)<=pl (S.nd i)+521:=hp1;obtain ⟨y,y1,y2,y3⟩:=lX (S.rnds z e n F 1) n (by rw [(hk 1 (by omega)).2];exact h.up);have hyS:S.up y=true:=by rw [<-(hk 1 (by omega)).2];exact y2
 have hupn:∀i,S.up i=true->i<n:=by obtain ⟨G,hG⟩:=h.wk;exact hG.up
 have key:∀t:Nat,1+t<=k->((∃T,Ev T (S.rnds z e n F (1+t)))/\pl ((S.rnds z e n F (1+t)).nd i)<=pl (S.nd i)+1001)\/((∀i,S.up i=true->((S.rnds z e n F (1+t)).nd i).term<=((S.rnds z e n F (1+t)).nd y).term)/\t<=((S.rnds z e n F (1+t)).nd y).ticks/\t<=3/\pl ((S.rnds z e n F (1+t)).nd i)<=pl (S.nd i)+521+120*(t:Int)):=by
  intro t;induction t with
  | zero =>
   intro _;exact .inr ⟨λi hi=>y3 i (hupn i hi) (by rw [(hk 1 (by omega)).2];exact hi),aA _,by omega,by show pl ((S.rnds z e n F 1).nd i)<=_;omega⟩
  | succ t ih =>
   intro ht;obtain ⟨M,hM⟩:=hrd (1+t) (by omega);have hu:=(hk (1+t) (by omega)).2;have hnl:=hnl (1+t) (by omega);rcases ih (by omega) with ⟨⟨T,hT⟩,hp⟩ | ⟨g1,g2,g3,hp⟩
   ·have h1:=C7 (hk (1+t) (by omega)).1.wk hn hn1 (by omega) hT hM rfl rfl hnl i;refine .inl ⟨⟨M,(lz (hk (1+t) (by omega)).1.wk hn hn1 (by omega) hT hM rfl rfl hnl).ev⟩,?_⟩;show pl ((S.rnds z e n F (1+t+1)).nd i)<=_;omega
   ·have h1:=vh (hk (1+t) (by omega)).1.wk hn hn1 (by omega) (hnq (1+t) (by omega) (by omega)) hM rfl rfl hnl i;rcases ym (hk (1+t) (by omega)).1.wk hn hn1 (by omega) (hnq (1+t) (by omega) (by omega)) hM rfl rfl hM.dr hnl (by rw [hu];exact hyS) (λi hi=>g1 i (by rw [<-hu];exact hi)) with g | ⟨q1,q2,q3⟩
    ·grind
    ·grind
 have:=key (k - 1) (by omega);rw [show 1+(k - 1)=k by omega] at this;rcases this with ⟨_,g⟩ | ⟨_,_,g1,g2⟩
 ·exact g
 ·omega
end
section
variable {ρ:Type} {z:ρ->Bool} {e:ρ}
variable {n i F l len:Nat} {b b' M T B:Int} {S S' S0 S1 S2 S3:Cs ρ} {G:Gh ρ} {m:Ms ρ} {s s':Nd ρ} {r:List (Ms ρ)×Nd ρ} {ms q:List (Ms ρ)} {Λ:Nat} {Lt:Lg ρ}
def Wn (B:Int) (Lt:Lg ρ) (s:Nd ρ):Prop:=∃A:Nat,A<=s.log.length/\A<=Lt.length/\s.log.take A=Lt.take A/\pl s<=B+A
theorem Wn.of (h:Wn B Lt s) (h1:s'.log=s.log) (h2:pl s'<=pl s):Wn B Lt s':=by
 obtain ⟨A,a1,a2,a3,a4⟩:=h;exact ⟨A,by rw [h1];exact a1,a2,by rw [h1];exact a3,by omega⟩
theorem Wn.start:Wn (pl s) Lt s:=⟨0,aA _,aA _,by simp,by omega⟩
theorem Wn.le (h:Wn B Lt s):pl s<=B+Lt.length:=by obtain ⟨A,_,a2,_,a4⟩:=h;omega
theorem Bk {L:Int->Lg ρ} (hok:OkL L Lt) (p:Nat):∀(r j:Nat) (s:Nd ρ),OkL L s.log->s.log.take (p+j)=Lt.take (p+j)->p+j<=s.log.length->p+j+r<=Lt.length->Wn B Lt s->Wn B Lt (bE p ((Lt.drop (p+j)).take r) j s).2:=by
 intro r;induction r with
 | zero=>intro j s _ _ _ _ h;exact h
 | succ r ih =>
  intro j s hs hl hj hr h;have hq:p+j<Lt.length:=by omega
  rw [mf hq];have e0:Lt[p+j]=(Lt[p+j].1,Lt[p+j].2):=rfl;rw [e0];unfold bE;by_cases hc:p+j<s.log.length/\bD s.log (p+j+1)=Lt[p+j].1
  ·rw [ax hc];have hsame:=hs.same hok (k:=p+j+1) (by omega) (by omega) (by rw [hc.2,gC hq]);exact ih (j+1) s hs hsame (by omega) (by omega) h
  ·rw [aw hc];split
   ·exact h
   ·have hlog:(place s (p+j) (Lt[p+j].1,Lt[p+j].2)).log=Lt.take (p+(j+1)):=by
     show s.log.take (p+j)++[(Lt[p+j].1,Lt[p+j].2)]=_;rw [hl,<-e0,lK hq];rfl
    have hpl:pl (place s (p+j) (Lt[p+j].1,Lt[p+j].2))=pl s+1:=by
     unfold pl;show ((s.cnt+1:Nat):Int) - 2*s.term - (if s.choice = -1 then 0 else 1)=_;omega
    have hlen:(Lt.take (p+(j+1))).length=p+(j+1):=by rw [aE];omega
    refine ih (j+1) _ (by rw [hlog];exact hok.take _) (by rw [hlog,cL,pv]) (by rw [hlog,hlen];exact ah _) (by omega) ?_;obtain ⟨A,a1,a2,a3,a4⟩:=h;have hA:A<=p+j:=by
     apply bz;intro hn;refine hc ⟨by omega,?_⟩;rw [rL a3 (by omega) a1,gC hq]
    exact ⟨p+(j+1),by rw [hlog,hlen];exact ah _,by omega,by rw [hlog,cL,pv],by rw [hpl];omega⟩
theorem xb (s:Nd ρ) (k:Nat):(X.agree z s k).log=s.log:=by unfold X.agree;split<;>rfl
theorem tH (p:Nat) (l:List (Int×ρ)):∀(j:Nat) (s:Nd ρ),(bE p l j s).2.term=s.term:=by
 induction l with
 | nil=>intro j s;rfl
 | cons x l ih =>
  intro j s;obtain ⟨t,rec⟩:=x;unfold bE;split
  ·exact ih _ _
  ·split
   ·rfl
   ·exact (ih _ _).trans rfl
theorem oZ (s:Nd ρ):(lays z s m).2.term=s.term:=by
 unfold lays;split
 ·rfl
 ·split
  ·rfl
  ·simp only;split
   ·have h:=tH (m.N.getD 1 0).toNat ((m.N.drop 4).zip m.B) 0 { s with ticks:=0 };generalize bE (m.N.getD 1 0).toNat ((m.N.drop 4).zip m.B) 0 { s with ticks:=0 }=P at *;split
    ·refine Eq.trans ?_ h;show (X.agree z P.2 _).term=_;unfold X.agree;split<;>rfl
    ·exact h
   ·rfl
theorem zx (hg:GI n G) (h:NI z n G i s) (hm:MI n G m) (h3:m.kind=3) (ht:m.N.getD 0 0<=s.term) (hw:Wn B (G.L s.term) s):Wn B (G.L s.term) (lays z s m).2:=by
 unfold lays;split
 ·exact hw
 ·split
  ·exact hw
  ·rename_i hlt;obtain ⟨f,hfn,hfe,_,_,h1,_⟩:=hm.f;obtain ⟨e1,p,a,e2,e3,e4,e5,e6,e7,e8⟩:=h1 h3;have hT:m.N.getD 0 0=s.term:=by omega
   rw [hT] at e1 e3 e5 e7 e8;simp only;split
   ·rename_i hfit;unfold ox at hfit;simp only [bk,aR,cH] at hfit;rw [e2] at hfit ⊢;obtain ⟨f1,f2⟩:=hfit;have f1:p<=s.log.length:=by have f1:(p:Int)<=(s.log.length:Int):=f1;omega
    have f2:bD s.log p=bD (G.L s.term) p:=by rw [<-e3];exact f2
    have hpp:=h.ok.same (hg.ok s.term) f1 (by omega) f2;have hpn:((p:Int)).toNat=p:=by omega
    rw [hpn,e7];have w:=Bk (B:=B) (hg.ok s.term) p m.B.length 0 { s with ticks:=0 } h.ok hpp f1 e5 (hw.of rfl (aM _));rw [eK] at w;generalize bE p (((G.L s.term).drop p).take m.B.length) 0 { s with ticks:=0 }=P at *;split
    ·exact w.of (xb _ _) (DK (qV _ _))
    ·exact w.of rfl (aM _)
   ·exact hw.of rfl (aM _)
theorem C6 (hg:GI n G) (h:NI z n G i s) (hm:MI n G m) (hf:0<=m.frm) (hk:m.kind≠2) (hM:s.term<=M) (hN:m.N.getD 0 0<=M) (hr:(X.get z e s m).2.term=M) (hl:(X.get z e s m).2.leads=false\/s.leads=true) (hw:Wn B (G.L M) s):Wn B (G.L M) (X.get z e s m).2:=by
 by_cases h3:m.kind=3
 ·unfold X.get at hr ⊢;split
  ·exact hw
  ·rename_i hb;rw [aw hb] at hr;have hin:∀s1:Nd ρ,getIn z e s1 m=lays z s1 m:=λs1=>by
    unfold getIn;rw [aw (by omega),aw hk,ax h3]
   split
   ·rename_i ht;have hT:(enter s (m.N.getD 0 0) (-1)).term=M:=by
     rw [ax ht,hin] at hr;have e1:(lays z (enter s (m.N.getD 0 0) (-1)) m).2.term=(enter s (m.N.getD 0 0) (-1)).term:=oZ _;rw [<-e1];exact hr
    rw [hin];have:=zx (B:=B) hg (h.enter ht) hm h3 (aM _) (by rw [hT];exact hw.of rfl (nD _ _ ht));rw [hT] at this;exact this
   ·rename_i ht;have hT:s.term=M:=by
     rw [aw ht,hin] at hr;have e1:(lays z s m).2.term=s.term:=oZ s;rw [<-e1];exact hr
    rw [hin];have:=zx (B:=B) hg h hm h3 (by omega) (by rw [hT];exact hw);rw [hT] at this;exact this
 ·have hp:=(l6 (z:=z) (e:=e) (s:=s) hf).1;rw [aw h3,aw hk] at hp;exact hw.of (l7 h3 hl) (by omega)
def bM (M:Int) (i:Nat) (q:List (Ms ρ)):Nat:=bN i (q.filter λx=>decide (x.N.getD 0 0<M))
theorem t9 (a c:List (Ms ρ)):bM M i (a++c)=bM M i a+bM M i c:=by unfold bM;rw [cC,iw]
theorem Dd (q:List (Ms ρ)):bM M i q<=bN i q:=by
 induction q with
 | nil=>exact ah _
 | cons x q ih =>
  rw [show x::q=[x]++q from rfl,t9,iw];have:bM M i [x]<=bN i [x]:=by
   unfold bM;rw [fw];split
   ·exact ah _
   ·exact aA _
  omega
theorem CK (q:List (Ms ρ)) (h:∀x∈q,x.kind=3->M<=x.N.getD 0 0):bM M i q=0:=by
 unfold bM;refine jT _ λx hx hk=>?_;obtain ⟨h1,h2⟩:=oe.1 hx;have:=h x h1 hk;simp only [aR] at h2;omega
theorem yr (p2:P3 z n b M S2) (hn:n<=5) (hb:b<=1099511627776) (hl:S2.up l=true) (h1:(S2.nd l).leads=true) (k:Nat) (hk:phi n S2<=k) (j:Nat) (hj:S2.up j=true) (hw:((S2.nd j).term<M/\pl (S2.nd j)+bM M j S2.q<=B)\/((S2.nd j).term=M/\Wn B (S2.nd l).log (S2.nd j))) :
  (((Cs.drain z e k S2).nd j).term<M/\pl ((Cs.drain z e k S2).nd j)<=B)\/(((Cs.drain z e k S2).nd j).term=M/\Wn B (S2.nd l).log ((Cs.drain z e k S2).nd j)):=by
 obtain ⟨_,_,_,q4,_⟩:=P3.end_ (z:=z) (e:=e) (Inv:=λS'=>S'.up=S2.up/\(S'.nd l).leads=true/\(S'.nd l).log=(S2.nd l).log/\(((S'.nd j).term<M/\pl (S'.nd j)+bM M j S'.q<=B)\/((S'.nd j).term=M/\Wn B (S2.nd l).log (S'.nd j)))) hn hb (λS' m q p hi hq st=>by
  obtain ⟨i1,i2,i3,i5⟩:=hi;obtain ⟨i,c1,c2,c3,c4,c5⟩:=st.cut;have kp:=st.kp;have hlu:S'.up l=true:=by rw [i1];exact hl
  have hju:S'.up j=true:=by rw [i1];exact hj
  obtain ⟨k1,k2,k3,_⟩:=kp.lead l hlu i2;have hqq:bM M j S'.q=bM M j [m]+bM M j q:=by rw [hq,show m::q=[m]++q from rfl,t9]
  have hub:=st.p.ub.nd j (by rw [kp.up];exact hju);have hld:=st.p.ld;refine ⟨kp.up.trans i1,k1,k2.trans i3,?_⟩;cases hu:S'.up i with
  | false =>
   rw [c5 hu];rcases i5 with ⟨g1,g2⟩ | g
   ·exact .inl ⟨g1,by show pl (S'.nd j)+((bM M j q:Nat):Int)<=B;omega⟩
   ·exact .inr g
  | true =>
   have hldi:=hld i (by rw [kp.up];exact hu);rw [c4 hu] at hub hldi ⊢;rw [bi,ax rfl] at hldi;have h0:bM M j (X.get z e (S'.nd i) m).1=0:=CK _ λx hx hx3=>by
    obtain ⟨_,o2,_,_,o5⟩:=c3.out x hx;rw [o2,hldi (o5 hx3)];exact aM _
   rw [dR,t9,h0];rw [bi] at hub ⊢;split
   ·rename_i e1;subst e1;rw [ax rfl] at hub;obtain ⟨G,hG⟩:=p.wk;have hmS:m∈S'.q:=by rw [hq];exact aP
    have hLt:G.L M=(S2.nd l).log:=by
     have d2:=((hG.ni l (hG.up l hlu)).lds i2).2;rw [p.ld l hlu i2] at d2;rw [<-d2,i3]
    have hk2:m.kind≠2:=by rcases p.kd m hmS with g | g<;>omega
    have hN:=p.ub.q m hmS;have hfr:=(p.wk.fm hmS).frm0.1;have g1:=c3.up;have hw2:(X.get z e (S'.nd j) m).2.term=M->Wn B (S2.nd l).log (S'.nd j)->Wn B (S2.nd l).log (X.get z e (S'.nd j) m).2:=λht h=>by
     have:=C6 (z:=z) (e:=e) (B:=B) (M:=M) hG.gi (hG.ni j c1) (hG.mi m hmS).1 hfr hk2 (by omega) hN ht (by
      cases hc:(X.get z e (S'.nd j) m).2.leads with
      | false=>exact .inl rfl
      | true =>
       rcases c3.leads hc with g | g
       ·exact .inr g.1
       ·exact absurd g.1 hk2) (by rw [hLt];exact h)
     rw [hLt] at this;exact this
    rcases i5 with ⟨g2,g3⟩ | ⟨g2,g3⟩
    ·by_cases ht:(X.get z e (S'.nd j) m).2.term=M
     ·refine .inr ⟨ht,hw2 ht ⟨0,aA _,aA _,by simp,by omega⟩⟩
     ·refine .inl ⟨by omega,?_⟩;have hp:=(l6 (z:=z) (e:=e) (s:=S'.nd j) hfr).1;rw [aw hk2] at hp;have hr:=c3.reach;show pl (X.get z e (S'.nd j) m).2+((bM M j q+0:Nat):Int)<=B;by_cases h3:m.kind=3
      ·have hm1:bM M j [m]=m.B.length:=by
        unfold bM;rw [fw,ax (by simp only [aR];omega),List.filter_nil,j9,kP,ax ⟨c2,h3⟩];rfl
       rw [ax h3] at hp;omega
      ·rw [aw h3] at hp;omega
    ·have ht:(X.get z e (S'.nd j) m).2.term=M:=by omega
     exact .inr ⟨ht,hw2 ht g3⟩
   ·rcases i5 with ⟨g1,g2⟩ | g
    ·exact .inl ⟨g1,by show pl (S'.nd j)+((bM M j q+0:Nat):Int)<=B;omega⟩
    ·exact .inr g) k S2 p2 ⟨rfl,h1,rfl,hw⟩ hk
 rcases q4.2.2.2 with ⟨g1,g2⟩ | g
 ·exact .inl ⟨g1,by omega⟩
 ·exact .inr g
end
end Go.Proofs.Ytnicaicjgaoolaa.X
