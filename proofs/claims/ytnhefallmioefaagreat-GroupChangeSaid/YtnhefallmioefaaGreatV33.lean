/-
  What the proof of the law leans on: contracts of the program's functions, one behind another. No condition.
-/
import Derived.Test.YtnhefallmioefaaGreatV0
import Derived.Test.YtnhefallmioefaaGreatV32
import Derived.Test.YtnhefallmioefaaGreatV28
import Derived.Test.YtnhefallmioefaaGreatV22
set_option linter.unusedVariables false
set_option linter.unusedSimpArgs false
namespace Go.Proofs.YtnhefallmioefaaGreat.X
set_option maxRecDepth 20000
section
variable {ρ:Type} {z:ρ->Bool} {e:ρ}
variable {n i F l len:Nat} {b b' M T:Int} {S S' S0 S1 S2 S3:Cs ρ} {G:Gh ρ} {m:Ms ρ} {s s':Nd ρ} {r:List (Ms ρ)×Nd ρ} {ms q:List (Ms ρ)} {Λ:Nat}
def pl (s:Nd ρ):Int:=(s.cnt:Int) - 2*s.term - (if s.choice = -1 then 0 else 1)
theorem Co (s:Nd ρ):(s.cnt:Int)<=pl s+2*s.term+1:=by unfold pl;split<;>omega
theorem pW (h1:s'.cnt=s.cnt) (h2:s'.term=s.term) (h3:s'.choice=s.choice):pl s'=pl s:=by unfold pl;rw [h1,h2,h3]
theorem qZ (t w:Int) (h:s.term<t):pl (enter s t w)<=pl s:=by
 unfold pl;show ((s.cnt+1:Nat):Int) - 2*t - (if w = -1 then 0 else 1)<=_;split<;>split<;>omega
theorem DP (w:Int) (h:s.choice = -1) (hw:w ≠ -1):pl (enter s s.term w)=pl s:=by
 unfold pl;show ((s.cnt+1:Nat):Int) - 2*s.term - (if w = -1 then 0 else 1)=_;rw [aw hw,aA h];omega
theorem uz (s:Nd ρ):pl (lead z e s).2=pl s+1:=by
 obtain ⟨h1,h2,h3,h4,h5,h6,h7,h8,h9,h10,h11,h12,h13⟩:=eW (z:=z) (s:=place { s with leads:=true,next:=List.replicate s.n s.log.length,mat:=List.replicate s.n 0 } s.log.length (s.term,e));unfold pl;show (((X.settle z _).2.cnt:Nat):Int) - 2*(X.settle z _).2.term - (if (X.settle z _).2.choice = -1 then 0 else 1)=_;rw [h12,h6,h7];show ((s.cnt+1:Nat):Int) - 2*s.term - (if s.choice = -1 then 0 else 1)=_;omega
theorem yE (s:Nd ρ) (k:Nat):pl (X.agree z s k)=pl s:=by
 refine pW ?_ ?_ ?_<;>(unfold X.agree;split<;>rfl)
def zm (p:Nat):List (Int×ρ)->Nat->Nd ρ->Nat
 | [],_,_=>0
 | (t,rec)::l,i,s =>
  if p+i<s.log.length/\bF s.log (p+i+1)=t then zm p l (i+1) s
  else if t<1\/s.term<t\/p+i<s.agreed then 0
  else zm p l (i+1) (place s (p+i) (t,rec))+1
theorem zi (p:Nat) (l:List (Int×ρ)):∀(j:Nat) (s:Nd ρ),pl (bE p l j s).2=pl s+zm p l j s/\zm p l j s<=l.length:=by
 induction l with
 | nil=>intro j s;exact ⟨by show pl s=pl s+((0:Nat):Int);omega,ah _⟩
 | cons x l ih =>
  intro j s;obtain ⟨t,rec⟩:=x;unfold bE zm;rw [aY];split
  ·grind
  ·split
   ·grind
   ·grind [place,pl]
theorem CI (hf:0<=m.frm):pl (X.get z e s m).2<=pl s+(if m.kind=3 then (m.B.length:Int) else if m.kind=2 then 1 else 0)/\(m.kind=2->(X.get z e s m).2.leads=false\/s.leads=true->pl (X.get z e s m).2<=pl s)/\(m.kind=3->m.N.getD 0 0<s.term->pl (X.get z e s m).2<=pl s):=by
 have hin:∀s1:Nd ρ,m.N.getD 0 0<=s1.term->pl (getIn z e s1 m).2<=pl s1+(if m.kind=3 then (m.B.length:Int) else if m.kind=2 then 1 else 0)/\(m.kind=2->(getIn z e s1 m).2.leads=false\/s1.leads=true->pl (getIn z e s1 m).2<=pl s1)/\(m.kind=3->m.N.getD 0 0<s1.term->pl (getIn z e s1 m).2<=pl s1):=λs1 hN=>by
  unfold getIn;split
  ·grind [asked,pl,enter,DP]
  ·split
   ·rename_i hk;unfold voted;split
    ·grind
    ·rename_i hy;simp only;split
     ·have h1:=uz (z:=z) (e:=e) { s1 with votes:=s1.votes.set m.frm.toNat true };have h2:pl { s1 with votes:=s1.votes.set m.frm.toNat true }=pl s1:=rfl;refine ⟨by rw [h1,h2];omega,λ_ h=>?_,λh=>by omega⟩;simp only [bG,bL,bX,not_or,ne_eq,dN,xu] at hy;have hld:=ie (z:=z) (e:=e) { s1 with votes:=s1.votes.set m.frm.toNat true };rw [hld.leads,hy.1.1.1] at h;rcases h with h | h<;>cases h
     ·exact ⟨by show pl s1<=_;omega,λ_ _=>aX _,λh=>by omega⟩
   ·split
    ·rename_i hk;unfold lays;split
     ·grind
     ·split
      ·grind
      ·rename_i hlt;refine ⟨?_,λh=>by omega,λ_ h=>absurd h hlt⟩;simp only;split
       ·obtain ⟨h1,h2⟩:=zi (m.N.getD 1 0).toNat ((m.N.drop 4).zip m.B) 0 { s1 with ticks:=0 };have hz:((m.N.drop 4).zip m.B).length<=m.B.length:=by rw [oq];omega
        have h0:pl ({ s1 with ticks:=0 }:Nd ρ)=pl s1:=rfl;rw [h0] at h1;generalize bE (m.N.getD 1 0).toNat ((m.N.drop 4).zip m.B) 0 { s1 with ticks:=0 }=p at *;split
        ·grind [pl,yE]
        ·show pl p.2<=_;rw [h1];omega
       ·show pl s1<=_;omega
    ·grind [answered,pl,eW,pW]
 unfold X.get;split
 ·grind
 ·split
  ·rename_i ht;have h1:=qZ (s:=s) (m.N.getD 0 0) (-1) ht;obtain ⟨a1,a2,a3⟩:=hin (enter s (m.N.getD 0 0) (-1)) (aX _);refine ⟨by omega,λhk hl=>?_,λ_ h=>by omega⟩;have hv:(getIn z e (enter s (m.N.getD 0 0) (-1)) m).2.leads=false:=by
    have hc:(enter s (m.N.getD 0 0) (-1)).choice = -1:=rfl;unfold getIn;rw [aw (by omega),aA hk];unfold voted;rw [aA (by
     rw [hc];simp only [bG,bL,bX];exact .inl (.inr (by omega)))]
    exact nX _ ht
   have:=a2 hk (.inl hv);omega
  ·exact hin s (by omega)
theorem AH (hb:s.own<s.n) (ht:s.term<1099511627776):pl (X.tick z e s).2<=pl s+(if s.n=1 then 1 else 0):=by
 have hif:(0:Int)<=(if s.n=1 then 1 else 0):=by split<;>omega
 rcases iP (z:=z) (e:=e) s with ⟨h1,h2⟩ | ⟨h1,h2,h3,h4⟩ | ⟨h1,h2,h3,h4⟩ | ⟨h1,h2,h3,h4⟩
 ·rw [h2];show pl s<=_;omega
 ·rw [h4,kJ hb ht];have hst:pl (fB s)<=pl s:=qZ (s:={ s with clock:=s.clock+1,ticks:=s.ticks+1 }) (s.term+1) (s.own:Int) (by show s.term<s.term+1;omega);split
  ·rw [uz];omega
  ·show pl (fB s)<=_;omega
 ·rw [h4];show pl s<=_;omega
 ·rw [h4];show pl s<=_;omega
theorem vt (x:ρ):pl (X.submit z s x).2.2<=pl s+1:=by
 unfold X.submit;split
 ·show pl s<=_;omega
 ·grind [pl,eW,place,pW]
theorem BR:pl (X.back s)=pl s:=rfl
end
section
variable {ρ:Type} {z:ρ->Bool} {e:ρ}
variable {n i F l len:Nat} {b b' M T:Int} {S S' S0 S1 S2 S3:Cs ρ} {G:Gh ρ} {m:Ms ρ} {s s':Nd ρ} {r:List (Ms ρ)×Nd ρ} {ms q:List (Ms ρ)} {Λ:Nat}
def bN (i:Nat) (q:List (Ms ρ)):Nat:=((q.filter λx=>x.dst==(i:Int)&&x.kind==3).map λx=>x.B.length).sum
theorem Ah:bN i ([]:List (Ms ρ))=0:=rfl
theorem CR (a c:List (Ms ρ)):bN i (a++c)=bN i a+bN i c:=by unfold bN;rw [cT,bS,List.sum_append]
theorem qm (x:Ms ρ) (c:List (Ms ρ)):bN i (x::c)=(if x.dst=(i:Int)/\x.kind=3 then x.B.length else 0)+bN i c:=by
 grind [bN,xt]
theorem Ag (q:List (Ms ρ)) (h:∀x∈q,x.kind≠3):bN i q=0:=by
 induction q with
 | nil=>rfl
 | cons x q ih =>
  rw [qm,aw (λg=>h x cz g.2),ih λy hy=>h y (aU _ hy)]
theorem lP (s:Nd ρ) (d:Nat):(cO s d).B.length<=20:=by rw [(pg s d).2.2.2.2.2.2];omega
theorem l4 (s:Nd ρ) (i:Nat):bN i (dz s (cO s))<=20:=by
 unfold dz;have key:∀k,(bN i (((List.range k).filter λj=>j != s.own).map (cO s))<=if i<k then 20 else 0):=by
  intro k;induction k with
  | zero=>exact aH _
  | succ k ih =>
   rw [dT,cT,bS,CR];have h1:bN i (([k].filter λj=>j != s.own).map (cO s))<=if i=k then 20 else 0:=by
    by_cases hk:(k != s.own)=true
    ·rw [show [k].filter (λj=>j != s.own)=[k] by simp [hk]];show bN i [cO s k]<=_;rw [qm,Ah];by_cases e1:i=k
     ·grind [lP]
     ·rw [aw e1,aw (λg=>e1 (by have:((k:Nat):Int)=(i:Int):=g.1;omega))];exact ah _
    ·rw [show [k].filter (λj=>j != s.own)=[] by simp [hk]];exact aH _
   by_cases e1:i<k
   ·grind
   ·grind
 have:=key s.n;split at this<;>omega
theorem Af (s:Nd ρ) (d:Nat):bN i [cO s d]<=20:=by
 grind [qm,Ah,lP]
theorem CL (i:Nat):bN i (X.get z e s m).1<=20/\(m.kind=2->bN i (X.get z e s m).1≠0->¬Zz s/\Zz (X.get z e s m).2)/\∀x∈(X.get z e s m).1,x.B.length<=20:=by
 have hs:∀(s1:Nd ρ) (d k:Int) (N:List Int),k≠3->bN i [say s1 d k N]=0:=λs1 d k N hk=>Ag _ λx hx=>by rw [aj.1 hx];exact hk
 have hsB:∀(s1:Nd ρ) (d k:Int) (N:List Int),∀x∈[say s1 d k N],x.B.length<=20:=λs1 d k N x hx=>by rw [aj.1 hx];exact aH _
 have hoB:∀s1:Nd ρ,∀x∈dz s1 (cO s1),x.B.length<=20:=λs1 x hx=>by obtain ⟨d,_,_,rfl⟩:=dp _ _ _ hx;exact lP s1 d
 have hlB:∀(s1:Nd ρ) (d:Nat),∀x∈[cO s1 d],x.B.length<=20:=λs1 d x hx=>by rw [aj.1 hx];exact lP s1 d
 have hnB:∀x∈([]:List (Ms ρ)),x.B.length<=20:=λx hx=>by cases hx
 have hin:∀s1:Nd ρ,bN i (getIn z e s1 m).1<=20/\(m.kind=2->bN i (getIn z e s1 m).1≠0->¬Zz s1/\Zz (getIn z e s1 m).2)/\∀x∈(getIn z e s1 m).1,x.B.length<=20:=λs1=>by
  unfold getIn;split
  ·rename_i hk;unfold asked;split
   ·grind
   ·exact ⟨aH _,λh=>by omega,hnB⟩
  ·split
   ·unfold voted;split
    ·exact ⟨aH _,λ_ h=>absurd rfl h,hnB⟩
    ·rename_i hy;simp only [bG,bL,bX,not_or,ne_eq,dN,xu] at hy;obtain ⟨⟨⟨hy1,hy2⟩,hy3⟩,hy4⟩:=hy;have hz:¬Zz s1:=λh=>by
      rcases h with h | h
      ·rw [hy1] at h;cases h
      ·exact h hy3
     simp only;split
     ·have h:=ie (z:=z) (e:=e) { s1 with votes:=s1.votes.set m.frm.toNat true };rw [h.ms];exact ⟨l4 _ _,λ_ _=>⟨hz,.inl h.leads⟩,hoB _⟩
     ·exact ⟨aH _,λ_ h=>absurd rfl h,hnB⟩
   ·rename_i h1 h2;split
    ·unfold lays;split
     ·exact ⟨aH _,λh=>absurd h h2,hnB⟩
     ·split
      ·grind
      ·simp only;split
       ·split
        ·grind
        ·exact ⟨aH _,λh=>absurd h h2,hnB⟩
       ·grind
    ·split
     ·unfold answered;split
      ·exact ⟨aH _,λh=>absurd h h2,hnB⟩
      ·simp only;split
       ·split
        ·exact ⟨aH _,λh=>absurd h h2,hnB⟩
        ·grind [Af]
       ·split
        ·exact ⟨aH _,λh=>absurd h h2,hnB⟩
        ·split
         ·grind [l4]
         ·split
          ·grind [Af]
          ·exact ⟨aH _,λh=>absurd h h2,hnB⟩
     ·split
      ·split<;>exact ⟨aH _,λh=>absurd h h2,hnB⟩
      ·exact ⟨aH _,λh=>absurd h h2,hnB⟩
 unfold X.get;split
 ·exact ⟨aH _,λ_ h=>absurd rfl h,hnB⟩
 ·split
  ·rename_i ht;obtain ⟨a1,a2,a3⟩:=hin (enter s (m.N.getD 0 0) (-1));refine ⟨a1,λhk hne=>?_,a3⟩;exfalso;exact (a2 hk hne).1 (.inr (by show (-1:Int)≠(s.own:Int);omega))
  ·exact hin s
theorem AK (i:Nat) (ho:s.own<s.n) (ht:s.term<1099511627776):bN i (X.tick z e s).1<=(if s.leads=true then 20 else 0)/\∀x∈(X.tick z e s).1,x.B.length<=20:=by
 have ht5:∀(s1:Nd ρ) (k:Int),k≠3->bN i (dz s1 (bp s1 k))=0/\∀x∈dz s1 (bp s1 k),x.B.length<=20:=λs1 k hk =>
  ⟨Ag _ λx hx=>by obtain ⟨d,_,_,rfl⟩:=dp _ _ _ hx;exact hk,λx hx=>by obtain ⟨d,_,_,rfl⟩:=dp _ _ _ hx;exact aH _⟩
 rcases iP (z:=z) (e:=e) s with ⟨h1,h2⟩ | ⟨h1,h2,h3,h4⟩ | ⟨h1,h2,h3,h4⟩ | ⟨h1,h2,h3,h4⟩
 ·grind [l4,dp,lP]
 ·rw [h4,kJ ho ht];split
  ·have h:=ie (z:=z) (e:=e) (fB s);rename_i hn;have:(lead z e (fB s)).1=[]:=by
    rw [h.ms,List.eq_nil_iff_forall_not_mem];intro x hx;obtain ⟨d,d1,d2,_⟩:=dp _ _ _ hx;rw [h.n] at d1;rw [h.own] at d2;have d1:d<s.n:=d1;have d2:d≠s.own:=d2;omega
   rw [this];exact ⟨aH _,λx hx=>by cases hx⟩
  ·grind
 ·grind
 ·rw [h4];exact ⟨aH _,λx hx=>by cases hx⟩
end
section
variable {ρ:Type} {z:ρ->Bool} {e:ρ}
variable {n i F l len:Nat} {b b' M T:Int} {S S' S0 S1 S2 S3:Cs ρ} {G:Gh ρ} {m:Ms ρ} {s s':Nd ρ} {r:List (Ms ρ)×Nd ρ} {ms q:List (Ms ρ)} {Λ:Nat}
theorem Fm.frm0 (h:Fm n b m):0<=m.frm/\0<=m.dst:=by
 grind [h.f]
theorem Wk.fm (h:Wk z n b S) (hm:m∈S.q):Fm n b m:=by obtain ⟨G,hG⟩:=h;exact (hG.mi m hm).2
end
section
variable {ρ:Type} {z:ρ->Bool} {e:ρ}
variable {n i F l len:Nat} {b b' M T:Int} {S S' S0 S1 S2 S3:Cs ρ} {G:Gh ρ} {m:Ms ρ} {s s':Nd ρ} {r:List (Ms ρ)×Nd ρ} {ms q:List (Ms ρ)} {Λ:Nat}
instance:Decidable (Zz s):=by unfold Zz;infer_instance
end
section
variable {ρ:Type} {z:ρ->Bool} {e:ρ}
variable {n i F l len:Nat} {b b' M T:Int} {S S' S0 S1 S2 S3:Cs ρ} {G:Gh ρ} {m:Ms ρ} {s s':Nd ρ} {r:List (Ms ρ)×Nd ρ} {ms q:List (Ms ρ)} {Λ:Nat}
end
section
variable {ρ:Type} {z:ρ->Bool} {e:ρ}
variable {n i F l len:Nat} {b b' M T B:Int} {S S' S0 S1 S2 S3:Cs ρ} {G:Gh ρ} {m:Ms ρ} {s s':Nd ρ} {r:List (Ms ρ)×Nd ρ} {ms q:List (Ms ρ)} {Λ:Nat} {Lt:Lg ρ}
end
section
variable {ρ:Type} {z:ρ->Bool} {e:ρ}
variable {n i F l len:Nat} {b b' M T B:Int} {S S' S0 S1 S2 S3:Cs ρ} {G:Gh ρ} {m:Ms ρ} {s s':Nd ρ} {r:List (Ms ρ)×Nd ρ} {ms q:List (Ms ρ)} {Λ:Nat} {Lt:Lg ρ}
end
section
variable {ρ:Type} {z:ρ->Bool} {e:ρ}
variable {n i F l len:Nat} {b b' M T B:Int} {S S' S0 S1 S2 S3:Cs ρ} {G:Gh ρ} {m:Ms ρ} {s s':Nd ρ} {r:List (Ms ρ)×Nd ρ} {ms q:List (Ms ρ)} {Λ:Nat} {Lt:Lg ρ}
end
end Go.Proofs.YtnhefallmioefaaGreat.X
namespace Go.Proofs.YtnhefallmioefaaGreat
set_option maxRecDepth 20000
def pe {ρ:Type} (f:ρ->List UInt8) (x:Int×ρ):Ent:=⟨x.1,f x.2⟩
def dj {ρ:Type} (f:ρ->List UInt8) (m:X.Ms ρ):Msg:=⟨m.frm,m.dst,m.kind,m.N,m.B.map f⟩
def qw (k:Dk):Prop:=∀l q,k.file=some (l,q)->q=l.length
structure RelU {ρ:Type} (f:ρ->List UInt8) (s:Rp) (k:Dk) (c:X.Nd ρ):Prop where
 own:s.own=c.own
 n:s.n=c.n
 term:s.term=c.term
 choice:s.choice=c.choice
 log:s.log=c.log.map (pe f)
 agreed:s.agreed=c.agreed
 many:s.many=c.many
 leads:s.leads=c.leads
 votes:s.votes=c.votes
 next:s.next=c.next
 mat:s.mat=c.mat
 ticks:s.ticks=c.ticks
 clock:s.clock=c.clock
 heard:s.heard=c.heard
 done:s.done=false
 liv:s.lives=k.lives
 wliv:s.wl.lives=k.lives
 wdone:s.wl.done=false
 off:k.off=false
 room:k.room=1048576
 tot:k.total<=c.cnt*344
structure Rel {ρ:Type} (f:ρ->List UInt8) (s:Rp) (k:Dk) (c:X.Nd ρ):Prop where
 u:RelU f s k c
 syn:qw k
structure RelP {ρ:Type} (f:ρ->List UInt8) (p:List Msg×Rp×Dk) (q:List (X.Ms ρ)×X.Nd ρ):Prop where
 ms:p.1=q.1.map (dj f)
 rel:Rel f p.2.1 p.2.2 q.2
section
variable {ρ:Type} {f:ρ->List UInt8} {z:ρ->Bool} {e:ρ} {s:Rp} {k:Dk} {c:X.Nd ρ}
theorem B4 {s:Wl} (h:s.done=false):jE s 0=s:=by
 unfold jE;rw [h];obtain ⟨a,b,c⟩:=s;simp only at h;rw [h];rfl
theorem rf (h:RelU f s k c):kS s.wl k=false:=by
 unfold kS;rw [h.wdone,h.wliv,h.off];simp
theorem RelU.done_same (h:RelU f s k c):dQ s k=false/\aV s k=s:=by
 have hd:dQ s k=false:=by
  unfold dQ;rw [h.done,h.off,h.liv];simp
 refine ⟨hd,?_⟩;unfold aV;rw [hd,<-h.done]
theorem RelU.wl (h:RelU f s k c) {w':Wl} {k':Dk} (h1:w'.lives=k'.lives) (h2:w'.done=false) (h3:k'.lives=k.lives) (h4:k'.off=k.off) (h5:k'.room=k.room) {m:Nat} (h6:k'.total<=m*344):RelU f { s with wl:=w',done:=false } k' { c with cnt:=m } :=
 ⟨h.own,h.n,h.term,h.choice,h.log,h.agreed,h.many,h.leads,h.votes,h.next,h.mat,h.ticks,h.clock,h.heard,rfl,h.liv.trans h3.symm,h1,h2,h4.trans h.off,h5.trans h.room,h6⟩
theorem oK (h:RelU f s k c) (b:List UInt8) (hb:b.length<=332) (hc:c.cnt<=3030) :
  ∃s' k',bB s k b=(s',k')/\RelU f s' k' { c with cnt:=c.cnt+1 }:=by
 have ht:=h.tot;have hr:=h.room;have ha:fc s.wl k b=(0,{ s.wl with recs:=s.wl.recs++[b]},jI k (F.bV b)):=by
  grind [fc,rf,B4,fo,h.wdone]
 refine ⟨{ s with wl:={ s.wl with recs:=s.wl.recs++[b]},done:=false },jI k (F.bV b),?_,h.wl (w':={ s.wl with recs:=s.wl.recs++[b]}) (k':=jI k (F.bV b)) h.wliv h.wdone rfl rfl rfl ?_⟩
 ·unfold bB;rw [h.done,ha];simp
 ·show (jI k (F.bV b)).total<=(c.cnt+1)*344;rw [eG] at ht ⊢;rw [oe,ay,F.cX];omega
theorem mS (h:RelU f s k c):∃s' k',bT s k=(s',k')/\Rel f s' k' c:=by
 unfold bT fQ;rw [h.done,rf h,B4 h.wdone];simp only [fo,if_false];have ht:=h.tot;cases hk:k.file with
 | none=>exact ⟨{ s with wl:=s.wl,done:=false },k,by simp,⟨h.wl (w':=s.wl) (k':=k) h.wliv h.wdone rfl rfl rfl ht,λl q e=>by rw [hk] at e;cases e⟩⟩
 | some p =>
  obtain ⟨l,q⟩:=p;refine ⟨{ s with wl:=s.wl,done:=false },{ k with file:=some (l,l.length)},by simp,⟨h.wl (w':=s.wl) (k':={ k with file:=some (l,l.length)}) h.wliv h.wdone rfl rfl rfl ?_,λl2 q2 e2=>by cases e2;rfl⟩⟩;unfold Dk.total at ht ⊢;rw [hk] at ht;exact ht
theorem lW (h:RelU f s k c) (t w:Int) (hc:c.cnt<=3030):∃s' k',be s k t w=(true,s',k')/\Rel f s' k' (X.enter c t w):=by
 obtain ⟨s1,k1,e1,h1⟩:=oK h (dw t w) (by rw [iz];omega) hc;obtain ⟨s2,k2,e2,h2⟩:=mS h1;unfold be;rw [e1];simp only [h1.done,fo,if_false];rw [e2];simp only [h2.u.done,fo,if_false];refine ⟨_,k2,rfl,⟨⟨h2.u.own,h2.u.n,rfl,rfl,h2.u.log,h2.u.agreed,h2.u.many,?_,h2.u.votes,h2.u.next,h2.u.mat,h2.u.ticks,h2.u.clock,h2.u.heard,rfl,h2.u.liv,h2.u.wliv,h2.u.wdone,h2.u.off,h2.u.room,h2.u.tot⟩,h2.syn⟩⟩;show (s2.leads && !decide (s2.term<t))=(c.leads && !decide (c.term<t))
 rw [h2.u.leads,h2.u.term]
theorem oX (h:RelU f s k c) (p:Nat) (x:Int×ρ) (hx:(f x.2).length<=300) (hc:c.cnt<=3030):∃s' k',b8 s k p (pe f x)=(true,s',k')/\RelU f s' k' (X.place c p x):=by
 obtain ⟨s1,k1,e1,h1⟩:=oK h (db p (pe f x)) (by rw [gL];show 32+(f x.2).length<=332;omega) hc;unfold b8;rw [e1];simp only [h1.done,fo,if_false];refine ⟨_,k1,rfl,⟨h1.own,h1.n,h1.term,h1.choice,?_,h1.agreed,h1.many,h1.leads,h1.votes,h1.next,h1.mat,h1.ticks,h1.clock,h1.heard,rfl,h1.liv,h1.wliv,h1.wdone,h1.off,h1.room,h1.tot⟩⟩;show s1.log.take p++[pe f x]=(c.log.take p++[x]).map (pe f);rw [h1.log,bS,gW];rfl
theorem ux (h:RelU f s k c) (x:Int×ρ) (hx:(f x.2).length<=300) (hc:c.cnt<=3030):∃s' k',fg s k (pe f x)=(true,s',k')/\Rel f s' k' (X.place c c.log.length x):=by
 have hl:s.log.length=c.log.length:=by rw [h.log,aP]
 obtain ⟨s1,k1,e1,h1⟩:=oX h s.log.length x hx hc;obtain ⟨s2,k2,e2,h2⟩:=mS h1;unfold fg;rw [e1];simp only [if_true];rw [e2];refine ⟨s2,k2,by simp [h2.u.done],?_⟩;rw [<-hl];exact h2
theorem gj (l:List (Int×ρ)) (n:Nat):bJ (l.map (pe f)) n=X.bF l n:=by
 unfold bJ X.bF;cases n with
 | zero=>rfl
 | succ n =>
  rw [aw (by omega)];simp only [Nat.add_sub_cancel,pB,aF,hJ];cases l[n]? with
  | none=>rfl
  | some x=>rfl
theorem vp (l:List (Int×ρ)):(l.map (pe f)).map Ent.term=l.map Prod.fst:=by
 rw [pB];rfl
theorem CQ (l:List (Int×ρ)):(l.map (pe f)).map Ent.bs=(l.map Prod.snd).map f:=by
 rw [pB,pB];rfl
theorem gg (h:RelU f s k c) (d:Nat):bQ s d=dj f (X.cO c d):=by
 unfold bQ X.cO dj;simp only [h.own,h.term,h.next,h.agreed,h.log,gj,<-Dy,<-gW,vp,CQ]
theorem l5 (h:RelU f s k c) (kd:Int) (d:Nat):bp s kd d=dj f (X.bp c kd d):=by
 unfold bp X.bp dj da X.say;simp only [h.own,h.term,h.log,gj,aP,List.map_nil]
theorem jO (h:RelU f s k c) (d kd:Int) (N:List Int):da s d kd N=dj f (X.say c d kd N):=by
 unfold da X.say dj;simp only [h.own,List.map_nil]
theorem ks (h:RelU f s k c) (g:Nat->Msg) (g':Nat->X.Ms ρ) (hg:∀i,g i=dj f (g' i)):cR s g=(X.dz c g').map (dj f):=by
 unfold cR X.dz;rw [h.own,h.n,pB];exact Dn (λi _=>hg i)
section
variable (hz:∀x,z x=(f x).isEmpty)
include hz
theorem ng (l:List (Int×ρ)):recs (l.map (pe f))=(X.recs z l).map f:=by
 induction l with
 | nil=>rfl
 | cons a l ih =>
  unfold recs X.recs at *;simp only [dE,xt];have e1:(pe f a).bs.isEmpty=z a.2:=(hz a.2).symm;rw [e1];split
  ·simp only [dE,ih];rfl
  ·exact ih
theorem px (h:Rel f s k c) (m:Nat):Rel f (bM s m) k (X.agree z c m):=by
 have e:(recs ((s.log.take m).drop s.agreed)).length=(X.recs z ((c.log.take m).drop c.agreed)).length:=by
  rw [h.u.log,h.u.agreed,<-gW,<-Dy,ng hz,aP]
 unfold bM X.agree;rw [e,h.u.agreed];split
 ·exact ⟨⟨h.u.own,h.u.n,h.u.term,h.u.choice,h.u.log,rfl,by show s.many+_=c.many+_;rw [h.u.many],h.u.leads,h.u.votes,h.u.next,h.u.mat,h.u.ticks,h.u.clock,h.u.heard,h.u.done,h.u.liv,h.u.wliv,h.u.wdone,h.u.off,h.u.room,h.u.tot⟩,h.syn⟩
 ·exact h
omit hz in
theorem qQ (h:RelU f s k c) (m:Nat):_root_.Go.Proofs.YtnhefallmioefaaGreat.settleF s m=X.settleF c m:=by
 induction m with
 | zero=>rfl
 | succ m ih =>
  unfold _root_.Go.Proofs.YtnhefallmioefaaGreat.settleF X.settleF;rw [ih,h.agreed,h.log,gj,h.term];have e:jj s (eI s.mat (m+1))=X.cZ c (eI c.mat (m+1)):=by
   unfold jj X.cZ;rw [h.n,h.mat]
  rw [e]
theorem ka (h:Rel f s k c):(bI s).1=(X.settle z c).1/\Rel f (bI s).2 k (X.settle z c).2:=by
 have h1:Rel f { s with mat:=s.mat.set s.own s.log.length } k { c with mat:=c.mat.set c.own c.log.length } :=
  ⟨⟨h.u.own,h.u.n,h.u.term,h.u.choice,h.u.log,h.u.agreed,h.u.many,h.u.leads,h.u.votes,h.u.next,by show s.mat.set s.own s.log.length=c.mat.set c.own c.log.length;rw [h.u.mat,h.u.own,h.u.log,aP],h.u.ticks,h.u.clock,h.u.heard,h.u.done,h.u.liv,h.u.wliv,h.u.wdone,h.u.off,h.u.room,h.u.tot⟩,h.syn⟩
 have e:=qQ h1.u s.log.length;have hl:s.log.length=c.log.length:=by rw [h.u.log,aP]
 unfold bI X.settle;simp only;rw [e,hl];cases X.settleF { c with mat:=c.mat.set c.own c.log.length } c.log.length with
 | none=>exact ⟨rfl,by rw [hl] at h1;exact h1⟩
 | some m=>exact ⟨rfl,by have:=px hz h1 m;rw [hl] at this;exact this⟩
end
end
section
variable {ρ:Type} {f:ρ->List UInt8} {z:ρ->Bool} {e:ρ} {s:Rp} {k:Dk} {c:X.Nd ρ}
theorem RelU.mk2 (h:RelU f s k c) {s':Rp} {c':X.Nd ρ} (h1:s'.own=c'.own) (h2:s'.n=c'.n) (h3:s'.term=c'.term) (h4:s'.choice=c'.choice) (h5:s'.log=c'.log.map (pe f)) (h6:s'.agreed=c'.agreed) (h7:s'.many=c'.many) (h8:s'.leads=c'.leads) (h9:s'.votes=c'.votes) (h10:s'.next=c'.next) (h11:s'.mat=c'.mat) (h12:s'.ticks=c'.ticks) (h13:s'.clock=c'.clock) (h14:s'.heard=c'.heard) (g1:s'.done=s.done) (g2:s'.lives=s.lives) (g3:s'.wl=s.wl) (g4:c'.cnt=c.cnt):RelU f s' k c' :=
 ⟨h1,h2,h3,h4,h5,h6,h7,h8,h9,h10,h11,h12,h13,h14,g1.trans h.done,g2.trans h.liv,by rw [g3];exact h.wliv,by rw [g3];exact h.wdone,h.off,h.room,by rw [g4];exact h.tot⟩
theorem RelU.len (h:RelU f s k c):s.log.length=c.log.length:=by rw [h.log,aP]
theorem n7 (h:RelU f s k c):ft s=X.jf c:=by
 unfold ft jj X.jf X.cZ;rw [h.n,h.votes]
theorem Aa (h:RelU f s k c):jF s=X.ud c:=by
 unfold jF X.ud;rw [h.heard];congr 1;funext i;unfold _root_.Go.Proofs.YtnhefallmioefaaGreat.better X.better;rw [h.clock,h.log,gj,aP,h.own]
theorem ef (h:Rel f s k c):RelP f ([],s,k) ([],c):=⟨rfl,h⟩
theorem gx (h:Rel f s k c) {m:Msg} {m':X.Ms ρ} (e:m=dj f m'):RelP f ([m],s,k) ([m'],c):=⟨by rw [e];rfl,h⟩
theorem kO (h:Rel f s k c) (g:Nat->Msg) (g':Nat->X.Ms ρ) (hg:∀i,g i=dj f (g' i)):RelP f (cR s g,s,k) (X.dz c g',c):=⟨ks h.u g g' hg,h⟩
theorem uL {P Q:Prop} [Decidable P] [Decidable Q] {a b:List Msg×Rp×Dk} {a' b':List (X.Ms ρ)×X.Nd ρ} (e:P=Q) (ha:Q->RelP f a a') (hb:¬Q->RelP f b b'):RelP f (if P then a else b) (if Q then a' else b'):=by
 grind
section
variable (hz:∀x,z x=(f x).isEmpty) (he:f e=[])
include hz he
theorem rD (h:Rel f s k c) (hc:c.cnt<=3030):RelP f (fT s k) (X.lead z e c):=by
 have h1:Rel f { s with leads:=true,next:=List.replicate s.n s.log.length,mat:=List.replicate s.n 0 } k { c with leads:=true,next:=List.replicate c.n c.log.length,mat:=List.replicate c.n 0 } :=
  ⟨h.u.mk2 h.u.own h.u.n h.u.term h.u.choice h.u.log h.u.agreed h.u.many rfl h.u.votes (by show List.replicate s.n s.log.length=List.replicate c.n c.log.length;rw [h.u.n,h.u.len]) (by show List.replicate s.n 0=List.replicate c.n 0;rw [h.u.n]) h.u.ticks h.u.clock h.u.heard rfl rfl rfl rfl,h.syn⟩
 obtain ⟨s2,k2,e2,h2⟩:=ux h1.u (c.term,e) (by rw [he];simp) hc;have e3:pe f (c.term,e)=⟨s.term,[]⟩:=by unfold pe;rw [he,h.u.term]
 rw [e3] at e2;have h3:=(ka hz h2).2;unfold fT X.lead;simp only;rw [e2];simp only [if_true];exact kO h3 _ _ (λi=>gg h3.u i)
theorem vz (h:Rel f s k c) (hc:c.cnt<=3020):RelP f (fR s k) (X.stand z e c):=by
 unfold fR X.stand;rw [h.u.term];split
 ·exact ef h
 ·obtain ⟨s1,k1,e1,h1⟩:=lW h.u (c.term+1) (c.own:Int) (by omega);simp only;rw [h.u.own,e1];simp only [if_true];have h2:Rel f { s1 with ticks:=0,votes:=(List.replicate s.n false).set c.own true } k1 { X.enter c (c.term+1) (c.own:Int) with ticks:=0,votes:=(List.replicate c.n false).set c.own true } :=
   ⟨h1.u.mk2 h1.u.own h1.u.n h1.u.term h1.u.choice h1.u.log h1.u.agreed h1.u.many h1.u.leads (by show (List.replicate s.n false).set c.own true=_;rw [h.u.n]) h1.u.next h1.u.mat rfl h1.u.clock h1.u.heard rfl rfl rfl rfl,h1.syn⟩
  rw [n7 h2.u];split
  ·exact rD hz he h2 (by show c.cnt+1<=3030;omega)
  ·grind [kO,l5,h2.u]
theorem qJ (h:Rel f s k c) (hc:c.cnt<=3020):RelP f (dX s k) (X.tick z e c):=by
 have h1:Rel f { s with clock:=s.clock+1 } k { c with clock:=c.clock+1 } :=
  ⟨h.u.mk2 h.u.own h.u.n h.u.term h.u.choice h.u.log h.u.agreed h.u.many h.u.leads h.u.votes h.u.next h.u.mat h.u.ticks (by show s.clock+1=c.clock+1;rw [h.u.clock]) h.u.heard rfl rfl rfl rfl,h.syn⟩
 have h2:Rel f { s with clock:=s.clock+1,ticks:=s.ticks+1 } k { c with clock:=c.clock+1,ticks:=c.ticks+1 } :=
  ⟨h.u.mk2 h.u.own h.u.n h.u.term h.u.choice h.u.log h.u.agreed h.u.many h.u.leads h.u.votes h.u.next h.u.mat (by show s.ticks+1=c.ticks+1;rw [h.u.ticks]) (by show s.clock+1=c.clock+1;rw [h.u.clock]) h.u.heard rfl rfl rfl rfl,h.syn⟩
 have hb:=Aa h2.u;have ht:s.ticks+1=c.ticks+1:=by rw [h.u.ticks]
 unfold dX X.tick;simp only;rw [h.u.done_same.2,aw (by rw [h.u.done];simp)];refine uL (by rw [h.u.leads]) (λ_=>kO h1 _ _ (λi=>gg h1.u i)) λ_=>?_;refine uL (by rw [hb,ht]) (λ_=>vz hz he h2 hc) λ_=>?_;exact uL (by rw [ht]) (λ_=>kO h2 _ _ (λi=>l5 h2.u 5 i)) (λ_=>ef h2)
omit hz he in
theorem xe (h:Rel f s k c) (hc:c.cnt<=3020) (m:X.Ms ρ):RelP f (dW s k (dj f m)) (X.asked c m):=by
 unfold dW X.asked;refine uL rfl (λ_=>?_) (λ_=>ef h);simp only;refine uL ?_ (λ_=>?_) (λ_=>gx h (by rw [h.u.term];exact jO h.u _ _ _))
 ·rw [h.u.log,gj,aP,h.u.term,h.u.choice];rfl
 ·refine uL (by rw [h.u.choice]) (λ_=>?_) (λ_=>?_)
  ·obtain ⟨s1,k1,e1,h1⟩:=lW h.u c.term m.frm (by omega);have h2:Rel f { s1 with ticks:=0 } k1 { X.enter c c.term m.frm with ticks:=0 } :=
    ⟨h1.u.mk2 h1.u.own h1.u.n h1.u.term h1.u.choice h1.u.log h1.u.agreed h1.u.many h1.u.leads h1.u.votes h1.u.next h1.u.mat rfl h1.u.clock h1.u.heard rfl rfl rfl rfl,h1.syn⟩
   have e2:be s k s.term (dj f m).frm=(true,s1,k1):=by rw [h.u.term];exact e1
   rw [e2];simp only [if_true];have h3:s1.term=c.term:=h1.u.term;refine gx h2 ?_;rw [h3];exact jO h2.u _ _ _
  ·have h2:Rel f { s with ticks:=0 } k { c with ticks:=0 } :=
    ⟨h.u.mk2 h.u.own h.u.n h.u.term h.u.choice h.u.log h.u.agreed h.u.many h.u.leads h.u.votes h.u.next h.u.mat rfl h.u.clock h.u.heard rfl rfl rfl rfl,h.syn⟩
   refine gx h2 ?_;have h3:da { s with ticks:=0 } (dj f m).frm 2 [s.term,1]=dj f (X.say { c with ticks:=0 } m.frm 2 [c.term,1]):=by rw [h.u.term];exact jO h2.u _ _ _
   exact h3
theorem vf (h:Rel f s k c) (hc:c.cnt<=3020) (m:X.Ms ρ):RelP f (eF s k (dj f m)) (X.voted z e c m):=by
 have h2:Rel f { s with votes:=s.votes.set m.frm.toNat true } k { c with votes:=c.votes.set m.frm.toNat true } :=
  ⟨h.u.mk2 h.u.own h.u.n h.u.term h.u.choice h.u.log h.u.agreed h.u.many h.u.leads (by show s.votes.set _ _=_;rw [h.u.votes]) h.u.next h.u.mat h.u.ticks h.u.clock h.u.heard rfl rfl rfl rfl,h.syn⟩
 have hch:=n7 h2.u;unfold eF X.voted;refine uL ?_ (λ_=>ef h) (λ_=>?_)
 ·rw [h.u.leads,h.u.term,h.u.choice,h.u.own];rfl
 ·simp only;refine uL ?_ (λ_=>rD hz he h2 (by show c.cnt<=3030;omega)) (λ_=>ef h2);rw [<-hch];rfl
omit he in
theorem mV (h:Rel f s k c) (hc:c.cnt<=3020) (x:ρ) (hx:(f x).length<=300) (hne:z x=false):∃er,bw s k (f x)=((X.submit z c x).1.map (dj f),er,(bw s k (f x)).2.2)/\(er=0↔(X.submit z c x).2.1=true)/\Rel f (bw s k (f x)).2.2.1 (bw s k (f x)).2.2.2 (X.submit z c x).2.2:=by
 have hn:(f x).length≠0:=by
  grind
 have ho:ia s=X.yJ z c:=by
  unfold ia X.yJ;rw [h.u.log,h.u.agreed,h.u.term,<-Dy,List.filter_map,aP];congr 2;funext y;simp [pe,hz]
 obtain ⟨s2,k2,e2,h2⟩:=ux h.u (c.term,x) hx (by omega);have h3:=(ka hz h2).2;have e3:pe f (c.term,x)=⟨s.term,f x⟩:=by unfold pe;rw [h.u.term]
 rw [e3] at e2;have E:bw s k (f x)=if !s.leads then ([],15,s,k) else if 200<=ia s\/2000<=s.many then ([],9,s,k) else (let s2:=(bI s2).2;(cR s2 (bQ s2),0,s2,k2)):=by
  unfold bw;rw [aw hn,aw (by omega)];simp only;rw [h.u.done_same.2,h.u.done,e2];simp
 rw [E];unfold X.submit;rw [h.u.leads,ho,h.u.many];split
 ·exact ⟨15,rfl,by simp,h⟩
 ·grind [ks,gg,h3.u]
omit hz he in
theorem wz (hf:∀x,(f x).length<=300) (fr:Nat) (l:List (Int×ρ)):∀(i:Nat) (s:Rp) (k:Dk) (c:X.Nd ρ),RelU f s k c->c.cnt+l.length<=3030 ->
  (bE fr (l.map λx=>(x.1,f x.2)) i s k).1=(X.bE fr l i c).1/\RelU f (bE fr (l.map λx=>(x.1,f x.2)) i s k).2.1 (bE fr (l.map λx=>(x.1,f x.2)) i s k).2.2 (X.bE fr l i c).2:=by
 induction l with
 | nil=>intro i s k c h _;exact ⟨rfl,h⟩
 | cons a l ih =>
  intro i s k c h hc;obtain ⟨t,rec⟩:=a;simp only [aY] at hc;have hL:(s.log.map Ent.term).getD (fr+i) 0=X.bF c.log (fr+i+1):=by
   rw [<-gj (f:=f),<-h.log];unfold bJ;rw [aw (by omega)];rfl
  obtain ⟨s1,k1,e1,h1⟩:=oX h (fr+i) (t,rec) (hf rec) (by omega);have e3:pe f (t,rec)=⟨t,f rec⟩:=rfl;rw [e3] at e1;simp only [dE];unfold bE X.bE;simp only [hL,h.len,h.term,h.agreed];rw [e1];have hr:=hf rec;by_cases g1:fr+i<c.log.length/\X.bF c.log (fr+i+1)=t
  ·grind
  ·rw [aw g1,aw g1];by_cases g2:t<1\/c.term<t\/fr+i<c.agreed
   ·grind
   ·rw [aw g2,aw (by rintro (g | g);omega;exact g2 g)];simp only [if_true];exact ih _ _ _ _ h1 (by show c.cnt+1+l.length<=3030;omega)
omit hz he in
theorem AB (N:List Int) (B:List ρ):N.zip (B.map f)=(N.zip B).map λx=>(x.1,f x.2):=by
 rw [List.zip_map_right];rfl
omit he in
theorem zf (hf:∀x,(f x).length<=300) (h:Rel f s k c) (hc:c.cnt<=3000) (m:X.Ms ρ) (hb:m.B.length<=20) (hbad:(X.lays z c m).2.bad=false):RelP f (dH s k (dj f m)) (X.lays z c m):=by
 have h1:Rel f { s with ticks:=0 } k { c with ticks:=0 } :=
  ⟨h.u.mk2 h.u.own h.u.n h.u.term h.u.choice h.u.log h.u.agreed h.u.many h.u.leads h.u.votes h.u.next h.u.mat rfl h.u.clock h.u.heard rfl rfl rfl rfl,h.syn⟩
 have hfit:ey { s with ticks:=0 } (m.N.getD 1 0) (m.N.getD 2 0)=X.zX { c with ticks:=0 } (m.N.getD 1 0) (m.N.getD 2 0):=by
  unfold ey X.zX;simp only [h.u.log,gj,aP]
 have hzl:((m.N.drop 4).zip m.B).length<=20:=by rw [oq];omega
 obtain ⟨l1,l2⟩:=wz hf (m.N.getD 1 0).toNat ((m.N.drop 4).zip m.B) 0 _ k _ h1.u (by show c.cnt+_<=3030;omega);rw [<-AB] at l1 l2;revert hbad;have hA:∀(s2:Rp) (k2:Dk) (c2:X.Nd ρ),Rel f s2 k2 c2->RelP f (([da (bM s2 (min (m.N.getD 3 0) (((m.N.getD 1 0).toNat+m.B.length:Nat):Int)).toNat) m.frm 4 [(bM s2 (min (m.N.getD 3 0) (((m.N.getD 1 0).toNat+m.B.length:Nat):Int)).toNat).term,1,(((m.N.getD 1 0).toNat+m.B.length:Nat):Int)]],bM s2 (min (m.N.getD 3 0) (((m.N.getD 1 0).toNat+m.B.length:Nat):Int)).toNat,k2)) ([X.say (X.agree z c2 (min (m.N.getD 3 0) (((m.N.getD 1 0).toNat+m.B.length:Nat):Int)).toNat) m.frm 4 [(X.agree z c2 (min (m.N.getD 3 0) (((m.N.getD 1 0).toNat+m.B.length:Nat):Int)).toNat).term,1,(((m.N.getD 1 0).toNat+m.B.length:Nat):Int)]],X.agree z c2 (min (m.N.getD 3 0) (((m.N.getD 1 0).toNat+m.B.length:Nat):Int)).toNat):=by
  intro s2 k2 c2 h2;have h3:=px hz h2 (min (m.N.getD 3 0) (((m.N.getD 1 0).toNat+m.B.length:Nat):Int)).toNat;refine gx h3 ?_;rw [h3.u.term];exact jO h3.u _ _ _
 unfold dH X.lays;have hBl:(dj f m).B.length=m.B.length:=aP _;rw [hBl];have hP:(!((dj f m).N.length==4+m.B.length)||decide ((dj f m).N.getD 1 0<0)||((dj f m).N.getD 0 0==s.term&&s.leads))=(!(m.N.length==4+m.B.length)||decide (m.N.getD 1 0<0)||(m.N.getD 0 0==c.term&&c.leads)):=by rw [h.u.term,h.u.leads];rfl
 rw [hP];by_cases q1:(!(m.N.length==4+m.B.length)||decide (m.N.getD 1 0<0)||(m.N.getD 0 0==c.term&&c.leads))=true
 ·grind [ef]
 ·rw [aw q1,aw q1];by_cases q2:m.N.getD 0 0<c.term
  ·rw [aA q2,aA (show (dj f m).N.getD 0 0<s.term by rw [h.u.term];exact q2)];intro _;exact gx h (by rw [h.u.term];exact jO h.u _ _ _)
  ·rw [aw q2,aw (show ¬(dj f m).N.getD 0 0<s.term by rw [h.u.term];exact q2)];simp only;by_cases q3:X.zX { c with ticks:=0 } (m.N.getD 1 0) (m.N.getD 2 0)=true
   ·rw [aA q3,aA (show ey { s with ticks:=0 } ((dj f m).N.getD 1 0) ((dj f m).N.getD 2 0)=true from hfit.trans q3)];have l1':(bE ((dj f m).N.getD 1 0).toNat (((dj f m).N.drop 4).zip (dj f m).B) 0 { s with ticks:=0 } k).1=(X.bE (m.N.getD 1 0).toNat ((m.N.drop 4).zip m.B) 0 { c with ticks:=0 }).1:=l1;by_cases q4:(X.bE (m.N.getD 1 0).toNat ((m.N.drop 4).zip m.B) 0 { c with ticks:=0 }).1=true
    ·rw [aA q4,aA (l1'.trans q4)];intro _;obtain ⟨s2,k2,e2,h2⟩:=mS l2;have e2':bT (bE ((dj f m).N.getD 1 0).toNat (((dj f m).N.drop 4).zip (dj f m).B) 0 { s with ticks:=0 } k).2.1 (bE ((dj f m).N.getD 1 0).toNat (((dj f m).N.drop 4).zip (dj f m).B) 0 { s with ticks:=0 } k).2.2=(s2,k2):=e2;by_cases hb0:m.B.length=0
     ·rw [aA hb0,aw (by omega)];have hB:m.B=[]:=List.eq_nil_of_length_eq_zero hb0;have hl0:(bE ((dj f m).N.getD 1 0).toNat (((dj f m).N.drop 4).zip (dj f m).B) 0 { s with ticks:=0 } k)=(true,{ s with ticks:=0 },k):=by
       unfold dj;simp [hB,bE]
      have hl1:(X.bE (m.N.getD 1 0).toNat ((m.N.drop 4).zip m.B) 0 { c with ticks:=0 })=(true,{ c with ticks:=0 }):=by
       simp [hB,X.bE]
      rw [hl0,hl1];exact hA _ _ _ h1
     ·rw [aw hb0,e2',aw (by rw [h2.u.done];simp)];exact hA _ _ _ h2
    ·rw [aw q4];intro hx;cases hx
   ·rw [aw q3,aw (show ¬ey { s with ticks:=0 } ((dj f m).N.getD 1 0) ((dj f m).N.getD 2 0)=true from λx=>q3 (hfit.symm.trans x))];intro _;refine gx h1 ?_;rw [h.u.term,h.u.len];exact jO h1.u _ _ _
omit he in
theorem qn (h:Rel f s k c) (m:X.Ms ρ):RelP f ((bR s (dj f m)).1,(bR s (dj f m)).2,k) (X.answered z c m):=by
 have h1:Rel f { s with next:=s.next.set m.frm.toNat (max (m.N.getD 2 0).toNat (s.mat.getD m.frm.toNat 0))} k { c with next:=c.next.set m.frm.toNat (max (m.N.getD 2 0).toNat (c.mat.getD m.frm.toNat 0))} :=
  ⟨h.u.mk2 h.u.own h.u.n h.u.term h.u.choice h.u.log h.u.agreed h.u.many h.u.leads h.u.votes (by show s.next.set _ _=_;rw [h.u.next,h.u.mat]) h.u.mat h.u.ticks h.u.clock h.u.heard rfl rfl rfl rfl,h.syn⟩
 have h2:Rel f { s with mat:=s.mat.set (dj f m).frm.toNat ((dj f m).N.getD 2 0).toNat,next:=s.next.set (dj f m).frm.toNat (max ((dj f m).N.getD 2 0).toNat (s.next.getD (dj f m).frm.toNat 0))} k { c with mat:=c.mat.set m.frm.toNat (m.N.getD 2 0).toNat,next:=c.next.set m.frm.toNat (max (m.N.getD 2 0).toNat (c.next.getD m.frm.toNat 0))} :=
  ⟨h.u.mk2 h.u.own h.u.n h.u.term h.u.choice h.u.log h.u.agreed h.u.many h.u.leads h.u.votes (by show s.next.set _ _=_;rw [h.u.next];rfl) (by show s.mat.set _ _=_;rw [h.u.mat];rfl) h.u.ticks h.u.clock h.u.heard rfl rfl rfl rfl,h.syn⟩
 obtain ⟨g1,g2⟩:=ka hz h2;have hl:=g2.u.len;have hnx:=g2.u.next;have hlw:=gg g2.u m.frm.toNat;have hlo:=ks g2.u _ _ (λi=>gg g2.u i);have hlay:=gg h1.u m.frm.toNat;unfold bR X.answered;have hP:(!s.leads || !((dj f m).N.getD 0 0==s.term) || !((dj f m).N.length==3)||decide ((dj f m).N.getD 2 0<0)||decide ((s.log.length:Int)<(dj f m).N.getD 2 0))=(!c.leads || !(m.N.getD 0 0==c.term) || !(m.N.length==3)||decide (m.N.getD 2 0<0)||decide ((c.log.length:Int)<m.N.getD 2 0)):=by rw [h.u.leads,h.u.term,h.u.len];rfl
 rw [hP];by_cases q1:(!c.leads || !(m.N.getD 0 0==c.term) || !(m.N.length==3)||decide (m.N.getD 2 0<0)||decide ((c.log.length:Int)<m.N.getD 2 0))=true
 ·rw [aA q1,aA q1];exact ef h
 ·rw [aw q1,aw q1];simp only;by_cases q2:m.N.getD 1 0=0
  ·rw [aA q2,aA (show (dj f m).N.getD 1 0=0 from q2)];by_cases q3:c.next.getD m.frm.toNat 0<=(m.N.getD 2 0).toNat
   ·rw [aA q3,aA (show s.next.getD (dj f m).frm.toNat 0<=((dj f m).N.getD 2 0).toNat by rw [h.u.next];exact q3)];exact ef h
   ·rw [aw q3,aw (show ¬s.next.getD (dj f m).frm.toNat 0<=((dj f m).N.getD 2 0).toNat by rw [h.u.next];exact q3)];exact gx h1 hlay
  ·rw [aw q2,aw (show ¬(dj f m).N.getD 1 0=0 from q2)];by_cases q3:(m.N.getD 2 0).toNat<=c.mat.getD m.frm.toNat 0
   ·rw [aA q3,aA (show ((dj f m).N.getD 2 0).toNat<=s.mat.getD (dj f m).frm.toNat 0 by rw [h.u.mat];exact q3)];exact ef h
   ·rw [aw q3,aw (show ¬((dj f m).N.getD 2 0).toNat<=s.mat.getD (dj f m).frm.toNat 0 by rw [h.u.mat];exact q3)];by_cases q4:(X.settle z { c with mat:=c.mat.set m.frm.toNat (m.N.getD 2 0).toNat,next:=c.next.set m.frm.toNat (max (m.N.getD 2 0).toNat (c.next.getD m.frm.toNat 0))}).1=true
    ·rw [aA q4,aA (g1.trans q4)];exact ⟨hlo,g2⟩
    ·rw [aw q4,aw (λx=>q4 (g1.symm.trans x))];by_cases q5:(X.settle z { c with mat:=c.mat.set m.frm.toNat (m.N.getD 2 0).toNat,next:=c.next.set m.frm.toNat (max (m.N.getD 2 0).toNat (c.next.getD m.frm.toNat 0))}).2.next.getD m.frm.toNat 0<(X.settle z { c with mat:=c.mat.set m.frm.toNat (m.N.getD 2 0).toNat,next:=c.next.set m.frm.toNat (max (m.N.getD 2 0).toNat (c.next.getD m.frm.toNat 0))}).2.log.length
     ·rw [aA q5,aA]
      ·exact gx g2 hlw
      ·have:=q5;rw [<-hl,<-hnx] at this;exact this
     ·rw [aw q5,aw]
      ·exact ef g2
      ·intro x;apply q5;rw [<-hl,<-hnx];exact x
end
end
end Go.Proofs.YtnhefallmioefaaGreat
